/- The two steps that lin.Force folds with: the sum of the coefficients that may still come true, and the literals that are implied; the conditions stand in each statement. -/
import Derived.Test.YtmcljhjmmipagaaForceP
namespace Go.Proofs.Ytmcljhjmmipagaa.PL
open Go.RowKit Go.Proofs.YtmcljhjmmipagaaW.PrintWords Go.Proofs.YtmcljhjmmipagaaW.PrintLast Go.Proofs.YtmcljhjmmipagaaW.PrintMore
open Go.Maps (Keyed IsMap has)
set_option linter.unusedVariables false
set_option linter.unusedSimpArgs false

theorem zero3i (w : World) : (zeroValue 3).run Try.prog w = .ok (.int .i64 0) w := by kernel_rfl
theorem look_int {w : World} {m n : Nat} {D : DataW Unit} {ls : List Int} {x : Int} (h : w.ownsMap Try.prog 3 intR m n D) (hF : IsF D ls) (hx : (Lit.int .i64 x).wf = true) : (Instr.lookup 66 (.map (some m)) (.int .i64 x) false).run Try.prog w = .ok (.int .i64 (atF ls x)) w := by
 obtain ⟨v, ps, hrun, hR⟩ := h.lookup law3 Try.underlying66 (zero3i w) (intR_mk 0) (key_of hx)
 rw [hF.2.2 x] at hR
 obtain rfl := intR_inv hR
 exact hrun
theorem look_ok_int {w : World} {m n : Nat} {D : DataW Unit} {ls : List Int} {x : Int} (h : w.ownsMap Try.prog 3 intR m n D) (hF : IsF D ls) (hx : (Lit.int .i64 x).wf = true) : (Instr.lookup 66 (.map (some m)) (.int .i64 x) true).run Try.prog w = .ok (.tuple #[.int .i64 (atF ls x), .bool (ls.any (fun l => ofI l == x))]) w := by
 obtain ⟨v, ps, hrun, hR⟩ := h.look_ok law3 Try.underlying66 (zero3i w) (intR_mk 0) (key_of hx)
 rw [hF.2.2 x] at hR
 obtain rfl := intR_inv hR
 rw [hF.2.1 x] at hrun
 exact hrun

theorem grown_drew (W : World) (row : Option Nat) : W.grownBy W.drew row := ⟨rfl, rfl, rfl, Nat.le_refl _, fun _ _ _ => rfl⟩
theorem C_one {W : World} {g : Nat} {x : Int} (h : W.cell? ⟨g, 0, none⟩ = some (.int .i64 x)) : Kd.C (Kd.scalar (Value.int .i64) (fun _ => rfl)) W (some ⟨g, 0, none⟩) 1 [x] := by
 refine Kd.C_of_reads (d := 0) ⟨rfl, by omega, fun _ => ⟨_, rfl, fun j hj => ?_⟩⟩
 obtain rfl : j = 0 := by omega
 exact h

set_option maxRecDepth 100000 in
set_option maxHeartbeats 4000000 in
theorem force1_calls {Bm m n : Nat} (D : DataW Unit) (ls : List Int) (s c lit : Int) (W : World) (hb : W.cell? ⟨Bm, 0, none⟩ = some (.map (some m))) (hown : W.ownsMap Try.prog 3 intR m n D) (hF : IsF D ls) (hl0 : -65536 ≤ lit) (hl1 : lit ≤ 65536) (hs : -9223372036854775808 ≤ s + c ∧ s + c ≤ 9223372036854775807) :
  Calls Try.prog 52 #[.int .i64 s, .int .i64 c, .int .i64 lit, .pointer (some ⟨Bm, 0, none⟩)] W fun e W' => e = .returned (.int .i64 (spareS ls s c lit)) ∧ W' = W.drew := by
 have ho := of_calls lit
 rw [ofW_eq (by omega) (by omega)] at ho
 have hv0 := ofI_nonneg lit
 have hv1 : ofI lit ≤ 65536 := by unfold ofI; split <;> omega
 have hwf := wf_of (x := ofI lit) (by omega) (by omega)
 have hat := Lib.hid (fun (w' : World) (h : w'.ownsMap Try.prog 3 intR m n D) => look_int h hF hwf)
 have hneg : wrap64 (-lit) = -lit := by unfold wrap64; omega
 unfold spareS
 generalize ofI lit = v at ho hat hv0 hv1 hwf ⊢
 generalize atF ls v = x at hat ⊢
 generalize hres : (if x = -lit then s else s + c) = res
 have HRES := Lib.hid hres
 have HO := Lib.hid ho
 clear ho hF hres
 have hS : W.drew.cell? ⟨Bm, 0, none⟩ = some (.map (some m)) ∧ W.drew.ownsMap Try.prog 3 intR m n D := ⟨hb, hown.drew⟩
 clear hown
 go_enter Try.func52, Try.ntmps52
 go_wp2
 refine start_ (n := 7) (S := fun w' => w'.cell? ⟨Bm, 0, none⟩ = some (.map (some m)) ∧ w'.ownsMap Try.prog 3 intR m n D) (ds := []) #[false, false, false, false, false, false, false] (by kernel_rfl) rfl rfl hS (fun hHeld => ?_)
 clear hS
 refine pure_ (i := 1) (N := some 9) (v := ?_) (a' := ?_) (bl 7 2) rfl rfl (by kernel_rfl) (fun _ _ _ h => h) (Or.inl ⟨by rfl, ?_⟩) ?_ ?_; rotate_left; · (intro w'; go_simp; with_reducible rfl)
 rotate_left; · (simp only [Act.put, List.setIfInBounds_toArray, List.set_cons_zero, List.set_cons_succ, i64_w, i32_w]; rfl)
 refine pure_ (i := 4) (N := some 12) (v := ?_) (a' := ?_) (bl 7 18) rfl rfl (by kernel_rfl) (fun _ _ _ h => h) (Or.inl ⟨by rfl, ?_⟩) ?_ ?_; rotate_left; · (intro w'; go_simp; with_reducible rfl)
 rotate_left; · (simp only [Act.put, List.setIfInBounds_toArray, List.set_cons_zero, List.set_cons_succ, i64_w, i32_w]; rfl)
 refine pure_ (i := 5) (N := some 13) (v := ?_) (a' := ?_) (bl 7 50) rfl rfl (by kernel_rfl) (fun _ _ _ h => h) (Or.inl ⟨by rfl, ?_⟩) ?_ ?_; rotate_left; · (intro w'; go_simp; with_reducible rfl)
 rotate_left; · (simp only [Act.put, List.setIfInBounds_toArray, List.set_cons_zero, List.set_cons_succ, i64_w, i32_w]; rfl)
 refine take_ (i := 0) (N := some 8) (v := ?_) (a' := ?_) (bl 7 51) rfl rfl (by kernel_rfl) (fun _ _ _ h => h) (Or.inl ⟨by rfl, ?_⟩) hHeld ?_ ?_; rotate_left; · (rintro w' ⟨s0, s1⟩; go_simp; with_reducible rfl)
 rotate_left; · (simp only [Act.put, List.setIfInBounds_toArray, List.set_cons_zero, List.set_cons_succ, i64_w, i32_w]; rfl)
 refine one_ (i := 2) (N := some 10) (bl 7 55) rfl rfl (by kernel_rfl) (by decide) (fun K hK => ?_)
 refine goes_ Try.func44 (by kernel_rfl) rfl #[.int .i64 lit] (by rfl) rfl rfl (by (try simp only [List.map_toArray, List.map_cons, List.map_nil]); first | done | rfl) ?_
 refine (HO.out _).mono ?_
 rintro e w1 ⟨rfl, rfl⟩
 refine ⟨_, rfl, hK.out _ _ hHeld (fun hHeld => ?_)⟩
 clear hK K
 refine norm_ (a' := ?_) ?_ ?_
 rotate_left
 ·
  show Act.put _ (some 10) _ = _
  simp only [Act.put, List.setIfInBounds_toArray, List.set_cons_zero, List.set_cons_succ, i64_w, i32_w]
  rfl
 refine take_ (i := 3) (N := some 11) (v := ?_) (a' := ?_) (bl 7 63) rfl rfl (by kernel_rfl) (fun _ _ _ h => h) (Or.inl ⟨by rfl, ?_⟩) hHeld ?_ ?_
 rotate_left
 ·
  rintro w' ⟨s0, s1⟩
  simp [execOp, Act.eval, hat.out w' s1, Result.andThen]
  with_reducible rfl
 rotate_left
 ·
  simp only [Act.put, List.setIfInBounds_toArray, List.set_cons_zero, List.set_cons_succ, i64_w, i32_w]
  rfl
 by_cases hx : x = -lit
 ·
  have e1 : decide (x = -lit) = true := by simpa using hx
  refine pure_ (i := 6) (N := some 14) (v := (.bool true)) (a' := ?_) (bl 7 127) rfl rfl (by kernel_rfl) (fun _ _ _ h => h) (Or.inl ⟨by rfl, ?_⟩) ?_ ?_
  ·
   intro w'
   first | (go_simp; done) | (go_simp; simp only [hneg, e1]; with_reducible rfl)
  rotate_left
  ·
   simp only [Act.put, List.setIfInBounds_toArray, List.set_cons_zero, List.set_cons_succ, i64_w, i32_w]
   rfl
  refine done_ (by kernel_rfl) ?_
  obtain rfl := (if_pos hx).symm.trans HRES.out
  go_wp2
  go_ret
  exact ⟨rfl, rfl⟩
 ·
  have e1 : decide (x = -lit) = false := by simpa using hx
  refine pure_ (i := 6) (N := some 14) (v := (.bool false)) (a' := ?_) (bl 7 127) rfl rfl (by kernel_rfl) (fun _ _ _ h => h) (Or.inl ⟨by rfl, ?_⟩) ?_ ?_
  ·
   intro w'
   first | (go_simp; done) | (go_simp; simp only [hneg, e1]; with_reducible rfl)
  rotate_left
  ·
   simp only [Act.put, List.setIfInBounds_toArray, List.set_cons_zero, List.set_cons_succ, i64_w, i32_w]
   rfl
  refine done_ (by kernel_rfl) ?_
  obtain rfl := (if_neg hx).symm.trans HRES.out
  go_wp2
  go_ret
  exact ⟨rfl, rfl⟩

set_option maxRecDepth 100000 in
set_option maxHeartbeats 4000000 in
theorem force2_calls {Bm m n : Nat} (D : DataW Unit) (ls : List Int) {Bs : Nat} (v : Value) (acc : List Int) (c lit spare : Int) (base : Nat) (W : World) (hb : W.cell? ⟨Bm, 0, none⟩ = some (.map (some m))) (hbs : W.cell? ⟨Bs, 0, none⟩ = some (.int .i64 spare)) (hown : W.ownsMap Try.prog 3 intR m n D) (hF : IsF D ls) (hl0 : -65536 ≤ lit) (hl1 : lit ≤ 65536) (hv : W.ownsRow base 3 1 v acc.length (acc.map (Value.int .i64))) (hbase : base ≤ W.heap.size) (hlen : acc.length ≤ 1000000) :
  Calls Try.prog 54 #[v, .int .i64 c, .int .i64 lit, .pointer (some ⟨Bm, 0, none⟩), .pointer (some ⟨Bs, 0, none⟩)] W fun e W' => ∃ v', e = .returned v' ∧ W'.ownsRow base 3 1 v' (if (atF ls (ofI lit) == 0 && decide (spare < c)) = true then acc ++ [lit] else acc).length ((if (atF ls (ofI lit) == 0 && decide (spare < c)) = true then acc ++ [lit] else acc).map (Value.int .i64)) ∧ W.grownBy W' v.ownBlock ∧ (v'.ownBlock = v.ownBlock ∨ ∃ b, v'.ownBlock = some b ∧ W.heap.size ≤ b) := by
 have ho := of_calls lit
 rw [ofW_eq (by omega) (by omega)] at ho
 have hv0 := ofI_nonneg lit
 have hv1 : ofI lit ≤ 65536 := by unfold ofI; split <;> omega
 have hwf := wf_of (x := ofI lit) (by omega) (by omega)
 have hat := Lib.hid (fun (w' : World) (h : w'.ownsMap Try.prog 3 intR m n D) => look_int h hF hwf)
 have hu22 := Try.underlying22
 generalize ofI lit = y at ho hat hv0 hv1 hwf ⊢
 generalize atF ls y = x at hat ⊢
 generalize hres : (if (x == 0 && decide (spare < c)) = true then acc ++ [lit] else acc) = res
 have HRES := Lib.hid hres
 have HO := Lib.hid ho
 have HV := Lib.hid hv
 clear ho hF hv hres
 have hS : W.drew.cell? ⟨Bm, 0, none⟩ = some (.map (some m)) ∧ W.drew.ownsMap Try.prog 3 intR m n D ∧ W.drew.cell? ⟨Bs, 0, none⟩ = some (.int .i64 spare) := ⟨hb, hown.drew, hbs⟩
 clear hown hb hbs
 go_enter Try.func54, Try.ntmps54
 go_wp2
 refine start_ (n := 10) (S := fun w' => w'.cell? ⟨Bm, 0, none⟩ = some (.map (some m)) ∧ w'.ownsMap Try.prog 3 intR m n D ∧ w'.cell? ⟨Bs, 0, none⟩ = some (.int .i64 spare)) (ds := []) #[false, false, false, false, false, false, false, false, false, false] (by kernel_rfl) rfl rfl hS (fun hHeld => ?_)
 clear hS
 refine pure_ (i := 1) (N := some 10) (v := ?_) (a' := ?_) (bl 10 2) rfl rfl (by kernel_rfl) (fun _ _ _ h => h) (Or.inl ⟨by rfl, ?_⟩) ?_ ?_; rotate_left; · (intro w'; go_simp; with_reducible rfl)
 rotate_left; · (simp only [Act.put, List.setIfInBounds_toArray, List.set_cons_zero, List.set_cons_succ, i64_w, i32_w]; rfl)
 refine take_ (i := 0) (N := some 9) (v := ?_) (a' := ?_) (bl 10 3) rfl rfl (by kernel_rfl) (fun _ _ _ h => h) (Or.inl ⟨by rfl, ?_⟩) hHeld ?_ ?_; rotate_left; · (rintro w' ⟨s0, s1, s2⟩; go_simp; with_reducible rfl)
 rotate_left; · (simp only [Act.put, List.setIfInBounds_toArray, List.set_cons_zero, List.set_cons_succ, i64_w, i32_w]; rfl)
 refine one_ (i := 2) (N := some 11) (bl 10 7) rfl rfl (by kernel_rfl) (by decide) (fun K hK => ?_)
 refine goes_ Try.func44 (by kernel_rfl) rfl #[.int .i64 lit] (by rfl) rfl rfl (by (try simp only [List.map_toArray, List.map_cons, List.map_nil]); first | done | rfl) ?_
 refine (HO.out _).mono ?_
 rintro e w1 ⟨rfl, rfl⟩
 refine ⟨_, rfl, hK.out _ _ hHeld (fun hHeld => ?_)⟩
 clear hK K
 refine norm_ (a' := ?_) ?_ ?_
 rotate_left
 ·
  show Act.put _ (some 11) _ = _
  simp only [Act.put, List.setIfInBounds_toArray, List.set_cons_zero, List.set_cons_succ, i64_w, i32_w]
  rfl
 refine take_ (i := 3) (N := some 12) (v := ?_) (a' := ?_) (bl 10 15) rfl rfl (by kernel_rfl) (fun _ _ _ h => h) (Or.inl ⟨by rfl, ?_⟩) hHeld ?_ ?_
 rotate_left
 ·
  rintro w' ⟨s0, s1, s2⟩
  simp [execOp, Act.eval, hat.out w' s1, Result.andThen]
  with_reducible rfl
 rotate_left
 ·
  simp only [Act.put, List.setIfInBounds_toArray, List.set_cons_zero, List.set_cons_succ, i64_w, i32_w]
  rfl
 by_cases hx : x = 0
 ·
  have e1 : decide (x = 0) = true := by simpa using hx
  have e0 : (x == 0) = true := by simpa using hx
  refine pure_ (i := 4) (N := some 13) (v := (.bool true)) (a' := ?_) (bl 10 31) rfl rfl (by kernel_rfl) (fun _ _ _ h => h) (Or.inl ⟨by rfl, ?_⟩) ?_ ?_
  ·
   intro w'
   first | (go_simp; done) | (go_simp; simp only [e1]; with_reducible rfl)
  rotate_left
  ·
   simp only [Act.put, List.setIfInBounds_toArray, List.set_cons_zero, List.set_cons_succ, i64_w, i32_w]
   rfl
  refine pure_ (i := 5) (N := some 14) (v := ?_) (a' := ?_) (bl 10 63) rfl rfl (by kernel_rfl) (fun _ _ _ h => h) (Or.inl ⟨by rfl, ?_⟩) ?_ ?_; rotate_left; · (intro w'; go_simp; with_reducible rfl)
  rotate_left; · (simp only [Act.put, List.setIfInBounds_toArray, List.set_cons_zero, List.set_cons_succ, i64_w, i32_w]; rfl)
  refine pure_ (i := 6) (N := some 15) (v := ?_) (a' := ?_) (bl 10 127) rfl rfl (by kernel_rfl) (fun _ _ _ h => h) (Or.inl ⟨by rfl, ?_⟩) ?_ ?_; rotate_left; · (intro w'; go_simp; with_reducible rfl)
  rotate_left; · (simp only [Act.put, List.setIfInBounds_toArray, List.set_cons_zero, List.set_cons_succ, i64_w, i32_w]; rfl)
  refine take_ (i := 7) (N := some 16) (v := ?_) (a' := ?_) (bl 10 255) rfl rfl (by kernel_rfl) (fun _ _ _ h => h) (Or.inl ⟨by rfl, ?_⟩) hHeld ?_ ?_; rotate_left; · (rintro w' ⟨s0, s1, s2⟩; go_simp; with_reducible rfl)
  rotate_left; · (simp only [Act.put, List.setIfInBounds_toArray, List.set_cons_zero, List.set_cons_succ, i64_w, i32_w]; rfl)
  by_cases hc : spare < c
  ·
   have e2 : decide (spare < c) = true := by simpa using hc
   refine pure_ (i := 8) (N := some 17) (v := (.bool true)) (a' := ?_) (bl 10 511) rfl rfl (by kernel_rfl) (fun _ _ _ h => h) (Or.inl ⟨by rfl, ?_⟩) ?_ ?_
   ·
    intro w'
    first | (go_simp; done) | (go_simp; simp only [e2]; with_reducible rfl)
   rotate_left
   ·
    simp only [Act.put, List.setIfInBounds_toArray, List.set_cons_zero, List.set_cons_succ, i64_w, i32_w]
    rfl
   refine pure_ (i := 9) (N := some 18) (v := ?_) (a' := ?_) (bl 10 1023) rfl rfl (by kernel_rfl) (fun _ _ _ h => h) (Or.inl ⟨by rfl, ?_⟩) ?_ ?_; rotate_left; · (intro w'; go_simp; with_reducible rfl)
   rotate_left; · (simp only [Act.put, List.setIfInBounds_toArray, List.set_cons_zero, List.set_cons_succ, i64_w, i32_w]; rfl)
   obtain rfl : acc ++ [lit] = res := by rw [← HRES.out, e0, e2]; rfl
   refine done_ (by kernel_rfl) ?_
   have hb4 := ((Below.refl W.heap.size W).alloc (Nat.le_refl _) (.cells #[.int .i64 lit] 3)).drew
   have HV2 := Aside0.mk (own_move HV.out (fun k hk => hb4.block k (ownBlock_lt HV.out k hk)))
   have hnew : (W.alloc (.cells #[.int .i64 lit] 3)).drew.cell? ⟨W.heap.size, 0, none⟩ = some (.int .i64 lit) := by simp
   have HG := Lib.hid ((World.grownBy_alloc W (.cells #[.int .i64 lit] 3) v.ownBlock).trans (grown_drew _ _))
   clear hb4
   go_wp2_with (first | ((with_reducible refine gate_builtin (b := .append) (xs := #[.tmp 19, .tmp 21]) rfl ?_); at_builtin; refine Kd.R_append_row (Value.int .i64) 0 (h1 := fun _ => rfl) (w0 := (W.alloc (Obj.cells #[Value.int IntKind.i64 lit] 3)).drew) base rfl (.tmp 19) (.tmp 21) 22 3 (.int .i64 0) 8 rfl Try.underlying22 info3 rfl (by decide) v acc [lit] (some ⟨W.heap.size, 0, none⟩) 1 1 (fun _ => True) rfl rfl (fun _ _ => trivial) (R_own HV2.out (fun _ _ => trivial)) (C_one hnew) (Below.refl _ _) (by simp; omega) (by omega) ?_; intro v1 w3 hR3 hb3 hg3 hat3; have H3 := Aside0.mk (And.intro (own_R hR3) (And.intro hg3 hat3)); clear hR3 hb3 hg3 hat3))
   go_wp2
   go_ret
   refine ⟨_, rfl, H3.out.1, (HG.out.trans H3.out.2.1), ?_⟩
   rcases H3.out.2.2 with e | ⟨b, e, hb⟩
   ·
    exact .inl e
   ·
    exact .inr ⟨b, e, by simp at hb; omega⟩
  ·
   have e2 : decide (spare < c) = false := by simpa using hc
   refine pure_ (i := 8) (N := some 17) (v := (.bool false)) (a' := ?_) (bl 10 511) rfl rfl (by kernel_rfl) (fun _ _ _ h => h) (Or.inl ⟨by rfl, ?_⟩) ?_ ?_
   ·
    intro w'
    first | (go_simp; done) | (go_simp; simp only [e2]; with_reducible rfl)
   rotate_left
   ·
    simp only [Act.put, List.setIfInBounds_toArray, List.set_cons_zero, List.set_cons_succ, i64_w, i32_w]
    rfl
   refine pure_ (i := 9) (N := some 18) (v := ?_) (a' := ?_) (bl 10 1023) rfl rfl (by kernel_rfl) (fun _ _ _ h => h) (Or.inl ⟨by rfl, ?_⟩) ?_ ?_; rotate_left; · (intro w'; go_simp; with_reducible rfl)
   rotate_left; · (simp only [Act.put, List.setIfInBounds_toArray, List.set_cons_zero, List.set_cons_succ, i64_w, i32_w]; rfl)
   obtain rfl : acc = res := by rw [← HRES.out, e0, e2]; rfl
   refine done_ (by kernel_rfl) ?_
   go_wp2
   go_ret
   exact ⟨_, rfl, own_move (w1 := W.drew) HV.out (fun _ _ => rfl), grown_drew W _, .inl rfl⟩
 ·
  have e1 : decide (x = 0) = false := by simpa using hx
  have e0 : (x == 0) = false := by simpa using hx
  refine pure_ (i := 4) (N := some 13) (v := (.bool false)) (a' := ?_) (bl 10 31) rfl rfl (by kernel_rfl) (fun _ _ _ h => h) (Or.inl ⟨by rfl, ?_⟩) ?_ ?_
  ·
   intro w'
   first | (go_simp; done) | (go_simp; simp only [e1]; with_reducible rfl)
  rotate_left
  ·
   simp only [Act.put, List.setIfInBounds_toArray, List.set_cons_zero, List.set_cons_succ, i64_w, i32_w]
   rfl
  refine pure_ (i := 5) (N := some 14) (v := ?_) (a' := ?_) (bl 10 63) rfl rfl (by kernel_rfl) (fun _ _ _ h => h) (Or.inl ⟨by rfl, ?_⟩) ?_ ?_; rotate_left; · (intro w'; go_simp; with_reducible rfl)
  rotate_left; · (simp only [Act.put, List.setIfInBounds_toArray, List.set_cons_zero, List.set_cons_succ, i64_w, i32_w]; rfl)
  refine pure_ (i := 6) (N := some 15) (v := undef) (a' := ?_) (bl 10 127) rfl rfl (by kernel_rfl) (fun _ _ _ h => h) (Or.inr ⟨by rfl, rfl⟩) ?_ ?_
  rotate_left
  ·
   simp only [Act.put, List.setIfInBounds_toArray, List.set_cons_zero, List.set_cons_succ, i64_w, i32_w]
   rfl
  refine pure_ (i := 7) (N := some 16) (v := undef) (a' := ?_) (bl 10 255) rfl rfl (by kernel_rfl) (fun _ _ _ h => h) (Or.inr ⟨by rfl, rfl⟩) ?_ ?_
  rotate_left
  ·
   simp only [Act.put, List.setIfInBounds_toArray, List.set_cons_zero, List.set_cons_succ, i64_w, i32_w]
   rfl
  refine pure_ (i := 8) (N := some 17) (v := undef) (a' := ?_) (bl 10 511) rfl rfl (by kernel_rfl) (fun _ _ _ h => h) (Or.inr ⟨by rfl, rfl⟩) ?_ ?_
  rotate_left
  ·
   simp only [Act.put, List.setIfInBounds_toArray, List.set_cons_zero, List.set_cons_succ, i64_w, i32_w]
   rfl
  refine pure_ (i := 9) (N := some 18) (v := ?_) (a' := ?_) (bl 10 1023) rfl rfl (by kernel_rfl) (fun _ _ _ h => h) (Or.inl ⟨by rfl, ?_⟩) ?_ ?_; rotate_left; · (intro w'; go_simp; with_reducible rfl)
  rotate_left; · (simp only [Act.put, List.setIfInBounds_toArray, List.set_cons_zero, List.set_cons_succ, i64_w, i32_w]; rfl)
  obtain rfl : acc = res := by rw [← HRES.out, e0]; rfl
  refine done_ (by kernel_rfl) ?_
  go_wp2
  go_ret
  exact ⟨_, rfl, own_move (w1 := W.drew) HV.out (fun _ _ => rfl), grown_drew W _, .inl rfl⟩

end Go.Proofs.Ytmcljhjmmipagaa.PL
