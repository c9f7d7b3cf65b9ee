/- lin.Force answers what 'lin_Force.val' says, for slices that read as lists; the conditions stand in each statement. -/
import Derived.Test.YtmcljhjmmipagaaForceS
namespace Go.Proofs.Ytmcljhjmmipagaa.PL
open Go.RowKit Go.Proofs.YtmcljhjmmipagaaW.PrintWords Go.Proofs.YtmcljhjmmipagaaW.PrintLast Go.Proofs.YtmcljhjmmipagaaW.PrintMore
open Go.Maps (Keyed IsMap has)
set_option linter.unusedVariables false
set_option linter.unusedSimpArgs false

/-- The blocks of lin.Force behind some literals. -/
structure ForceF (w : World) (Bm m : Nat) (cs : Array Value) (ls : List Int) (W : World) : Prop where
 box : W.heap[w.heap.size]? = some (.cells cs 24 (0, 0))
 mb : W.heap[Bm]? = some (.cells #[.map (some m)] 66 (0, 0))
 map : ∃ D, W.ownsMap Try.prog 3 intR m ls.length D ∧ IsF D ls
 below : Below w.heap.size w W
 size : w.heap.size < W.heap.size
 mlt : w.heap.size < m
 bm : Bm ≠ m
namespace ForceF
variable {w W : World} {Bm m : Nat} {cs : Array Value} {ls : List Int}
theorem next {W1 : World} (h : ForceF w Bm m cs ls W) (hb : Below W.heap.size W W1) : ForceF w Bm m cs ls W1 where
 box := (hb.block _ h.size).trans h.box
 mb := (hb.block _ (blk_lt h.mb)).trans h.mb
 map := by obtain ⟨D, ⟨es, cl, h1, h2⟩, hF⟩ := h.map; exact ⟨D, ⟨es, cl, (hb.block _ (blk_lt h1)).trans h1, h2⟩, hF⟩
 below := h.below.trans (hb.mono (Nat.le_of_lt h.size))
 size := Nat.lt_of_lt_of_le h.size hb.size
 mlt := h.mlt
 bm := h.bm
theorem upd {W1 : World} {D : DataW Unit} {l : Int} (h : ForceF w Bm m cs ls W) (hF : IsF D ls) (hm : W1.ownsMap Try.prog 3 intR m (ls.length + 1) (D.put (.int .i64 (ofI l)) (intD l))) (hg : W.grownBy W1 (some m)) : ForceF w Bm m cs (ls ++ [l]) W1 where
 box := (hg.block _ h.size (fun e => by injection e with e; have := h.mlt; omega)).trans h.box
 mb := (hg.block _ (blk_lt h.mb) (fun e => by injection e with e; exact h.bm e)).trans h.mb
 map := ⟨_, by rw [List.length_append]; exact hm, isF_snoc hF l⟩
 below := h.below.grown hg (Nat.le_of_lt h.size) (fun k e => by injection e with e; have := h.mlt; omega)
 size := Nat.lt_of_lt_of_le h.size hg.size
 mlt := h.mlt
 bm := h.bm
end ForceF

theorem oksF_false {lits : List Int} {k : Nat} (hk : k < lits.length) (h : badF (lits.take k) (rd lits (k : Int)) = true) : oksF lits = false := by
 rw [Bool.eq_false_iff]
 intro ho
 have := List.all_eq_true.1 ho k (List.mem_range.2 hk)
 rw [h] at this
 cases this
theorem oksF_true {lits : List Int} (h : ∀ k, k < lits.length → badF (lits.take k) (rd lits (k : Int)) = false) : oksF lits = true := by
 refine List.all_eq_true.2 fun k hk => ?_
 rw [h k (List.mem_range.1 hk)]
 rfl

set_option maxRecDepth 100000 in
set_option maxHeartbeats 8000000 in
theorem force_bad (A0_0 : Option Addr) (c0_0 : Nat) (l0_0 : List Int) (A0_1 : Option Addr) (c0_1 : Nat) (l0_1 : List Int) (a0_2 : Int) (A1 : Option Addr) (c1 : Nat) (l1 : List Int) (w : World) (hr0_0 : Kd.C (Kd.int .i64) w A0_0 l0_0.length l0_0) (hc0_0 : l0_0.length ≤ c0_0) (hr0_1 : Kd.C (Kd.int .i64) w A0_1 l0_1.length l0_1) (hc0_1 : l0_1.length ≤ c0_1) (hr1 : Kd.C (Kd.int .i64) w A1 l1.length l1) (hc1 : l1.length ≤ c1) (h1 : lin_Check.val l0_0 l0_1 a0_2 65536 ≠ 0) :
  Calls Try.prog 19 #[.agg #[.slice A0_0 l0_0.length c0_0, .slice A0_1 l0_1.length c0_1, .int .i64 a0_2], .slice A1 l1.length c1] w fun e w' => e = .returned (.tuple #[.slice none 0 0, .bool false]) ∧ Below w.heap.size w w' := by
 have hu24 := Try.underlying24
 have hu22 := Try.underlying22
 have hu66 := Try.underlying66
 have hmm := @run_makeMap Try.prog
 have hb := ((Below.refl w.heap.size w).alloc (Nat.le_refl _) (.cells #[.slice A0_0 l0_0.length c0_0, .slice A0_1 l0_1.length c0_1, .int .i64 a0_2] 24))
 have k1 := lin_right.calls A0_0 c0_0 l0_0 A0_1 c0_1 l0_1 a0_2 _ (Kd.C_below hr0_0 hb) hc0_0 (Kd.C_below hr0_1 hb) hc0_1
 have e1 : decide (lin_Check.val l0_0 l0_1 a0_2 65536 = 0) = false := by simpa using h1
 generalize lin_Check.val l0_0 l0_1 a0_2 65536 = v at k1 e1 h1
 have HB := Lib.hid hb
 clear hb hr0_0 hr0_1
 go_enter Try.func19, Try.ntmps19
 go_wp2_with fail
 refine k1.mono ?_
 rintro e w1 ⟨rfl, hb1⟩
 have HBT := Lib.hid (HB.out.trans (hb1.mono (by simp)))
 clear k1 hb1 HB
 go_wp2
 exact bodyPost_ret (results_tmp2 rfl _ _ _) rfl ⟨rfl, HBT.out⟩

set_option maxRecDepth 100000 in
set_option maxHeartbeats 8000000 in
theorem force_walk (A0_0 : Option Addr) (c0_0 : Nat) (l0_0 : List Int) (A0_1 : Option Addr) (c0_1 : Nat) (l0_1 : List Int) (a0_2 : Int) (A1 : Option Addr) (c1 : Nat) (l1 : List Int) (w : World) (hr0_0 : Kd.C (Kd.int .i64) w A0_0 l0_0.length l0_0) (hc0_0 : l0_0.length ≤ c0_0) (hr0_1 : Kd.C (Kd.int .i64) w A0_1 l0_1.length l0_1) (hc0_1 : l0_1.length ≤ c0_1) (hr1 : Kd.C (Kd.int .i64) w A1 l1.length l1) (hc1 : l1.length ≤ c1) (h1 : lin_Check.val l0_0 l0_1 a0_2 65536 = 0) (hl : l0_1.length ≤ 1000) (hll : l1.length ≤ 1000) (hlr : ∀ l ∈ l1, -9223372036854775808 ≤ l ∧ l ≤ 9223372036854775807) (x : List Int × List Int × Int) (hx : lin_Norm.val l0_0 l0_1 a0_2 = x) (r : List Int × Bool) (hr : (if oksF l1 then (if spareF l1 x.1 x.2.1 x.2.2 < 0 then ([], false) else (forcedF l1 x.1 x.2.1 (spareF l1 x.1 x.2.1 x.2.2), true)) else ([], false)) = r) :
  Calls Try.prog 19 #[.agg #[.slice A0_0 l0_0.length c0_0, .slice A0_1 l0_1.length c0_1, .int .i64 a0_2], .slice A1 l1.length c1] w fun e w' => ∃ v0_ : Value, e = .returned (.tuple #[v0_, .bool r.2]) ∧ w'.ownsRow w.heap.size 3 1 v0_ r.1.length (r.1.map (Value.int .i64)) ∧ Below w.heap.size w w' := by
 have hu24 := Try.underlying24
 have hu22 := Try.underlying22
 have hu66 := Try.underlying66
 have hmm := @run_makeMap Try.prog
 have hb := ((Below.refl w.heap.size w).alloc (Nat.le_refl _) (.cells #[.slice A0_0 l0_0.length c0_0, .slice A0_1 l0_1.length c0_1, .int .i64 a0_2] 24))
 have k1 := lin_right.calls A0_0 c0_0 l0_0 A0_1 c0_1 l0_1 a0_2 _ (Kd.C_below hr0_0 hb) hc0_0 (Kd.C_below hr0_1 hb) hc0_1
 rw [h1] at k1
 have HX := Lib.hid (show NormR x by rw [← hx]; exact norm_range hl)
 have hx2 : ncut (nraw l0_0 l0_1 a0_2) = x := by rw [← hx]; unfold lin_Norm.val; rw [if_pos h1]
 have hnorm := fun W h2 h3 => norm_good A0_0 c0_0 l0_0 A0_1 c0_1 l0_1 a0_2 W h2 hc0_0 h3 hc0_1 h1 hl x hx2
 have HN := Lib.hid hnorm
 have HLR := Lib.hid hlr
 have HR := Lib.hid hr
 have H0 := Lib.hid (And.intro hr0_0 (And.intro hr0_1 hr1))
 have HB := Lib.hid hb
 clear hb hr0_0 hr0_1 hr1 hr hx hx2 hnorm h1 hl hlr
 go_enter Try.func19, Try.ntmps19
 go_wp2_with fail
 refine k1.mono ?_
 rintro e w1 ⟨rfl, hb1⟩
 clear k1
 have hbox : w1.heap[w.heap.size]? = some (.cells #[.slice A0_0 l0_0.length c0_0, .slice A0_1 l0_1.length c0_1, .int .i64 a0_2] 24 (0, 0)) := (hb1.block w.heap.size (by simp)).trans (blk_new w _)
 have hsz := blk_lt hbox
 have hmap := World.ownsMap_made w1 Try.prog 3 intR
 have HF := Aside0.mk (show ForceF w (w1.heap.size + 1) w1.heap.size #[.slice A0_0 l0_0.length c0_0, .slice A0_1 l0_1.length c0_1, .int .i64 a0_2] [] ((w1.alloc (.map #[] 0)).alloc (.cells #[.map (some w1.heap.size)] 66)) from
  ⟨blk_alloc (blk_alloc hbox _) _, by simpa using blk_new (w1.alloc (.map #[] 0)) (.cells #[.map (some w1.heap.size)] 66), ⟨_, hmap.alloc _, isF_nil⟩, ((HB.out.trans (hb1.mono (by simp))).alloc (by omega) _).alloc (by simp; omega) _, by simp; omega, hsz, by omega⟩)
 clear hb1 hbox hmap HB
 go_wp2
 generalize (w1.alloc (.map #[] 0)).alloc (.cells #[.map (some w1.heap.size)] 66) = w2 at HF ⊢
 generalize w1.heap.size = m at HF hsz ⊢
 go_loopg [4, 5, 8, 9, 10, 19, 23] l1.length (fun gg v4 _ _ _ _ v19 _ W => ∃ k : Nat, k ≤ l1.length ∧ l1.length - k ≤ gg ∧ v4 = .slice none 0 0 ∧ v19 = .int .i64 k ∧ Aside0 (∀ j, j < k → badF (l1.take j) (rd l1 (j : Int)) = false) ∧ Aside0 (ForceF w (m + 1) m #[.slice A0_0 l0_0.length c0_0, .slice A0_1 l0_1.length c0_1, .int .i64 a0_2] (l1.take k) W))
 case atStart => exact ⟨0, Nat.zero_le _, by omega, rfl, rfl, ⟨by omega⟩, by rw [List.take_zero]; exact HF⟩
 case round =>
  clear HF
  obtain ⟨k, hk, hgg, rfl, rfl, HE, HF⟩ := hrel
  by_cases hlt : k < l1.length
  ·
   have hltz : (k : Int) < (l1.length : Int) := by omega
   obtain ⟨ad, rfl, q0⟩ := Kd.at_int (Kd.C_below H0.out.2.2 HF.out.below) (k : Int) (by omega) (by omega)
   rw [Int.toNat_natCast] at q0
   have hlr := HLR.out _ (rd_mem hlt)
   have HS := Lib.hid (And.intro (take_rd hlt) hlt)
   have HBAD := Lib.hid (fun (h : badF (l1.take k) (rd l1 (k : Int)) = true) => oksF_false hlt h)
   have HBF := Lib.hid (show badF (l1.take k) (rd l1 (k : Int)) = ((l1.take k).any (fun l => ofI l == ofW (rd l1 (k : Int))) || (rd l1 (k : Int) == 0 || (decide (rd l1 (k : Int) < -65536) || decide (65536 < ofW (rd l1 (k : Int)))))) from rfl)
   have hof := of_calls (rd l1 (k : Int))
   have hor : -9223372036854775808 ≤ ofW (rd l1 (k : Int)) ∧ ofW (rd l1 (k : Int)) ≤ 9223372036854775807 := by unfold ofW wrap64; split <;> omega
   have hofi : -65536 ≤ rd l1 (k : Int) → rd l1 (k : Int) ≤ 65536 → ofW (rd l1 (k : Int)) = ofI (rd l1 (k : Int)) := fun _ _ => ofW_eq (by omega) (by omega)
   have hup : ofW (rd l1 (k : Int)) ≤ 65536 → rd l1 (k : Int) ≤ 65536 := by unfold ofW; split <;> omega
   obtain ⟨D, hD, hDF⟩ := HF.out.map
   have hcm : wr.cell? ⟨m + 1, 0, none⟩ = some (.map (some m)) := (blk_cell HF.out.mb 0).trans rfl
   have hll2 : (l1.take k).length ≤ 1000 := by rw [List.length_take]; omega
   generalize hlit : rd l1 (k : Int) = lit at *
   have HLIT := Lib.hid hlit
   clear hlit
   have hat := fun (w' : World) (h : w'.ownsMap Try.prog 3 intR m (l1.take k).length D) => look_ok_int h hDF (wf_of hor.1 hor.2)
   have HDF := Lib.hid (And.intro hDF hll2)
   generalize ofW lit = y at *
   generalize atF (l1.take k) y = z at hat
   generalize (l1.take k).any (fun l => ofI l == y) = th at *
   have HAT := Lib.hid hat
   have HO := Lib.hid hof
   have HUP := Lib.hid (And.intro hofi hup)
   clear hat hof hDF hofi hup hll2
   go_wp2
   have hS : wr.drew.cell? ⟨m + 1, 0, none⟩ = some (.map (some m)) ∧ wr.drew.ownsMap Try.prog 3 intR m (l1.take k).length D := ⟨hcm, hD.drew⟩
   clear hcm hD q0
   refine start_ (n := 9) (S := fun w' => w'.cell? ⟨m + 1, 0, none⟩ = some (.map (some m)) ∧ w'.ownsMap Try.prog 3 intR m (l1.take k).length D) (ds := []) #[false, false, false, false, false, false, false, false, false] (by kernel_rfl) rfl rfl hS (fun hHeld => ?_)
   clear hS
   have HF2 := Aside0.mk (HF.out.next (Below.refl _ _).drew)
   clear HF
   generalize wr.drew = w5 at HF2 hHeld ⊢
   refine pure_ (i := 1) (N := some 25) (v := ?_) (a' := ?_) (bl 9 2) rfl rfl (by kernel_rfl) (fun _ _ _ h => h) (Or.inl ⟨by rfl, ?_⟩) ?_ ?_; rotate_left; · (intro w'; go_simp; with_reducible rfl)
   rotate_left; · (simp only [Act.put, List.setIfInBounds_toArray, List.set_cons_zero, List.set_cons_succ, i64_w, i32_w]; rfl)
   refine take_ (i := 0) (N := some 24) (v := ?_) (a' := ?_) (bl 9 3) rfl rfl (by kernel_rfl) (fun _ _ _ h => h) (Or.inl ⟨by rfl, ?_⟩) hHeld ?_ ?_; rotate_left; · (rintro w' ⟨s0, s1⟩; go_simp; with_reducible rfl)
   rotate_left; · (simp only [Act.put, List.setIfInBounds_toArray, List.set_cons_zero, List.set_cons_succ, i64_w, i32_w]; rfl)
   refine one_ (i := 2) (N := some 26) (bl 9 7) rfl rfl (by kernel_rfl) (by decide) (fun K hK => ?_)
   refine goes_ Try.func44 (by kernel_rfl) rfl #[.int .i64 lit] (by rfl) rfl rfl (by (try simp only [List.map_toArray, List.map_cons, List.map_nil]); first | done | rfl) ?_
   refine (HO.out _).mono ?_
   rintro e w1 ⟨rfl, rfl⟩
   refine ⟨_, rfl, hK.out _ _ hHeld (fun hHeld => ?_)⟩
   clear hK K
   refine norm_ (a' := ?_) ?_ ?_
   rotate_left
   ·
    show Act.put _ (some 26) _ = _
    simp only [Act.put, List.setIfInBounds_toArray, List.set_cons_zero, List.set_cons_succ, i64_w, i32_w]
    rfl
   refine take_ (i := 3) (N := some 27) (v := ?_) (a' := ?_) (bl 9 15) rfl rfl (by kernel_rfl) (fun _ _ _ h => h) (Or.inl ⟨by rfl, ?_⟩) hHeld ?_ ?_
   rotate_left
   ·
    rintro w' ⟨s0, s1⟩
    simp [execOp, Act.eval, HAT.out w' s1, Result.andThen]
    with_reducible rfl
   rotate_left
   ·
    simp only [Act.put, List.setIfInBounds_toArray, List.set_cons_zero, List.set_cons_succ, i64_w, i32_w]
    rfl
   refine pure_ (i := 4) (N := some 23) (v := ?_) (a' := ?_) (bl 9 31) rfl rfl (by kernel_rfl) (fun _ _ _ h => h) (Or.inl ⟨by rfl, ?_⟩) ?_ ?_; rotate_left; · (intro w'; go_simp; with_reducible rfl)
   rotate_left; · (simp only [Act.put, List.setIfInBounds_toArray, List.set_cons_zero, List.set_cons_succ, i64_w, i32_w]; rfl)
   refine pure_ (i := 5) (N := some 28) (v := ?_) (a' := ?_) (bl 9 63) rfl rfl (by kernel_rfl) (fun _ _ _ h => h) (Or.inl ⟨by rfl, ?_⟩) ?_ ?_; rotate_left; · (intro w'; go_simp; with_reducible rfl)
   rotate_left; · (simp only [Act.put, List.setIfInBounds_toArray, List.set_cons_zero, List.set_cons_succ, i64_w, i32_w]; rfl)
   refine pure_ (i := 6) (N := some 29) (v := ?_) (a' := ?_) (bl 9 127) rfl rfl (by kernel_rfl) (fun _ _ _ h => h) (Or.inl ⟨by rfl, ?_⟩) ?_ ?_; rotate_left; · (intro w'; go_simp; with_reducible rfl)
   rotate_left; · (simp only [Act.put, List.setIfInBounds_toArray, List.set_cons_zero, List.set_cons_succ, i64_w, i32_w]; rfl)
   refine pure_ (i := 7) (N := some 9) (v := ?_) (a' := ?_) (bl 9 255) rfl rfl (by kernel_rfl) (fun _ _ _ h => h) (Or.inl ⟨by rfl, ?_⟩) ?_ ?_; rotate_left; · (intro w'; go_simp; with_reducible rfl)
   rotate_left; · (simp only [Act.put, List.setIfInBounds_toArray, List.set_cons_zero, List.set_cons_succ, i64_w, i32_w]; rfl)
   refine pure_ (i := 8) (N := some 10) (v := ?_) (a' := ?_) (bl 9 511) rfl rfl (by kernel_rfl) (fun _ _ _ h => h) (Or.inl ⟨by rfl, ?_⟩) ?_ ?_; rotate_left; · (intro w'; go_simp; with_reducible rfl)
   rotate_left; · (simp only [Act.put, List.setIfInBounds_toArray, List.set_cons_zero, List.set_cons_succ, i64_w, i32_w]; rfl)
   refine done_ (by kernel_rfl) ?_
   cases th with
   | true =>
    have ho := HBAD.out (by rw [HBF.out]; simp [])
    obtain rfl : (([] : List Int), false) = r := by rw [← HR.out, ho]; rfl
    go_wp2
    exact bodyPost_ret (results_tmp2 rfl _ _ _) rfl ⟨.slice none 0 0, rfl, own_nil _ _ _ _, HF2.out.below⟩
   | false =>
    by_cases h0 : lit = 0
    ·
     have e0 : decide (lit = 0) = true := by simpa using h0
     have ho := HBAD.out (by rw [HBF.out]; simp [h0])
     obtain rfl : (([] : List Int), false) = r := by rw [← HR.out, ho]; rfl
     go_wp2
     exact bodyPost_ret (results_tmp2 rfl _ _ _) rfl ⟨.slice none 0 0, rfl, own_nil _ _ _ _, HF2.out.below⟩
    have e0 : decide (lit = 0) = false := by simpa using h0
    by_cases h1 : lit < -65536
    ·
     have e1 : decide (lit < -65536) = true := by simpa using h1
     have ho := HBAD.out (by rw [HBF.out]; simp [h1])
     obtain rfl : (([] : List Int), false) = r := by rw [← HR.out, ho]; rfl
     go_wp2
     exact bodyPost_ret (results_tmp2 rfl _ _ _) rfl ⟨.slice none 0 0, rfl, own_nil _ _ _ _, HF2.out.below⟩
    have e1 : decide (lit < -65536) = false := by simpa using h1
    by_cases h2 : 65536 < y
    ·
     have e2 : decide (65536 < y) = true := by simpa using h2
     have ho := HBAD.out (by rw [HBF.out]; simp [h2])
     obtain rfl : (([] : List Int), false) = r := by rw [← HR.out, ho]; rfl
     go_wp2_with fail
     refine (HO.out _).mono ?_
     rintro e w6 ⟨rfl, rfl⟩
     go_wp2
     exact bodyPost_ret (results_tmp2 rfl _ _ _) rfl ⟨.slice none 0 0, rfl, own_nil _ _ _ _, HF2.out.below⟩
    have e2 : decide (65536 < y) = false := by simpa using h2
    go_wp2_with fail
    refine (HO.out _).mono ?_
    rintro e w6 ⟨rfl, rfl⟩
    go_wp2
    have hyl := HUP.out.1 (by omega) (HUP.out.2 (by omega))
    have hwf := wf_of (x := y) hor.1 hor.2
    have HE2 := Aside0.mk (show ∀ j, j < k + 1 → badF (l1.take j) (rd l1 (j : Int)) = false from fun j hj => by
     rcases Nat.lt_or_eq_of_le (Nat.le_of_lt_succ hj) with hj | rfl
     ·
      exact HE.out j hj
     ·
      rw [HLIT.out, HBF.out]; simp [h0, h1, h2])
    have hS2 : w5.drew.cell? ⟨m + 1, 0, none⟩ = some (.map (some m)) ∧ w5.drew.ownsMap Try.prog 3 intR m (l1.take k).length D := ⟨hHeld.1, hHeld.2.drew⟩
    clear hHeld HE HLIT HBF HBAD
    refine start_ (n := 5) (S := fun w' => w'.cell? ⟨m + 1, 0, none⟩ = some (.map (some m)) ∧ w'.ownsMap Try.prog 3 intR m (l1.take k).length D) (ds := [4]) #[false, false, false, false, false] (by kernel_rfl) rfl rfl hS2 (fun hHeld => ?_)
    clear hS2
    have HF3 := Aside0.mk (HF2.out.next (Below.refl _ _).drew)
    clear HF2
    generalize w5.drew = w7 at HF3 hHeld ⊢
    refine pure_ (i := 1) (N := some 45) (v := ?_) (a' := ?_) (bl 5 2) rfl rfl (by kernel_rfl) (fun _ _ _ h => h) (Or.inl ⟨by rfl, ?_⟩) ?_ ?_; rotate_left; · (intro w'; go_simp; with_reducible rfl)
    rotate_left; · (simp only [Act.put, List.setIfInBounds_toArray, List.set_cons_zero, List.set_cons_succ, i64_w, i32_w]; rfl)
    refine pure_ (i := 3) (N := some 47) (v := ?_) (a' := ?_) (bl 5 10) rfl rfl (by kernel_rfl) (fun _ _ _ h => h) (Or.inl ⟨by rfl, ?_⟩) ?_ ?_; rotate_left; · (intro w'; go_simp; with_reducible rfl)
    rotate_left; · (simp only [Act.put, List.setIfInBounds_toArray, List.set_cons_zero, List.set_cons_succ, i64_w, i32_w]; rfl)
    refine take_ (i := 0) (N := some 44) (v := ?_) (a' := ?_) (bl 5 11) rfl rfl (by kernel_rfl) (fun _ _ _ h => h) (Or.inl ⟨by rfl, ?_⟩) hHeld ?_ ?_; rotate_left; · (rintro w' ⟨s0, s1⟩; go_simp; with_reducible rfl)
    rotate_left; · (simp only [Act.put, List.setIfInBounds_toArray, List.set_cons_zero, List.set_cons_succ, i64_w, i32_w]; rfl)
    refine one_ (i := 2) (N := some 46) (bl 5 15) rfl rfl (by kernel_rfl) (by decide) (fun K hK => ?_)
    refine goes_ Try.func44 (by kernel_rfl) rfl #[.int .i64 lit] (by rfl) rfl rfl (by (try simp only [List.map_toArray, List.map_cons, List.map_nil]); first | done | rfl) ?_
    refine (HO.out _).mono ?_
    rintro e w1 ⟨rfl, rfl⟩
    refine ⟨_, rfl, hK.out _ _ hHeld (fun hHeld => ?_)⟩
    clear hK K
    refine norm_ (a' := ?_) ?_ ?_
    rotate_left
    ·
     show Act.put _ (some 46) _ = _
     simp only [Act.put, List.setIfInBounds_toArray, List.set_cons_zero, List.set_cons_succ, i64_w, i32_w]
     rfl
    refine last_ (i := 4) (N := none) (bl 5 31) rfl rfl (by kernel_rfl) (by decide) (fun K hK => ?_)
    obtain ⟨W', hrun, hown', hg'⟩ := hHeld.2.update law3 Try.underlying66 (by have := HDF.out.2; unfold maxLen; omega) (key_of hwf) (intR_mk lit)
    refine skip_ (w1 := W') (by rfl) rfl ?_ ?_
    ·
     simp [execOp, Act.eval, hrun, Result.andThen]
    refine hK.out _ _ ?_
    have HF4 := Aside0.mk (HF3.out.upd (l := lit) HDF.out.1 (by rw [← hyl]; exact hown') ⟨hg'.os, hg'.tape, hg'.output, hg'.size, hg'.block⟩)
    rw [← HS.out.1] at HF4
    clear hK K hrun hHeld hown' hg' HF3
    refine done_ (by kernel_rfl) ?_
    go_wp2
    go_roundg (l1.length - (k + 1))
    case measure => omega
    case rel => exact ⟨k + 1, by omega, by omega, rfl, by go_num, HE2, HF4⟩
  ·
   have hltz : ¬ (k : Int) < (l1.length : Int) := by omega
   obtain rfl : k = l1.length := by omega
   have ho := oksF_true HE.out
   rw [List.take_of_length_le (Nat.le_refl _)] at HF
   have HR2 := Lib.hid (HR.out.symm.trans (by rw [if_pos ho]))
   clear HE HR ho
   have p0 : wr.cell? ⟨w.heap.size, 0, none⟩ = some (.slice A0_0 l0_0.length c0_0) := (blk_cell HF.out.box 0).trans rfl
   have p1 : wr.cell? ⟨w.heap.size, 1, none⟩ = some (.slice A0_1 l0_1.length c0_1) := (blk_cell HF.out.box 1).trans rfl
   have p2 : wr.cell? ⟨w.heap.size, 2, none⟩ = some (.int .i64 a0_2) := (blk_cell HF.out.box 2).trans rfl
   have hn := HN.out wr (Kd.C_below H0.out.1 HF.out.below) (Kd.C_below H0.out.2.1 HF.out.below)
   clear HN H0
   go_wp2_with fail
   refine hn.mono ?_
   rintro e w3 ⟨v0, v1, rfl, ho0, ho1, hne, hb3⟩
   clear hn hne p0 p1 p2
   obtain ⟨B0, d0, rfl, _, hC0⟩ := Kd.R_reads (R_own ho0 (ok := fun _ => True) (fun _ _ => trivial))
   obtain ⟨B1, d1, rfl, _, hC1⟩ := Kd.R_reads (R_own ho1 (ok := fun _ => True) (fun _ _ => trivial))
   have HF5 := Aside0.mk ((HF.out.next hb3).next ((Below.refl _ _).alloc (Nat.le_refl _) (.cells #[.slice B0 x.1.length d0, .slice B1 x.2.1.length d1, .int .i64 x.2.2] 24)))
   have HC := Lib.hid (And.intro (Kd.C_alloc hC0 (.cells #[.slice B0 x.1.length d0, .slice B1 x.2.1.length d1, .int .i64 x.2.2] 24)) (Kd.C_alloc hC1 (.cells #[.slice B0 x.1.length d0, .slice B1 x.2.1.length d1, .int .i64 x.2.2] 24)))
   have hxl := HX.out.least
   have hneg : IntKind.i64.wrap (-x.2.2) = -x.2.2 := by rw [i64_w]; unfold wrap64; omega
   have t0 : (w3.alloc (.cells #[.slice B0 x.1.length d0, .slice B1 x.2.1.length d1, .int .i64 x.2.2] 24)).cell? ⟨w3.heap.size, 0, none⟩ = some (.slice B0 x.1.length d0) := by simp
   have t1 : (w3.alloc (.cells #[.slice B0 x.1.length d0, .slice B1 x.2.1.length d1, .int .i64 x.2.2] 24)).cell? ⟨w3.heap.size, 1, none⟩ = some (.slice B1 x.2.1.length d1) := by simp
   have t2 : (w3.alloc (.cells #[.slice B0 x.1.length d0, .slice B1 x.2.1.length d1, .int .i64 x.2.2] 24)).cell? ⟨w3.heap.size, 2, none⟩ = some (.int .i64 x.2.2) := by simp
   clear ho0 ho1 hC0 hC1 hb3 HF
   go_wp2_with fail
   have TT := Aside0.mk (And.intro t0 (And.intro t1 t2))
   clear t0 t1 t2
   generalize w3.alloc (.cells #[.slice B0 x.1.length d0, .slice B1 x.2.1.length d1, .int .i64 x.2.2] 24) = w4 at HF5 HC TT ⊢
   obtain ⟨D, hD, hDF⟩ := HF5.out.map
   have hfold := fold_int 52 #[.pointer (some ⟨m + 1, 0, none⟩)] (enters_of Try.func52 (by kernel_rfl) rfl) B0 d0 x.1 B1 d1 x.2.1 x.2.2 (.int .i64 (-x.2.2)) w4 HX.out.len (by have := HX.out.len; have := HX.out.le; omega)
    (fun k v W => v = .int .i64 (spareF l1 (x.1.take k) (x.2.1.take k) x.2.2) ∧ ∃ q, W = (w4.alloc (.cells #[.slice B0 x.1.length d0, .slice B1 x.2.1.length d1, .int .i64 x.2.2] 24)).drewN q)
    ⟨rfl, 0, rfl⟩
    (fun k v W hJ => by
     obtain ⟨_, q, rfl⟩ := hJ
     exact ⟨(blk_cell (blk_new w4 (.cells #[.slice B0 x.1.length d0, .slice B1 x.2.1.length d1, .int .i64 x.2.2] 24)) 0).trans rfl, Kd.C_drewN (Kd.C_alloc HC.out.1 _) q, Kd.C_drewN (Kd.C_alloc HC.out.2 _) q⟩)
    (fun k v W hk hJ => by
     obtain ⟨rfl, q, rfl⟩ := hJ
     have hkC : k < x.1.length := by have := HX.out.len; omega
     have hW := HF5.out.next (pw_below_drewN ((Below.refl w4.heap.size w4).alloc (Nat.le_refl _) (.cells #[.slice B0 x.1.length d0, .slice B1 x.2.1.length d1, .int .i64 x.2.2] 24)) q)
     obtain ⟨D', hD', hDF'⟩ := hW.map
     have hc := HX.out.coef _ (rd_mem hkC)
     have hcs := HX.out.small _ (rd_mem hkC)
     have hli := HX.out.lits _ (rd_mem hk)
     have hsb := spareF_bound l1 (B := 2251799813685248) (C := x.1.take k) (L := x.2.1.take k) x.2.2 (fun c hc => by have h1 := HX.out.coef c (List.mem_of_mem_take hc); have h2 := HX.out.small c (List.mem_of_mem_take hc); omega)
     have hxle := HX.out.le
     rw [List.length_take] at hsb
     refine (force1_calls D' l1 (spareF l1 (x.1.take k) (x.2.1.take k) x.2.2) (rd x.1 k) (rd x.2.1 k) _ ((blk_cell hW.mb 0).trans rfl) hD' hDF' hli.1 hli.2.1 (by omega)).mono ?_
     rintro e w' ⟨rfl, rfl⟩
     refine ⟨_, rfl, ?_, q + 1, rfl⟩
     rw [take_rd hk, take_rd hkC, spareF_snoc _ (by simp; have := HX.out.len; omega)])
   refine hfold.mono ?_
   rintro e w5 ⟨v, rfl, rfl, q, rfl⟩
   clear hfold
   rw [List.take_of_length_le (by have := HX.out.len; omega), List.take_of_length_le (by have := HX.out.len; omega)]
   have HF6 := Aside0.mk (HF5.out.next (pw_below_drewN ((Below.refl w4.heap.size w4).alloc (Nat.le_refl _) (.cells #[.slice B0 x.1.length d0, .slice B1 x.2.1.length d1, .int .i64 x.2.2] 24)) q))
   have hb6 := pw_below_drewN ((Below.refl w4.heap.size w4).alloc (Nat.le_refl _) (.cells #[.slice B0 x.1.length d0, .slice B1 x.2.1.length d1, .int .i64 x.2.2] 24)) q
   have HC6 := Lib.hid (And.intro (Kd.C_drewN (Kd.C_alloc HC.out.1 (.cells #[.slice B0 x.1.length d0, .slice B1 x.2.1.length d1, .int .i64 x.2.2] 24)) q) (Kd.C_drewN (Kd.C_alloc HC.out.2 (.cells #[.slice B0 x.1.length d0, .slice B1 x.2.1.length d1, .int .i64 x.2.2] 24)) q))
   have t0 := (hb6.cell (p := ⟨w3.heap.size, 0, none⟩) (World.block_lt_of_cell? _ _ TT.out.1)).trans TT.out.1
   have t1 := (hb6.cell (p := ⟨w3.heap.size, 1, none⟩) (World.block_lt_of_cell? _ ⟨w3.heap.size, 1, none⟩ TT.out.2.1)).trans TT.out.2.1
   have t2 := (hb6.cell (p := ⟨w3.heap.size, 2, none⟩) (World.block_lt_of_cell? _ ⟨w3.heap.size, 2, none⟩ TT.out.2.2)).trans TT.out.2.2
   have tl := Nat.lt_of_lt_of_le (World.block_lt_of_cell? _ _ TT.out.1) hb6.size
   simp only [] at tl
   clear HF5 HC TT hb6 hD hDF
   generalize (w4.alloc (.cells #[.slice B0 x.1.length d0, .slice B1 x.2.1.length d1, .int .i64 x.2.2] 24)).drewN q = w5 at HF6 HC6 t0 t1 t2 tl ⊢
   have HR3 := HR2.out
   generalize spareF l1 x.1 x.2.1 x.2.2 = spare at HR3 ⊢
   have HRR := Lib.hid HR3
   clear HR2 HR3
   have hsp : (w5.alloc (.cells #[.int .i64 spare] 3)).cell? ⟨w5.heap.size, 0, none⟩ = some (.int .i64 spare) := by simp
   have HF7 := Aside0.mk (HF6.out.next ((Below.refl _ _).alloc (Nat.le_refl _) (.cells #[.int .i64 spare] 3)))
   clear HF6
   by_cases hneg : spare < 0
   ·
    have e0 : decide (spare < 0) = true := by simpa using hneg
    obtain rfl : (([] : List Int), false) = r := by rw [HRR.out, if_pos hneg]
    go_wp2
    exact bodyPost_ret (results_tmp2 rfl _ _ _) rfl ⟨.slice none 0 0, rfl, own_nil _ _ _ _, HF7.out.below⟩
   ·
    have e0 : decide (spare < 0) = false := by simpa using hneg
    obtain rfl : (forcedF l1 x.1 x.2.1 spare, true) = r := by rw [HRR.out, if_neg hneg]
    have hfold := fold_list 54 #[.pointer (some ⟨m + 1, 0, none⟩), .pointer (some ⟨w5.heap.size, 0, none⟩)] (enters_of Try.func54 (by kernel_rfl) rfl) B0 d0 x.1 B1 d1 x.2.1 x.2.2 (.slice none 0 0) (w5.alloc (.cells #[.int .i64 spare] 3)) HX.out.len (by have := HX.out.len; have := HX.out.le; omega)
     (fun k v W => W.ownsRow (w5.heap.size + 2) 3 1 v (forcedF l1 (x.1.take k) (x.2.1.take k) spare).length ((forcedF l1 (x.1.take k) (x.2.1.take k) spare).map (Value.int .i64)) ∧ Below (w5.heap.size + 2) ((w5.alloc (.cells #[.int .i64 spare] 3)).alloc (.cells #[.slice B0 x.1.length d0, .slice B1 x.2.1.length d1, .int .i64 x.2.2] 24)) W)
     ⟨own_nil _ _ _ _, Below.refl _ _⟩
     (fun k v W hJ => by
      have hb := hJ.2.mono (show (w5.alloc (.cells #[.int .i64 spare] 3)).heap.size ≤ w5.heap.size + 2 by simp)
      have hb' := ((Below.refl _ (w5.alloc (.cells #[.int .i64 spare] 3))).alloc (Nat.le_refl _) (.cells #[.slice B0 x.1.length d0, .slice B1 x.2.1.length d1, .int .i64 x.2.2] 24)).trans hb
      refine ⟨?_, Kd.C_below (Kd.C_alloc HC6.out.1 (.cells #[.int .i64 spare] 3)) hb', Kd.C_below (Kd.C_alloc HC6.out.2 (.cells #[.int .i64 spare] 3)) hb'⟩
      have h1 := blk_cell (blk_new (w5.alloc (.cells #[.int .i64 spare] 3)) (.cells #[.slice B0 x.1.length d0, .slice B1 x.2.1.length d1, .int .i64 x.2.2] 24)) 0
      exact (hJ.2.cell (p := ⟨(w5.alloc (.cells #[.int .i64 spare] 3)).heap.size, 0, none⟩) (by simp)).trans (h1.trans rfl))
     (fun k v W hk hJ => by
      have hb := hJ.2.mono (show (w5.alloc (.cells #[.int .i64 spare] 3)).heap.size ≤ w5.heap.size + 2 by simp)
      have hW := HF7.out.next (((Below.refl _ (w5.alloc (.cells #[.int .i64 spare] 3))).alloc (Nat.le_refl _) (.cells #[.slice B0 x.1.length d0, .slice B1 x.2.1.length d1, .int .i64 x.2.2] 24)).trans hb)
      obtain ⟨D', hD', hDF'⟩ := hW.map
      have hkC : k < x.1.length := by have := HX.out.len; omega
      have hli := HX.out.lits _ (rd_mem hk)
      have hfl := forcedF_length l1 (x.1.take k) (x.2.1.take k) spare
      have hxle := HX.out.le
      rw [List.length_take] at hfl
      have hszW := hJ.2.size
      simp only [World.size_alloc] at hszW
      have hs2 : W.cell? ⟨w5.heap.size, 0, none⟩ = some (.int .i64 spare) := (hJ.2.cell (p := ⟨w5.heap.size, 0, none⟩) (by simp)).trans ((blk_cell (blk_alloc (blk_new w5 (.cells #[.int .i64 spare] 3)) _) 0).trans rfl)
      refine (force2_calls D' l1 v (forcedF l1 (x.1.take k) (x.2.1.take k) spare) (rd x.1 k) (rd x.2.1 k) spare (w5.heap.size + 2) W ((blk_cell hW.mb 0).trans rfl) hs2 hD' hDF' hli.1 hli.2.1 hJ.1 (by omega) (by omega)).mono ?_
      rintro e w' ⟨v', rfl, hv', hg', hat'⟩
      refine ⟨v', rfl, ?_, hJ.2.grown hg' (by omega) (own_base hJ.1)⟩
      rw [take_rd hk, take_rd hkC, forcedF_snoc _ (by simp; have := HX.out.len; omega)]
      exact hv')
    clear HC6
    go_wp2_with fail
    refine hfold.mono ?_
    rintro e w7 ⟨v, rfl, hv, hb7⟩
    clear hfold
    rw [List.take_of_length_le (by have := HX.out.len; omega), List.take_of_length_le (by have := HX.out.len; omega)] at hv
    have HE := Lib.hid (And.intro hv (HF7.out.below.trans ((((Below.refl _ (w5.alloc (.cells #[.int .i64 spare] 3))).alloc (Nat.le_refl _) (.cells #[.slice B0 x.1.length d0, .slice B1 x.2.1.length d1, .int .i64 x.2.2] 24)).trans (hb7.mono (by simp))).mono (Nat.le_of_lt HF7.out.size))))
    have hws : w.heap.size ≤ w5.heap.size + 2 := by have := HF7.out.size; simp at this; omega
    clear hv hb7 HF7
    go_wp2
    exact bodyPost_ret (results_tmp2 rfl _ _ _) rfl ⟨v, rfl, own_weaken HE.out.1 hws, HE.out.2⟩


theorem lin_Force.calls (A0_0 : Option Addr) (c0_0 : Nat) (l0_0 : List Int) (A0_1 : Option Addr) (c0_1 : Nat) (l0_1 : List Int) (a0_2 : Int) (A1 : Option Addr) (c1 : Nat) (l1 : List Int) (r1 : List Int) (r2 : Bool) (w : World) (hr0_0 : Kd.C (Kd.int .i64) w A0_0 l0_0.length l0_0) (hc0_0 : l0_0.length ≤ c0_0) (hr0_1 : Kd.C (Kd.int .i64) w A0_1 l0_1.length l0_1) (hc0_1 : l0_1.length ≤ c0_1) (hr1 : Kd.C (Kd.int .i64) w A1 l1.length l1) (hc1 : l1.length ≤ c1) (h : lin_Force.f l0_0 l0_1 a0_2 l1 = some (r1, r2)) :
  Calls Try.prog 19 #[.agg #[.slice A0_0 l0_0.length c0_0, .slice A0_1 l0_1.length c0_1, .int .i64 a0_2], .slice A1 l1.length c1] w fun e w' => ∃ v0_ : Value, e = .returned (.tuple #[v0_, .bool r2]) ∧ Kd.R (Kd.int .i64) 3 w' w.heap.size (fun _ => True) v0_ r1 ∧ Below w.heap.size w w' := by
 unfold lin_Force.f at h
 split at h
 case isFalse => cases h
 case isTrue hl =>
  have h := Option.some.inj h
  unfold lin_Force.val at h
  split at h
  case isTrue hv =>
   refine (force_walk A0_0 c0_0 l0_0 A0_1 c0_1 l0_1 a0_2 A1 c1 l1 w hr0_0 hc0_0 hr0_1 hc0_1 hr1 hc1 hv hl.1 hl.2.1 hl.2.2 _ rfl (r1, r2) h).mono ?_
   rintro e w' ⟨v0_, rfl, h0, hb⟩
   exact ⟨v0_, rfl, R_own h0 (fun _ _ => trivial), hb⟩
  case isFalse hv =>
   cases h
   refine (force_bad A0_0 c0_0 l0_0 A0_1 c0_1 l0_1 a0_2 A1 c1 l1 w hr0_0 hc0_0 hr0_1 hc0_1 hr1 hc1 hv).mono ?_
   rintro e w' ⟨rfl, hb⟩
   exact ⟨.slice none 0 0, rfl, R_own (own_nil _ _ _ _) (fun _ _ => trivial), hb⟩

end Go.Proofs.Ytmcljhjmmipagaa.PL
