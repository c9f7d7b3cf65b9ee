/- The step that lin.Norm folds with: it adds a coefficient to the sums of its variable in the map; and the fold over all terms. The conditions stand in each statement. -/
import Derived.Test.YtmcljhjmmipagaaValueG
import Derived.Maps.OwnOps
import Derived.Maps.OwnSet
import Derived.Maps.Ext
namespace Go.Proofs.Ytmcljhjmmipagaa.PL
open Go.RowKit Go.Proofs.YtmcljhjmmipagaaW.PrintWords Go.Proofs.YtmcljhjmmipagaaW.PrintLast Go.Proofs.YtmcljhjmmipagaaW.PrintMore
open Go.Maps (Keyed IsMap has)
set_option linter.unusedVariables false
set_option linter.unusedSimpArgs false

def pairD (a b : Int) : DataW Unit := .agg [.lit (.int .i64 a), .lit (.int .i64 b)]
/-- How an element of the map reads: two ints. -/
def pairR (v : Value) : Option (DataW Unit × List MemPlace) :=
 match v with
 | .agg xs => match xs.toList with
  | [Value.int .i64 a, Value.int .i64 b] => some (pairD a b, [])
  | _ => none
 | _ => none
theorem pairR_mk (a b : Int) : pairR (.agg #[.int .i64 a, .int .i64 b]) = some (pairD a b, []) := rfl
theorem pairD_inj {a b c d : Int} (h : pairD a b = pairD c d) : a = c ∧ b = d := by
 simpa [pairD] using h
theorem pairR_inv {v : Value} {a b : Int} {ps : List MemPlace} (h : pairR v = some (pairD a b, ps)) : v = .agg #[.int .i64 a, .int .i64 b] := by
 unfold pairR at h
 split at h
 ·
  split at h
  ·
   rename_i xs _ c d hx
   simp only [Option.some.injEq, Prod.mk.injEq] at h
   obtain ⟨rfl, rfl⟩ := pairD_inj h.1
   have : xs = #[Value.int .i64 c, Value.int .i64 d] := by rw [← Array.toArray_toList (xs := xs), hx]
   rw [this]
  ·
   cases h
 ·
  cases h

theorem law3 : Keyed Try.prog 3 := Maps.int_keyed Try.underlying3
theorem zero57 (w : World) : (zeroValue 57).run Try.prog w = .ok (.agg #[.int .i64 0, .int .i64 0]) w := by kernel_rfl
theorem wf_of {x : Int} (h0 : -9223372036854775808 ≤ x) (h1 : x ≤ 9223372036854775807) : (Lit.int .i64 x).wf = true := WalkArith.wf_i64 (by omega)
theorem key_of {x : Int} (h : (Lit.int .i64 x).wf = true) : keyOf Try.prog 3 (.int .i64 x) = some (.int .i64 x) := Maps.keyOf_int_mk Try.underlying3 h

/-- 'm[k]' at elements of two ints. -/
theorem wpList_lookup_pair (w : World) {ops : Array Oper} {rest : List Oper} {o : Oper} {a : Act} {Q : Exit → Act → World → Prop}
  (hg : o.guard = none) (m x : Operand) (hop : o.op = Op.lookup 55 m x false) (b n : Nat) (D : DataW Unit)
  (hm : a.eval m = .map (some b)) (hown : w.ownsMap Try.prog 3 pairR b n D) (k p q : Int) (hx : a.eval x = .int .i64 k) (hk : (Lit.int .i64 k).wf = true) (hat : D.atKey (.int .i64 k) (pairD 0 0) = pairD p q)
  (hK : wpList Try.prog ops Q rest (a.put o.dst (.agg #[.int .i64 p, .int .i64 q])) w) :
  wpList Try.prog ops Q (o :: rest) a w := by
 refine wpList_plain hg fun K' hK' => ?_
 obtain ⟨v, ps, hrun, hR⟩ := hown.lookup law3 Try.underlying55 (zero57 w) (pairR_mk 0 0) (key_of hk)
 rw [hat] at hR
 obtain rfl := pairR_inv hR
 unfold Oper.wp
 simp [execOp, hop, hm, hx, hrun, Result.andThen]
 exact hK' _ _ hK

set_option maxRecDepth 100000 in
set_option maxHeartbeats 4000000 in
theorem normStep_calls (m n : Nat) (D : DataW Unit) (c lit p q : Int) (w : World) (hown : w.ownsMap Try.prog 3 pairR m n D) (hn : n ≤ 1000000) (hl0 : -65536 ≤ lit) (hl1 : lit ≤ 65536)
  (hat : D.atKey (.int .i64 (ofI lit)) (pairD 0 0) = pairD p q) (hp0 : -9223372036854775808 ≤ p + c) (hp1 : p + c ≤ 9223372036854775807) (hq0 : -9223372036854775808 ≤ q + c) (hq1 : q + c ≤ 9223372036854775807) :
  Calls Try.prog 43 #[.map (some m), .int .i64 c, .int .i64 lit] w fun e w' => e = .returned (.map (some m)) ∧ w'.ownsMap Try.prog 3 pairR m (n + 1) (D.put (.int .i64 (ofI lit)) (if 0 < lit then pairD (p + c) q else pairD p (q + c))) ∧ w.grownBy w' (some m) := by
 have ho := of_calls lit
 rw [ofW_eq (by omega) (by omega)] at ho
 have hv0 := ofI_nonneg lit
 have hv1 : ofI lit ≤ 65536 := by unfold ofI; split <;> omega
 have hwf := wf_of (x := ofI lit) (by omega) (by omega)
 generalize ofI lit = v at ho hv0 hv1 hwf hat ⊢
 have HO := Lib.hid ho
 have HA := Lib.hid hat
 have HM := Lib.hid hown
 have hu57 := Try.underlying57
 clear ho hat hown
 by_cases hp : 0 < lit
 ·
  rw [if_pos hp]
  go_enter Try.func43, Try.ntmps43
  go_wp2_with (first | (go_at_call 44; refine (HO.out _).mono ?_; rintro e w' ⟨rfl, rfl⟩) | (at_lookup; refine wpList_lookup_pair _ rfl _ _ rfl m n D rfl HM.out v p q rfl hwf HA.out ?_))
  have hs : (w.alloc (.cells #[.int .i64 (p + c), .int .i64 (q)] 57)).drew.cell? ⟨w.heap.size, 0, none⟩ = some (.int .i64 (p + c)) ∧ (w.alloc (.cells #[.int .i64 (p + c), .int .i64 (q)] 57)).drew.cell? ⟨w.heap.size, 1, none⟩ = some (.int .i64 (q)) := ⟨by simp, by simp⟩
  refine start_ (n := 5) (S := fun w' => w'.cell? ⟨w.heap.size, 0, none⟩ = some (.int .i64 (p + c)) ∧ w'.cell? ⟨w.heap.size, 1, none⟩ = some (.int .i64 (q))) (ds := [4]) #[false, false, false, false, false] (by kernel_rfl) rfl rfl hs (fun hHeld => ?_)
  have HM2 := Lib.hid (((HM.out).alloc (.cells #[.int .i64 (p + c), .int .i64 (q)] 57)).drew)
  have HG2 := Lib.hid ((World.grownBy_alloc w (.cells #[.int .i64 (p + c), .int .i64 (q)] 57) (some m)))
  clear hs
  refine pure_ (i := 0) (N := some 24) (v := ?_) (a' := ?_) (bl 5 1) rfl rfl (by kernel_rfl) (fun _ _ _ h => h) (Or.inl ⟨by rfl, ?_⟩) ?_ ?_; rotate_left; · (intro w'; go_simp; with_reducible rfl)
  rotate_left; · (simp only [Act.put, List.setIfInBounds_toArray, List.set_cons_zero, List.set_cons_succ, i64_w, i32_w]; rfl)
  refine pure_ (i := 1) (N := some 25) (v := ?_) (a' := ?_) (bl 5 3) rfl rfl (by kernel_rfl) (fun _ _ _ h => h) (Or.inl ⟨by rfl, ?_⟩) ?_ ?_; rotate_left; · (intro w'; go_simp; with_reducible rfl)
  rotate_left; · (simp only [Act.put, List.setIfInBounds_toArray, List.set_cons_zero, List.set_cons_succ, i64_w, i32_w]; rfl)
  refine take_ (i := 3) (N := some 27) (v := ?_) (a' := ?_) (bl 5 11) rfl rfl (by kernel_rfl) (fun _ _ _ h => h) (Or.inl ⟨by rfl, ?_⟩) hHeld ?_ ?_; rotate_left; · (rintro w' ⟨s0, s1⟩; go_simp; with_reducible rfl)
  rotate_left; · (simp only [Act.put, List.setIfInBounds_toArray, List.set_cons_zero, List.set_cons_succ, i64_w, i32_w]; rfl)
  refine one_ (i := 2) (N := some 26) (bl 5 15) rfl rfl (by kernel_rfl) (by decide) (fun K hK => ?_)
  refine goes_ Try.func44 (by kernel_rfl) rfl #[.int .i64 lit] (by rfl) rfl rfl (by (try simp only [List.map_toArray, List.map_cons, List.map_nil]); first | done | rfl) ?_
  refine (HO.out _).mono ?_
  rintro e w1 ⟨rfl, rfl⟩
  refine ⟨_, rfl, hK.out _ _ hHeld (fun hHeld => ?_)⟩
  clear hK K
  refine norm_ (a' := ?_) ?_ ?_
  rotate_left
  ·
   show Act.put _ (some 26) _ = _
   simp only [Act.put, List.setIfInBounds_toArray, List.set_cons_zero, List.set_cons_succ, i64_w, i32_w]
   rfl
  refine last_ (i := 4) (N := none) (bl 5 31) rfl rfl (by kernel_rfl) (by decide) (fun K hK => ?_)
  obtain ⟨W', hrun, hown', hg'⟩ := HM2.out.update law3 Try.underlying55 (by unfold maxLen; omega) (key_of hwf) (pairR_mk (p + c) (q))
  refine skip_ (w1 := W') (by rfl) rfl ?_ ?_
  ·
   simp [execOp, Act.eval, hrun, Result.andThen]
  refine hK.out _ _ ?_
  clear hK K hrun hHeld
  have HR := Lib.hid (And.intro hown' (HG2.out.trans (show World.grownBy _ W' (some m) from ⟨hg'.os, hg'.tape, hg'.output, hg'.size, hg'.block⟩)))
  clear hown' hg'
  refine done_ (by kernel_rfl) ?_
  go_wp2
  go_ret
  exact ⟨rfl, HR.out.1, HR.out.2⟩
 ·
  rw [if_neg hp]
  go_enter Try.func43, Try.ntmps43
  go_wp2_with (first | (go_at_call 44; refine (HO.out _).mono ?_; rintro e w' ⟨rfl, rfl⟩) | (at_lookup; refine wpList_lookup_pair _ rfl _ _ rfl m n D rfl HM.out v p q rfl hwf HA.out ?_))
  have hs : (w.alloc (.cells #[.int .i64 (p), .int .i64 (q + c)] 57)).drew.cell? ⟨w.heap.size, 0, none⟩ = some (.int .i64 (p)) ∧ (w.alloc (.cells #[.int .i64 (p), .int .i64 (q + c)] 57)).drew.cell? ⟨w.heap.size, 1, none⟩ = some (.int .i64 (q + c)) := ⟨by simp, by simp⟩
  refine start_ (n := 5) (S := fun w' => w'.cell? ⟨w.heap.size, 0, none⟩ = some (.int .i64 (p)) ∧ w'.cell? ⟨w.heap.size, 1, none⟩ = some (.int .i64 (q + c))) (ds := [4]) #[false, false, false, false, false] (by kernel_rfl) rfl rfl hs (fun hHeld => ?_)
  have HM2 := Lib.hid (((HM.out).alloc (.cells #[.int .i64 (p), .int .i64 (q + c)] 57)).drew)
  have HG2 := Lib.hid ((World.grownBy_alloc w (.cells #[.int .i64 (p), .int .i64 (q + c)] 57) (some m)))
  clear hs
  refine pure_ (i := 0) (N := some 24) (v := ?_) (a' := ?_) (bl 5 1) rfl rfl (by kernel_rfl) (fun _ _ _ h => h) (Or.inl ⟨by rfl, ?_⟩) ?_ ?_; rotate_left; · (intro w'; go_simp; with_reducible rfl)
  rotate_left; · (simp only [Act.put, List.setIfInBounds_toArray, List.set_cons_zero, List.set_cons_succ, i64_w, i32_w]; rfl)
  refine pure_ (i := 1) (N := some 25) (v := ?_) (a' := ?_) (bl 5 3) rfl rfl (by kernel_rfl) (fun _ _ _ h => h) (Or.inl ⟨by rfl, ?_⟩) ?_ ?_; rotate_left; · (intro w'; go_simp; with_reducible rfl)
  rotate_left; · (simp only [Act.put, List.setIfInBounds_toArray, List.set_cons_zero, List.set_cons_succ, i64_w, i32_w]; rfl)
  refine take_ (i := 3) (N := some 27) (v := ?_) (a' := ?_) (bl 5 11) rfl rfl (by kernel_rfl) (fun _ _ _ h => h) (Or.inl ⟨by rfl, ?_⟩) hHeld ?_ ?_; rotate_left; · (rintro w' ⟨s0, s1⟩; go_simp; with_reducible rfl)
  rotate_left; · (simp only [Act.put, List.setIfInBounds_toArray, List.set_cons_zero, List.set_cons_succ, i64_w, i32_w]; rfl)
  refine one_ (i := 2) (N := some 26) (bl 5 15) rfl rfl (by kernel_rfl) (by decide) (fun K hK => ?_)
  refine goes_ Try.func44 (by kernel_rfl) rfl #[.int .i64 lit] (by rfl) rfl rfl (by (try simp only [List.map_toArray, List.map_cons, List.map_nil]); first | done | rfl) ?_
  refine (HO.out _).mono ?_
  rintro e w1 ⟨rfl, rfl⟩
  refine ⟨_, rfl, hK.out _ _ hHeld (fun hHeld => ?_)⟩
  clear hK K
  refine norm_ (a' := ?_) ?_ ?_
  rotate_left
  ·
   show Act.put _ (some 26) _ = _
   simp only [Act.put, List.setIfInBounds_toArray, List.set_cons_zero, List.set_cons_succ, i64_w, i32_w]
   rfl
  refine last_ (i := 4) (N := none) (bl 5 31) rfl rfl (by kernel_rfl) (by decide) (fun K hK => ?_)
  obtain ⟨W', hrun, hown', hg'⟩ := HM2.out.update law3 Try.underlying55 (by unfold maxLen; omega) (key_of hwf) (pairR_mk (p) (q + c))
  refine skip_ (w1 := W') (by rfl) rfl ?_ ?_
  ·
   simp [execOp, Act.eval, hrun, Result.andThen]
  refine hK.out _ _ ?_
  clear hK K hrun hHeld
  have HR := Lib.hid (And.intro hown' (HG2.out.trans (show World.grownBy _ W' (some m) from ⟨hg'.os, hg'.tape, hg'.output, hg'.size, hg'.block⟩)))
  clear hown' hg'
  refine done_ (by kernel_rfl) ?_
  go_wp2
  go_ret
  exact ⟨rfl, HR.out.1, HR.out.2⟩

theorem C_keep {w W : World} {A : Option Addr} {n : Nat} {xs : List Int} (hC : Kd.C (Kd.int .i64) w A n xs) (h : ∀ a v, w.cell? a = some v → W.cell? a = some v) : Kd.C (Kd.int .i64) W A n xs := by
 obtain ⟨h1, h2, h3⟩ := hC
 refine ⟨h1, h2, fun hn => ?_⟩
 obtain ⟨ad, e, hc⟩ := h3 hn
 refine ⟨ad, e, fun j p hj => ?_⟩
 obtain ⟨c, hs, hr, hcell⟩ := hc j p hj
 exact ⟨c, hs, hr, fun i u hu => h _ _ (hcell i u hu)⟩
/-- A cell of w is a cell of W, where W is w but for a map's block. -/
theorem grown_cell {w W : World} {m : Nat} {es : Array MapEntry} {clock : Nat} (hm : w.heap[m]? = some (.map es clock)) (hg : w.grownBy W (some m)) (a : Addr) (v : Value) (h : w.cell? a = some v) : W.cell? a = some v := by
 have hlt := World.block_lt_of_cell? w _ h
 have hne : some a.block ≠ some m := by
  intro e
  injection e with e
  rw [World.cell?, e] at h
  simp [hm] at h
 rw [hg.cell_far a hlt hne]
 exact h

/-- The map's datum: of each variable the sums of its two literals. -/
def Sums (D : DataW Unit) (C L : List Int) : Prop :=
 IsMap D ∧ (∀ x, has D (.int .i64 x) = L.any (fun l => ofI l == x)) ∧ ∀ x, 0 < x → D.atKey (.int .i64 x) (pairD 0 0) = pairD (dot (· == x) C L) (dot (· == -x) C L)

theorem sums_nil : Sums (.map []) [] [] := ⟨Maps.isMap_empty, fun x => rfl, fun x _ => rfl⟩
theorem isKey (x : Int) : WideAt.IsKeyLit (.int .i64 x) := trivial
theorem sums_snoc {D : DataW Unit} {C L : List Int} {c l : Int} (h : Sums D C L) (hlen : C.length = L.length) (hl : l ≠ 0) :
  Sums (D.put (.int .i64 (ofI l)) (if 0 < l then pairD (dot (· == ofI l) C L + c) (dot (· == -ofI l) C L) else pairD (dot (· == ofI l) C L) (dot (· == -ofI l) C L + c))) (C ++ [c]) (L ++ [l]) := by
 obtain ⟨h1, h2, h3⟩ := h
 refine ⟨h1.put _ _, fun x => ?_, fun x hx => ?_⟩
 ·
  rw [List.any_append, ← h2 x]
  by_cases e : ofI l = x
  ·
   subst e
   rw [Maps.has_put_same h1 (isKey _)]
   simp
  ·
   rw [Maps.has_put_other (by simpa using fun e' : x = ofI l => e e'.symm)]
   simp [e]
 ·
  rw [dot_snoc _ _ _ _ _ hlen, dot_snoc _ _ _ _ _ hlen]
  by_cases e : ofI l = x
  ·
   subst e
   rw [Maps.atKey_put_same h1 (isKey _)]
   by_cases hp : 0 < l
   ·
    have e1 : ofI l = l := by unfold ofI; split <;> omega
    rw [if_pos hp, e1]
    rw [if_pos (by simp), if_neg (by simp; omega), Int.add_zero]
   ·
    have e1 : ofI l = -l := by unfold ofI; split <;> omega
    rw [if_neg hp, e1]
    rw [if_neg (by simp; omega), if_pos (by simp), Int.add_zero]
  ·
   rw [Maps.atKey_put_other (by simpa using fun e' : x = ofI l => e e'.symm), h3 x hx]
   have n1 : l ≠ x := by
    rintro rfl
    exact e (by unfold ofI; split <;> omega)
   have n2 : l ≠ -x := by
    rintro rfl
    exact e (by unfold ofI; split <;> omega)
   rw [if_neg (by simpa using n1), if_neg (by simpa using n2), Int.add_zero, Int.add_zero]

theorem eg43 : ∀ args w, (callFunc 43 args).run Try.prog w = .ok (.enter 43 args) w := enters_of Try.func43 (by kernel_rfl) rfl

theorem foldNorm_calls (m : Nat) (A0 : Option Addr) (c0 : Nat) (C : List Int) (A1 : Option Addr) (c1 : Nat) (L : List Int) (least : Int) (w : World) (hown : w.ownsMap Try.prog 3 pairR m 0 (.map []))
  (hC : Kd.C (Kd.int .i64) w A0 C.length C) (hL : Kd.C (Kd.int .i64) w A1 L.length L) (hlen : C.length = L.length) (oc : okC C) (ol : okL L) (hm : L.length ≤ 4096) :
  Calls Try.prog 42 #[.agg #[.slice A0 C.length c0, .slice A1 L.length c1, .int .i64 least], .map (some m), .func (.func 43) #[] #[]] w fun e w' => e = .returned (.map (some m)) ∧ ∃ D, w'.ownsMap Try.prog 3 pairR m L.length D ∧ Sums D C L ∧ w.grownBy w' (some m) := by
 have hg0 := World.grownBy_alloc w (.cells #[.slice A0 C.length c0, .slice A1 L.length c1, .int .i64 least] 24) (some m)
 have hmlt := hown.lt
 obtain ⟨es, clock, hheap, _⟩ := id hown
 have k := fold_map 43 #[] eg43 A0 c0 C A1 c1 L least (.map (some m)) w hlen (by omega)
  (fun k v W => v = .map (some m) ∧ ∃ D, W.ownsMap Try.prog 3 pairR m k D ∧ Sums D (C.take k) (L.take k) ∧ (w.alloc (.cells #[.slice A0 C.length c0, .slice A1 L.length c1, .int .i64 least] 24)).grownBy W (some m))
  ⟨rfl, _, hown.alloc _, by simpa using sums_nil, World.grownBy.refl _ _⟩
  (fun k v W hJ => ?_) (fun k v W hk hJ => ?_)
 ·
  refine k.mono ?_
  rintro e w' ⟨v, rfl, rfl, D, h1, h2, h3⟩
  refine ⟨rfl, D, h1, ?_, hg0.trans h3⟩
  rwa [List.take_of_length_le (by omega), List.take_of_length_le (by omega)] at h2
 ·
  obtain ⟨_, D, _, _, hg⟩ := hJ
  have hgw := hg0.trans hg
  refine ⟨?_, C_keep hC (grown_cell hheap hgw), C_keep hL (grown_cell hheap hgw)⟩
  rw [hg.cell_far ⟨w.heap.size, 0, none⟩ (by simp) (by simp; omega)]
  simp
 ·
  obtain ⟨rfl, D, hD, hS, hg⟩ := hJ
  have hkC : k < C.length := by omega
  have hl := ol _ (rd_mem hk)
  have hc := oc _ (rd_mem hkC)
  have hv : 0 < ofI (rd L k) := by unfold ofI; split <;> omega
  have hd1 := dot_bound (· == ofI (rd L k)) (C.take k) (L.take k) (fun c h => oc c (List.mem_of_mem_take h))
  have hd2 := dot_bound (· == -ofI (rd L k)) (C.take k) (L.take k) (fun c h => oc c (List.mem_of_mem_take h))
  rw [List.length_take] at hd1 hd2
  refine (normStep_calls m k D (rd C k) (rd L k) _ _ W hD (by omega) hl.1 hl.2.1 (hS.2.2 _ hv) (by omega) (by omega) (by omega) (by omega)).mono ?_
  rintro e w' ⟨rfl, hD', hg'⟩
  refine ⟨_, rfl, rfl, _, hD', ?_, hg.trans hg'⟩
  rw [take_rd hk, take_rd hkC]
  exact sums_snoc hS (by simp; omega) hl.2.2

end Go.Proofs.Ytmcljhjmmipagaa.PL
