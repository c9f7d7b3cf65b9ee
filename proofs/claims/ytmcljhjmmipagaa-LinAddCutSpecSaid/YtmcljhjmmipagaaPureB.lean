/- The reference's Check and Norm tell what lin.Check and lin.Norm tell. No program in sight. -/
import Derived.Test.YtmcljhjmmipagaaPureA
import Derived.Test.YtmcljhjmmipagaaPLx4
import Derived.Test.YtmcljhjmmipagaaPLx5
namespace Go.Proofs.Ytmcljhjmmipagaa.PL
open Go.RowKit Go.Proofs.YtmcljhjmmipagaaW.PrintWords Go.Proofs.YtmcljhjmmipagaaW.PrintLast Go.Proofs.YtmcljhjmmipagaaW.PrintMore
set_option linter.unusedVariables false
set_option linter.unusedSimpArgs false

theorem refCheck_l0 (C L : List Int) (a n : Int) (he : C.length = L.length) (hb : L.length ≤ 1000000) (h0 : 0 ≤ n) (h1 : n ≤ 65536) : ∀ (m j : Nat), L.length - j = m → j ≤ L.length → Ev (fun k => chalklineref12_Check.l0 k n (j : Int) C L a) (if ((C.drop j).any fun c => !withinB c) = true then 1 else if ((L.drop j).any (wrongB n)) = true then 1 else if 4096 < (L.length : Int) then 2 else 0) := by
  have hn : wrap64 (-n) = -n := wrap_id (by omega) (by omega)
  intro m
  induction m with
  | zero =>
    intro j hm hj
    refine Ev.step (Ev.pure _) (fun k => ?_)
    rw [chalklineref12_Check.l0, if_neg (by omega), List.drop_of_length_le (by omega), List.drop_of_length_le (by omega)]
    simp only [List.any_nil, Bool.false_eq_true, if_false]
    by_cases h : 4096 < (L.length : Int)
    · rw [if_pos h, if_pos (by omega)]
    · rw [if_neg h, if_neg (by omega)]
  | succ m ih =>
    intro j hm hj
    have hlt : j < L.length := by omega
    rw [drop_rd hlt, drop_rd (show j < C.length by omega)]
    simp only [List.any_cons]
    generalize hc : rd C (j : Int) = c
    generalize hl : rd L (j : Int) = l
    by_cases b1 : withinB c = false
    · have hw : c < -1099511627776 ∨ 1099511627776 < c := by
        simp only [withinB, Bool.and_eq_false_iff, decide_eq_false_iff_not] at b1; omega
      refine Ev.told (Ev.step (Ev.pure 1) (fun k => ?_)) (by simp [b1])
      rw [chalklineref12_Check.l0, if_pos (by omega), if_pos (by omega), if_pos (by omega), hc, hl]
      by_cases h : c < -1099511627776
      · rw [if_pos h]
      · rw [if_neg h, if_pos (by omega)]
    · have b1' : withinB c = true := by simpa using b1
      have hw : -1099511627776 ≤ c ∧ c ≤ 1099511627776 := by simpa [withinB] using b1'
      by_cases b2 : wrongB n l = true
      · refine Ev.told (Ev.step (Ev.pure 1) (fun k => ?_)) (by simp [b1', b2])
        rw [chalklineref12_Check.l0, if_pos (by omega), if_pos (by omega), if_pos (by omega), hc, hl, if_neg (by omega), if_neg (by omega), hn]
        simp only [wrongB, Bool.or_eq_true, beq_iff_eq, decide_eq_true_eq] at b2
        by_cases h3 : l = 0
        · rw [if_pos h3]
        · rw [if_neg h3]
          by_cases h4 : l < -n
          · rw [if_pos h4]
          · rw [if_neg h4, if_pos (by omega)]
      · have b2' : wrongB n l = false := by simpa using b2
        simp only [wrongB, Bool.or_eq_false_iff, beq_eq_false_iff_ne, decide_eq_false_iff_not] at b2'
        refine Ev.told (Ev.step (ih (j + 1) (by omega) (by omega)) (fun k => ?_)) ?_
        · rw [chalklineref12_Check.l0, if_pos (by omega), if_pos (by omega), if_pos (by omega), hc, hl, if_neg (by omega), if_neg (by omega), hn, if_neg b2'.1, if_neg (by omega), if_neg (by omega), wrap_succ (by omega)]
        · have b2'' : wrongB n l = false := by simpa using b2
          simp [b1', b2'']
theorem refCheck_ev (C L : List Int) (a n : Int) (hb : L.length ≤ 1000000) : Ev (fun k => chalklineref12_Check.f k C L a n) (lin_Check.val C L a n) := by
  have hj : Ev (fun k => chalklineref12_Check.j0 k n true C L a) 1 := Ev.step (Ev.pure _) (fun k => by rw [chalklineref12_Check.j0, if_pos rfl])
  unfold chalklineref12_Check.f lin_Check.val
  by_cases h1 : n < 0
  · simp only [if_pos h1]; exact hj
  simp only [if_neg h1]
  by_cases h2 : 65536 < n
  · simp only [if_pos h2, if_pos (show n > 65536 from h2)]; exact hj
  simp only [if_neg h2, if_neg (show ¬ n > 65536 from h2)]
  by_cases h3 : (C.length : Int) = (L.length : Int)
  · simp only [if_pos h3]
    by_cases h4 : a < -1099511627776
    · have e : ¬ withinB a = true := by simp [withinB]; omega
      simp only [if_pos h4, if_neg e]; exact hj
    · simp only [if_neg h4]
      by_cases h5 : a > 1099511627776
      · have e : ¬ withinB a = true := by simp [withinB]; omega
        simp only [if_neg e, decide_eq_true h5]; exact hj
      · have e : withinB a = true := by simp [withinB]; omega
        simp only [if_pos e, decide_eq_false h5]
        have h0 := refCheck_l0 C L a n (by omega) hb (by omega) (by omega) _ 0 rfl (Nat.zero_le _)
        simp only [List.drop_zero] at h0
        exact Ev.step h0 (fun k => by rw [chalklineref12_Check.j0, if_neg (by simp)]; rfl)
  · simp only [if_neg h3]; exact hj

/-! ### the variables -/
theorem of_ev {l : Int} (h0 : -65536 ≤ l) (h1 : l ≤ 65536) : chalklineref12_Of.f l = some (ofI l) := by
  unfold chalklineref12_Of.f ofI
  split
  · rw [wrap_id (by omega) (by omega)]
  · rfl
theorem insV_split (v : Int) (q : List Int) : ∀ p : List Int, (∀ x ∈ p, x < v) → insV v (p ++ q) = p ++ insV v q
  | [], _ => rfl
  | x :: p, h => by
    have hx := h x (by simp)
    rw [List.cons_append, insV, if_neg (by omega), if_neg (by omega), insV_split v q p (fun y hy => h y (by simp [hy]))]
    rfl
/-- Where the loop over the sorted row stands: what is left of it takes the new variable. -/
theorem vars_l1 (C L : List Int) (a : Int) (acc : List Int) (i : Nat) (v : Int) (r : List Int) (hacc : acc.length ≤ 1000000) (hi : i < 1000000)
    (hnext : Ev (fun k => chalklineref12_vars.l0 k (insV v acc) ((i + 1 : Nat) : Int) C L a) r) : ∀ (m j : Nat), acc.length - j = m → j ≤ acc.length → (∀ x ∈ acc.take j, x < v) → Ev (fun k => chalklineref12_vars.l1 k acc (i : Int) v (j : Int) C L a) r := by
  intro m
  induction m with
  | zero =>
    intro j hm hj hlt
    have e : insV v acc = acc.take j ++ [v] ++ acc.drop j := by
      have h1 : acc.take j = acc := List.take_of_length_le (by omega)
      have h2 : acc.drop j = [] := List.drop_of_length_le (by omega)
      have h3 := insV_split v [] acc (by rw [h1] at hlt; exact hlt)
      rw [List.append_nil] at h3
      rw [h3, h1, h2]
      simp [insV]
    rw [e] at hnext
    refine Ev.step hnext (fun k => ?_)
    have hl1 : (acc.take j).length ≤ acc.length := by rw [List.length_take]; omega
    have hl2 : (acc.drop j).length ≤ acc.length := by rw [List.length_drop]; omega
    simp only [chalklineref12_vars.l1]
    rw [if_neg (by omega), if_pos (by omega), if_pos (by omega)]
    simp only [Option.bind_some, Int.toNat_natCast, List.nil_append, List.length_nil, List.length_append, List.length_singleton]
    rw [if_pos (by omega), if_pos (by omega), if_pos (by omega), wrap_succ (by omega)]
  | succ m ih =>
    intro j hm hj hlt
    have hjl : j < acc.length := by omega
    have ht := take_rd hjl
    have hd := drop_rd hjl
    generalize hx : rd acc (j : Int) = x at ht hd
    by_cases h1 : x < v
    · refine Ev.step (ih (j + 1) (by omega) (by omega) (by rw [ht]; intro y hy; rcases List.mem_append.1 hy with hy | hy; exact hlt y hy; rw [List.mem_singleton.1 hy]; exact h1)) (fun k => ?_)
      simp only [chalklineref12_vars.l1]
      rw [if_pos (by omega), if_pos (by omega), hx, if_pos h1, wrap_succ (by omega)]
    · have hs := insV_split v (acc.drop j) (acc.take j) hlt
      rw [List.take_append_drop] at hs
      by_cases h2 : x = v
      · have e : insV v acc = acc := by
          rw [hs, hd, insV, if_neg (by omega), if_pos h2.symm, ← hd, List.take_append_drop]
        rw [e] at hnext
        refine Ev.step hnext (fun k => ?_)
        simp only [chalklineref12_vars.l1]
        rw [if_pos (by omega), if_pos (by omega), hx, if_neg h1, if_pos h2, wrap_succ (by omega)]
      · have e : insV v acc = acc.take j ++ [v] ++ acc.drop j := by
          rw [hs, hd, insV, if_pos (by omega)]
          simp
        rw [e] at hnext
        refine Ev.step hnext (fun k => ?_)
        have hl1 : (acc.take j).length ≤ acc.length := by rw [List.length_take]; omega
        have hl2 : (acc.drop j).length ≤ acc.length := by rw [List.length_drop]; omega
        simp only [chalklineref12_vars.l1]
        rw [if_pos (by omega), if_pos (by omega), hx, if_neg h1, if_neg h2, if_pos (by omega)]
        simp only [Option.bind_some, Int.toNat_natCast, List.nil_append, List.length_nil, List.length_append, List.length_singleton]
        rw [if_pos (by omega), if_pos (by omega), if_pos (by omega), wrap_succ (by omega)]

theorem vars_l0 (C L : List Int) (a : Int) (hL : ∀ l ∈ L, -65536 ≤ l ∧ l ≤ 65536) (hb : L.length ≤ 1000) : ∀ (m j : Nat) (acc : List Int), L.length - j = m → j ≤ L.length → acc.length ≤ j → Ev (fun k => chalklineref12_vars.l0 k acc (j : Int) C L a) ((L.drop j).foldl (fun acc l => insV (ofI l) acc) acc) := by
  intro m
  induction m with
  | zero =>
    intro j acc hm hj ha
    refine Ev.step (Ev.pure _) (fun k => ?_)
    simp only [chalklineref12_vars.l0]
    rw [if_neg (by omega), List.drop_of_length_le (by omega)]
    rfl
  | succ m ih =>
    intro j acc hm hj ha
    have hjl : j < L.length := by omega
    rw [drop_rd hjl, List.foldl_cons]
    have hl := hL _ (rd_mem hjl)
    have hlen := insV_length (ofI (rd L (j : Int))) acc
    have h1 := vars_l1 C L a acc j (ofI (rd L (j : Int))) _ (by omega) (by omega) (ih (j + 1) (insV (ofI (rd L (j : Int))) acc) (by omega) (by omega) (by omega)) _ 0 rfl (Nat.zero_le _) (by simp)
    refine Ev.step h1 (fun k => ?_)
    simp only [chalklineref12_vars.l0]
    rw [if_pos (by omega), if_pos (by omega), of_ev hl.1 hl.2, Option.bind_some]
    rfl
theorem vars_ev (C L : List Int) (a : Int) (hL : ∀ l ∈ L, -65536 ≤ l ∧ l ≤ 65536) (hb : L.length ≤ 1000) : Ev (fun k => chalklineref12_vars.f k C L a) (varsOf L) := by
  have h := vars_l0 C L a hL hb _ 0 [] rfl (Nat.zero_le _) (by simp)
  exact h

/-! ### the two sums of a variable -/
theorem both_l0 (C L : List Int) (a v : Int) (he : C.length = L.length) (hb : L.length ≤ 1000) (oc : okC C) (hv : 1 ≤ v ∧ v ≤ 65536) : ∀ (m j : Nat) (p q : Int), L.length - j = m → j ≤ L.length →
    p = dot (fun l => l == v) (C.take j) (L.take j) → q = dot (fun l => l == -v) (C.take j) (L.take j) → Ev (fun k => chalklineref12_both.l0 k v p q (j : Int) C L a) (posS C L v, negS C L v) := by
  have hn : wrap64 (-v) = -v := wrap_id (by omega) (by omega)
  intro m
  induction m with
  | zero =>
    intro j p q hm hj hp hq
    refine Ev.step (Ev.pure _) (fun k => ?_)
    rw [chalklineref12_both.l0, if_neg (by omega), hp, hq, List.take_of_length_le (by omega), List.take_of_length_le (by omega)]
    rfl
  | succ m ih =>
    intro j p q hm hj hp hq
    have hjl : j < L.length := by omega
    have hjc : j < C.length := by omega
    have hc := oc _ (rd_mem hjc)
    have b1 := dot_bound (fun l => l == v) (C.take j) (L.take j) (fun c h => oc c (List.mem_of_mem_take h))
    have b2 := dot_bound (fun l => l == -v) (C.take j) (L.take j) (fun c h => oc c (List.mem_of_mem_take h))
    rw [← hp, List.length_take] at b1
    rw [← hq, List.length_take] at b2
    have ih' := fun p q => ih (j + 1) p q (by omega) (by omega)
    have hlen : (C.take j).length = (L.take j).length := by simp; omega
    rw [take_rd hjl, take_rd hjc, dot_snoc _ _ _ _ _ hlen, dot_snoc _ _ _ _ _ hlen, ← hp, ← hq] at ih'
    have w1 : wrap64 (p + rd C (j : Int)) = p + rd C (j : Int) := wrap_id (by omega) (by omega)
    have w2 : wrap64 (q + rd C (j : Int)) = q + rd C (j : Int) := wrap_id (by omega) (by omega)
    by_cases h1 : rd L (j : Int) = v
    · have h2 : ¬ rd L (j : Int) = -v := by omega
      refine Ev.step (ih' _ _ rfl rfl) (fun k => ?_)
      rw [chalklineref12_both.l0, if_pos (by omega), if_pos (by omega), if_pos h1, if_pos (by omega), hn, if_neg h2, w1, wrap_succ (by omega), if_pos (by simpa using h1), if_neg (by simpa using h2), Int.add_zero]
    · by_cases h2 : rd L (j : Int) = -v
      · refine Ev.step (ih' _ _ rfl rfl) (fun k => ?_)
        rw [chalklineref12_both.l0, if_pos (by omega), if_pos (by omega), if_neg h1, hn, if_pos h2, if_pos (by omega), w2, wrap_succ (by omega), if_neg (by simpa using h1), if_pos (by simpa using h2), Int.add_zero]
      · refine Ev.step (ih' _ _ rfl rfl) (fun k => ?_)
        rw [chalklineref12_both.l0, if_pos (by omega), if_pos (by omega), if_neg h1, hn, if_neg h2, wrap_succ (by omega), if_neg (by simpa using h1), if_neg (by simpa using h2), Int.add_zero, Int.add_zero]
theorem both_ev (C L : List Int) (a v : Int) (he : C.length = L.length) (hb : L.length ≤ 1000) (oc : okC C) (hv : 1 ≤ v ∧ v ≤ 65536) : Ev (fun k => chalklineref12_both.f k C L a v) (posS C L v, negS C L v) :=
  both_l0 C L a v he hb oc hv _ 0 0 0 rfl (Nat.zero_le _) (by simp [dot]) (by simp [dot])

end Go.Proofs.Ytmcljhjmmipagaa.PL
