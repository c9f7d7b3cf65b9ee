/- The marks of the enumeration, bits and assignments; Unlike and Has over few variables. No program in sight. -/
import Derived.Test.YtmcljhjmmipagaaPureF
import Derived.Test.YtmcljhjmmipagaaPureNormCanonical
import Derived.Test.YtmcljhjmmipagaaPureNormEquivalent
import Derived.Test.YtmcljhjmmipagaaFcG
namespace Go.Proofs.Ytmcljhjmmipagaa.PL
open Go.RowKit Go.Proofs.YtmcljhjmmipagaaW.PrintWords Go.Proofs.YtmcljhjmmipagaaW.PrintLast Go.Proofs.YtmcljhjmmipagaaW.PrintMore
set_option linter.unusedVariables false
set_option linter.unusedSimpArgs false

/-! ### the marks -/
theorem getD_set (xs : List Bool) (i k : Nat) (b : Bool) (h : i < xs.length) : (xs.set i b).getD k false = if i = k then b else xs.getD k false := by
  simp only [List.getD_eq_getElem?_getD, List.getElem?_set]
  by_cases e : i = k
  · subst e; simp [h]
  · simp [e]
theorem marks_up (bits : Nat) (xs : List Bool) (hx : xs.length = 17) {v : Nat} (h1 : 1 ≤ v) (h8 : v ≤ 8) : ∀ n, n ≤ 8 → (marks bits xs n).getD (8 + v) false = if v ≤ n then (xs.getD (8 + v) false && bitB (bits : Int) (v : Int)) else xs.getD (8 + v) false
  | 0, _ => by rw [if_neg (by omega)]; rfl
  | n + 1, hn => by
    have ih := marks_up bits xs hx h1 h8 n (by omega)
    have hl : (marks bits xs n).length = 17 := by rw [marks_length, hx]
    rw [marks_succ]
    unfold markV
    by_cases hb : bitB (bits : Int) ((n + 1 : Nat) : Int) = true
    · rw [if_pos hb, getD_set _ _ _ _ (by omega), if_neg (by omega), ih]
      by_cases e : v = n + 1
      · subst e; rw [if_neg (by omega), if_pos (by omega), hb, Bool.and_true]
      · by_cases e2 : v ≤ n
        · rw [if_pos e2, if_pos (by omega)]
        · rw [if_neg e2, if_neg (by omega)]
    · rw [if_neg hb, getD_set _ _ _ _ (by omega), ih]
      by_cases e : v = n + 1
      · subst e; rw [if_pos (by omega), if_pos (by omega), Bool.eq_false_iff.2 hb, Bool.and_false]
      · rw [if_neg (by omega)]
        by_cases e2 : v ≤ n
        · rw [if_pos e2, if_pos (by omega)]
        · rw [if_neg e2, if_neg (by omega)]
theorem marks_down (bits : Nat) (xs : List Bool) (hx : xs.length = 17) {v : Nat} (h1 : 1 ≤ v) (h8 : v ≤ 8) : ∀ n, n ≤ 8 → (marks bits xs n).getD (8 - v) false = if v ≤ n then (xs.getD (8 - v) false && !bitB (bits : Int) (v : Int)) else xs.getD (8 - v) false
  | 0, _ => by rw [if_neg (by omega)]; rfl
  | n + 1, hn => by
    have ih := marks_down bits xs hx h1 h8 n (by omega)
    have hl : (marks bits xs n).length = 17 := by rw [marks_length, hx]
    rw [marks_succ]
    unfold markV
    by_cases hb : bitB (bits : Int) ((n + 1 : Nat) : Int) = true
    · rw [if_pos hb, getD_set _ _ _ _ (by omega), ih]
      by_cases e : v = n + 1
      · subst e; rw [if_pos (by omega), if_pos (by omega), hb, Bool.not_true, Bool.and_false]
      · rw [if_neg (by omega)]
        by_cases e2 : v ≤ n
        · rw [if_pos e2, if_pos (by omega)]
        · rw [if_neg e2, if_neg (by omega)]
    · rw [if_neg hb, getD_set _ _ _ _ (by omega), if_neg (by omega), ih]
      by_cases e : v = n + 1
      · subst e; rw [if_neg (by omega), if_pos (by omega), Bool.eq_false_iff.2 hb, Bool.not_false, Bool.and_true]
      · by_cases e2 : v ≤ n
        · rw [if_pos e2, if_pos (by omega)]
        · rw [if_neg e2, if_neg (by omega)]
theorem all_range_succ (p : Nat → Bool) (n : Nat) : (List.range (n + 1)).all p = ((List.range n).all p && p n) := by simp [List.range_succ]
theorem marksAll_succ (adm : Nat → Bool) (n : Nat) : marksAll adm (n + 1) = if adm n = true then marks n (marksAll adm n) 8 else marksAll adm n := rfl
theorem marksAll_up (adm : Nat → Bool) {v : Nat} (h1 : 1 ≤ v) (h8 : v ≤ 8) : ∀ n, (marksAll adm n).getD (8 + v) false = (List.range n).all (fun j => !adm j || bitB (j : Int) (v : Int))
  | 0 => by
    have e : ∀ v, v ≤ 8 → (List.replicate 17 true).getD (8 + v) false = true := by decide
    exact e v h8
  | n + 1 => by
    rw [all_range_succ, ← marksAll_up adm h1 h8 n, marksAll_succ]
    by_cases ha : adm n = true
    · rw [if_pos ha, marks_up n _ (marksAll_length adm n) h1 h8 8 (Nat.le_refl _), if_pos h8, ha]; rfl
    · rw [if_neg ha, Bool.eq_false_iff.2 ha]; simp
theorem marksAll_down (adm : Nat → Bool) {v : Nat} (h1 : 1 ≤ v) (h8 : v ≤ 8) : ∀ n, (marksAll adm n).getD (8 - v) false = (List.range n).all (fun j => !adm j || !bitB (j : Int) (v : Int))
  | 0 => by
    have e : ∀ v, v ≤ 8 → (List.replicate 17 true).getD (8 - v) false = true := by decide
    exact e v h8
  | n + 1 => by
    rw [all_range_succ, ← marksAll_down adm h1 h8 n, marksAll_succ]
    by_cases ha : adm n = true
    · rw [if_pos ha, marks_down n _ (marksAll_length adm n) h1 h8 8 (Nat.le_refl _), if_pos h8, ha]; rfl
    · rw [if_neg ha, Bool.eq_false_iff.2 ha]; simp

/-! ### bits -/
theorem and_one (x : Nat) (h : x < 256) : Go.bits .and .i64 (x : Int) 1 = ((x % 2 : Nat) : Int) := by
  have p : (2 : Int) ^ 62 = 4611686018427387904 := by decide
  have h := bits_mask .i64 62 (by decide) (fun n h0 h1 => by rw [p] at h1; rw [IntKind.wrap_i64]; omega) 1 (by decide) (x : Int) (by omega) (by rw [p]; omega)
  have e1 : (2 : Int) ^ 1 - 1 = 1 := by decide
  have e2 : (2 : Int) ^ 1 = 2 := by decide
  rw [e1, e2] at h
  rw [h]
  omega
theorem bitB_nat {j v : Nat} (hj : j < 256) (hv : v < 8) : bitB (j : Int) ((v + 1 : Nat) : Int) = decide (j / 2 ^ v % 2 = 1) := by
  rw [bit_form hv]
  have e : ((j : Int) / 2 ^ v) = ((j / 2 ^ v : Nat) : Int) := by simp
  have hlt : j / 2 ^ v ≤ j := Nat.div_le_self _ _
  rw [e]
  generalize j / 2 ^ v = x at hlt ⊢
  rw [and_one x (by omega)]
  by_cases c : x % 2 = 1
  · rw [decide_eq_true c]; exact beq_iff_eq.2 (by omega)
  · rw [decide_eq_false c]; exact beq_eq_false_iff_ne.2 (by omega)
def b2n (b : Bool) : Nat := if b then 1 else 0
theorem b2n_le (b : Bool) : b2n b ≤ 1 := by cases b <;> decide
theorem b2n_one (b : Bool) : decide (b2n b = 1) = b := by cases b <;> decide
/-- Every assignment of eight variables is one of the bits. -/
theorem realize {u : Int → Bool} (hu : Lits u) : ∃ j : Nat, j < 256 ∧ ∀ l : Int, l ≠ 0 → -8 ≤ l → l ≤ 8 → tB (j : Int) l = u l := by
  have key : ∃ j : Nat, j < 256 ∧ ∀ v : Nat, v < 8 → bitB (j : Int) ((v + 1 : Nat) : Int) = u ((v + 1 : Nat) : Int) := by
    have l1 := b2n_le (u 1); have l2 := b2n_le (u 2); have l3 := b2n_le (u 3); have l4 := b2n_le (u 4)
    have l5 := b2n_le (u 5); have l6 := b2n_le (u 6); have l7 := b2n_le (u 7); have l8 := b2n_le (u 8)
    have o1 := b2n_one (u 1); have o2 := b2n_one (u 2); have o3 := b2n_one (u 3); have o4 := b2n_one (u 4)
    have o5 := b2n_one (u 5); have o6 := b2n_one (u 6); have o7 := b2n_one (u 7); have o8 := b2n_one (u 8)
    generalize b2n (u 1) = a1 at *; generalize b2n (u 2) = a2 at *; generalize b2n (u 3) = a3 at *; generalize b2n (u 4) = a4 at *
    generalize b2n (u 5) = a5 at *; generalize b2n (u 6) = a6 at *; generalize b2n (u 7) = a7 at *; generalize b2n (u 8) = a8 at *
    refine ⟨a1 + 2 * a2 + 4 * a3 + 8 * a4 + 16 * a5 + 32 * a6 + 64 * a7 + 128 * a8, by omega, fun v hv => ?_⟩
    rw [bitB_nat (by omega) hv]
    have hv' : v = 0 ∨ v = 1 ∨ v = 2 ∨ v = 3 ∨ v = 4 ∨ v = 5 ∨ v = 6 ∨ v = 7 := by omega
    rcases hv' with rfl | rfl | rfl | rfl | rfl | rfl | rfl | rfl
    · exact (decide_eq_decide.2 (by omega)).trans o1
    · exact (decide_eq_decide.2 (by omega)).trans o2
    · exact (decide_eq_decide.2 (by omega)).trans o3
    · exact (decide_eq_decide.2 (by omega)).trans o4
    · exact (decide_eq_decide.2 (by omega)).trans o5
    · exact (decide_eq_decide.2 (by omega)).trans o6
    · exact (decide_eq_decide.2 (by omega)).trans o7
    · exact (decide_eq_decide.2 (by omega)).trans o8
  obtain ⟨j, hj, hb⟩ := key
  have hpos : ∀ x : Int, 0 < x → x ≤ 8 → tB (j : Int) x = u x := fun x h0 h8 => by
    have := hb (x.toNat - 1) (by omega)
    rw [show ((x.toNat - 1 + 1 : Nat) : Int) = x by omega] at this
    unfold tB
    rw [(ofI_pos h0).1, this, decide_eq_true h0]
    cases u x <;> rfl
  refine ⟨j, hj, fun l h0 h1 h2 => ?_⟩
  by_cases hl : 0 < l
  · exact hpos l hl h2
  · have e1 := hpos (-l) (by omega) (by omega)
    have e2 := lits_tB (j : Int) (-l) (by omega)
    have e3 := hu (-l) (by omega)
    rw [Int.neg_neg] at e2 e3
    rw [e2, e3, e1]
theorem bitB_tB {j v : Nat} (h1 : 1 ≤ v) : bitB (j : Int) (v : Int) = tB (j : Int) (v : Int) := by
  unfold tB
  rw [(ofI_pos (show (0 : Int) < v by omega)).1, decide_eq_true (show (0 : Int) < v by omega)]
  cases bitB (j : Int) (v : Int) <;> rfl

/-! ### Has, Unlike at 8, agrees -/
theorem wrap_big {j n : Nat} (h : j < n) (hn : n ≤ 9223372036854775807) : wrap64 ((j : Int) + 1) = ((j + 1 : Nat) : Int) := by rw [wrap_id (by omega) (by omega)]; omega
theorem hasB_l0 (xs : List Int) (a : Int) (hb : xs.length ≤ 9223372036854775807) : ∀ (m j : Nat), xs.length - j = m → j ≤ xs.length → Ev (fun k => chalklineref12_Has.l0 k xs a (j : Int)) (decide (a ∈ xs.drop j)) := by
  intro m
  induction m with
  | zero =>
    intro j hm hj
    refine Ev.told (Ev.step (Ev.pure false) (fun k => ?_)) ?_
    · rw [chalklineref12_Has.l0, if_neg (by omega)]
    · rw [List.drop_of_length_le (by omega)]; simp
  | succ m ih =>
    intro j hm hj
    have hlt : j < xs.length := by omega
    rw [drop_rd hlt]
    by_cases e : rd xs (j : Int) = a
    · refine Ev.told (Ev.step (Ev.pure true) (fun k => ?_)) ?_
      · rw [chalklineref12_Has.l0, if_pos (by omega), if_pos (by omega), if_pos e]
      · rw [e]; simp
    · refine Ev.told (Ev.step (ih (j + 1) (by omega) (by omega)) (fun k => ?_)) ?_
      · rw [chalklineref12_Has.l0, if_pos (by omega), if_pos (by omega), if_neg e, wrap_big hlt hb]
      · have : a ≠ rd xs (j : Int) := fun h => e h.symm
        simp [this]
theorem hasB_ev (xs : List Int) (a : Int) (hb : xs.length ≤ 9223372036854775807) : Ev (fun k => chalklineref12_Has.f k xs a) (decide (a ∈ xs)) := hasB_l0 xs a hb _ 0 rfl (Nat.zero_le _)
def good8 (seen : List Int) (x : Int) : Bool := decide (x ≠ 0 ∧ -8 ≤ x ∧ x ≤ 8 ∧ x ∉ seen ∧ -x ∉ seen)
def u8 (ls : List Int) (j : Nat) : Bool := (List.range ls.length).all (fun k => decide (k < j) || good8 (ls.take k) (rd ls (k : Int)))
theorem u8_false {ls : List Int} {j : Nat} (hj : j < ls.length) (h : good8 (ls.take j) (rd ls (j : Int)) = false) : u8 ls j = false := by
  rw [Bool.eq_false_iff]
  intro ho
  have := List.all_eq_true.1 ho j (List.mem_range.2 hj)
  rw [h] at this
  simp at this
theorem u8_step {ls : List Int} {j : Nat} (h : good8 (ls.take j) (rd ls (j : Int)) = true) : u8 ls j = u8 ls (j + 1) := by
  rw [Bool.eq_iff_iff]
  unfold u8
  simp only [List.all_eq_true, List.mem_range, Bool.or_eq_true, decide_eq_true_eq]
  constructor
  · intro H k hk
    rcases H k hk with a | a
    · exact .inl (by omega)
    · exact .inr a
  · intro H k hk
    rcases H k hk with a | a
    · by_cases e : k = j
      · subst e; exact .inr h
      · exact .inl (by omega)
    · exact .inr a
theorem unlike8_l0 (ls : List Int) (hb : ls.length ≤ 9223372036854775807) : ∀ (m j : Nat), ls.length - j = m → j ≤ ls.length → Ev (fun k => chalklineref12_Unlike.l0 k ls 8 (j : Int)) (u8 ls j) := by
  have hn : wrap64 (-8) = -8 := wrap_id (by omega) (by omega)
  intro m
  induction m with
  | zero =>
    intro j hm hj
    refine Ev.told (Ev.step (Ev.pure true) (fun k => ?_)) ?_
    · rw [chalklineref12_Unlike.l0, if_neg (by omega)]
    · refine (List.all_eq_true.2 fun k hk => ?_).symm
      have := List.mem_range.1 hk
      simp only [Bool.or_eq_true, decide_eq_true_eq]
      exact .inl (by omega)
  | succ m ih =>
    intro j hm hj
    have hlt : j < ls.length := by omega
    have hf := fun h => u8_false (ls := ls) hlt h
    have hs := fun h => u8_step (ls := ls) (j := j) h
    have hu : ∀ k, chalklineref12_Unlike.l0 (k + 1) ls 8 (j : Int) = (if (rd ls (j : Int)) = 0 then (some false) else (if (rd ls (j : Int)) < -8 then (some false) else (if (rd ls (j : Int)) > 8 then (some false) else ((chalklineref12_Has.f k (ls.take j) (rd ls (j : Int))).bind fun t309 => (if t309 = true then (some false) else ((chalklineref12_Has.f k (ls.take j) (wrap64 (-(rd ls (j : Int))))).bind fun t312 => (if t312 = true then (some false) else (chalklineref12_Unlike.l0 k ls 8 (wrap64 ((j : Int) + 1)))))))))) := fun k => by
      rw [chalklineref12_Unlike.l0, if_pos (by omega), if_pos (by omega), if_pos (show (j : Int) ≤ (ls.length : Int) by omega), hn, Int.toNat_natCast]
    have hgq : good8 (ls.take j) (rd ls (j : Int)) = decide (rd ls (j : Int) ≠ 0 ∧ -8 ≤ rd ls (j : Int) ∧ rd ls (j : Int) ≤ 8 ∧ rd ls (j : Int) ∉ ls.take j ∧ -rd ls (j : Int) ∉ ls.take j) := rfl
    generalize rd ls (j : Int) = l at *
    by_cases h1 : l = 0
    · rw [hf (by rw [hgq, decide_eq_false (fun h => h.1 h1)])]
      exact Ev.step (Ev.pure _) (fun k => by rw [hu, if_pos h1])
    by_cases h2 : l < -8
    · rw [hf (by rw [hgq, decide_eq_false (fun h => by omega)])]
      exact Ev.step (Ev.pure _) (fun k => by rw [hu, if_neg h1, if_pos h2])
    by_cases h3 : l > 8
    · rw [hf (by rw [hgq, decide_eq_false (fun h => by omega)])]
      exact Ev.step (Ev.pure _) (fun k => by rw [hu, if_neg h1, if_neg h2, if_pos h3])
    have hw : wrap64 (-l) = -l := wrap_id (by omega) (by omega)
    have e1 := hasB_ev (ls.take j) l (by rw [List.length_take]; omega)
    have e2 := hasB_ev (ls.take j) (-l) (by rw [List.length_take]; omega)
    refine Ev.step (G := fun k => (chalklineref12_Has.f k (ls.take j) l).bind fun t309 => (if t309 = true then (some false) else ((chalklineref12_Has.f k (ls.take j) (-l)).bind fun t312 => (if t312 = true then (some false) else (chalklineref12_Unlike.l0 k ls 8 (wrap64 ((j : Int) + 1))))))) ?_ (fun k => by rw [hu, if_neg h1, if_neg h2, if_neg h3, hw])
    refine Ev.bind e1 ?_
    by_cases h4 : l ∈ ls.take j
    · rw [hf (by rw [hgq, decide_eq_false (fun h => h.2.2.2.1 h4)])]
      simp only [decide_eq_true h4, if_true]
      exact Ev.pure _
    simp only [decide_eq_false h4, Bool.false_eq_true, if_false]
    refine Ev.bind e2 ?_
    by_cases h5 : -l ∈ ls.take j
    · rw [hf (by rw [hgq, decide_eq_false (fun h => h.2.2.2.2 h5)])]
      simp only [decide_eq_true h5, if_true]
      exact Ev.pure _
    simp only [decide_eq_false h5, Bool.false_eq_true, if_false]
    rw [hs (by rw [hgq, decide_eq_true ⟨h1, by omega, by omega, h4, h5⟩]), wrap_big hlt hb]
    exact ih (j + 1) (by omega) (by omega)
theorem unlike8_ev (ls : List Int) (hb : ls.length ≤ 9223372036854775807) : Ev (fun k => chalklineref12_Unlike.f k ls 8) (u8 ls 0) := unlike8_l0 ls hb _ 0 rfl (Nat.zero_le _)
theorem u8_good {ls : List Int} (h : u8 ls 0 = true) {k : Nat} (hk : k < ls.length) : rd ls (k : Int) ≠ 0 ∧ -8 ≤ rd ls (k : Int) ∧ rd ls (k : Int) ≤ 8 ∧ rd ls (k : Int) ∉ ls.take k ∧ -rd ls (k : Int) ∉ ls.take k := by
  have := List.all_eq_true.1 h k (List.mem_range.2 hk)
  simpa [good8] using this
theorem u8_mem {ls : List Int} (h : u8 ls 0 = true) : ∀ l ∈ ls, l ≠ 0 ∧ -8 ≤ l ∧ l ≤ 8 := fun l hl => by
  obtain ⟨k, hk, e⟩ := mem_at hl
  have := u8_good h hk
  rw [e] at this
  exact ⟨this.1, this.2.1, this.2.2.1⟩
theorem u8_oks {ls : List Int} (h : u8 ls 0 = true) : oksF ls = true := by
  refine List.all_eq_true.2 fun k hk => ?_
  have hk := List.mem_range.1 hk
  have g := u8_good h hk
  rw [badF_eq (by omega) (by omega), decide_eq_true ⟨g.1, by omega, by omega, g.2.2.2⟩]
  rfl
theorem agrees_l0 (ls : List Int) (j0 : Int) (hb : ls.length ≤ 1000) (hL : ∀ l ∈ ls, l ≠ 0 ∧ -8 ≤ l ∧ l ≤ 8) : ∀ (m j : Nat), ls.length - j = m → j ≤ ls.length → Ev (fun k => chalklinelaw12_agrees.l0 k ls j0 (j : Int)) ((ls.drop j).all (tB j0)) := by
  intro m
  induction m with
  | zero =>
    intro j hm hj
    refine Ev.step (Ev.pure _) (fun k => ?_)
    rw [chalklinelaw12_agrees.l0, if_neg (by omega), List.drop_of_length_le (by omega)]
    rfl
  | succ m ih =>
    intro j hm hj
    have hlt : j < ls.length := by omega
    have hl := hL _ (rd_mem hlt)
    rw [drop_rd hlt, List.all_cons]
    have hmx := mx_of (l := rd ls (j : Int)) (by omega) (by omega)
    have ht : (((Go.bits .and .i64 (shr .i64 j0 (IntKind.u64.wrap (wrap64 ((mx (rd ls (j : Int)) (wrap64 (-(rd ls (j : Int))))) - 1)))) 1) == 1) != (decide ((rd ls (j : Int)) > 0))) = !tB j0 (rd ls (j : Int)) := by rw [hmx]; rfl
    by_cases h1 : tB j0 (rd ls (j : Int)) = true
    · rw [h1, Bool.true_and]
      refine Ev.step (ih (j + 1) (by omega) (by omega)) (fun k => ?_)
      rw [chalklinelaw12_agrees.l0, if_pos (by omega), if_pos (by omega), if_pos (u64_nonneg _), ht, h1, if_neg (by simp), wrap_succ (by omega)]
    · rw [Bool.eq_false_iff.2 h1, Bool.false_and]
      refine Ev.step (Ev.pure _) (fun k => ?_)
      rw [chalklinelaw12_agrees.l0, if_pos (by omega), if_pos (by omega), if_pos (u64_nonneg _), ht, Bool.eq_false_iff.2 h1, if_pos (by simp)]
theorem agrees_ev (ls : List Int) (j0 : Int) (hb : ls.length ≤ 1000) (hL : ∀ l ∈ ls, l ≠ 0 ∧ -8 ≤ l ∧ l ≤ 8) : Ev (fun k => chalklinelaw12_agrees.f k ls j0) (ls.all (tB j0)) := by
  have := agrees_l0 ls j0 hb hL _ 0 rfl (Nat.zero_le _)
  rwa [List.drop_zero] at this

end Go.Proofs.Ytmcljhjmmipagaa.PL
