/- What flat.made does to well-formed trees: form, size, value, normal form, variables. No program in sight. -/
import Derived.Test.YtphegiohkggddaaDoorMadeP
import Derived.Test.YtphegiohkggddaaDoorPureA
namespace Go.Proofs.YtphegiohkggddaaDoor.PF
open Go.RowKit Go.Proofs.YtphegiohkggddaaDoorW.PrintWords
set_option linter.unusedVariables false
set_option linter.unusedSimpArgs false

/-! ### well-formed trees -/
/-- Every node is well-formed over the variables 1 to n. -/
def WF (n : Int) (t : S24) : Prop := (nodesT t).all (formedB n) = true
theorem nodesL_all {p : S24 → Bool} : ∀ {l : List S24}, (nodesL l).all p = true ↔ ∀ x ∈ l, (nodesT x).all p = true
  | [] => by simp [nodesL]
  | x :: l => by rw [nodesL, List.all_append, Bool.and_eq_true, nodesL_all]; simp
theorem WF_mk {n a b c : Int} {l : List S24} : WF n ⟨a, b, c, l⟩ ↔ formedB n ⟨a, b, c, l⟩ = true ∧ ∀ x ∈ l, WF n x := by
  unfold WF
  rw [nodesT, List.all_cons, Bool.and_eq_true, nodesL_all]
theorem WF_root {n : Int} {t : S24} (h : WF n t) : formedB n t = true := by
  obtain ⟨a, b, c, l⟩ := t
  exact (WF_mk.1 h).1
theorem WF_kids {n : Int} {t : S24} (h : WF n t) : ∀ x ∈ t.f3, WF n x := by
  obtain ⟨a, b, c, l⟩ := t
  exact (WF_mk.1 h).2
theorem WF_of {n : Int} {t : S24} (h : formedB n t = true) (hk : ∀ x ∈ t.f3, WF n x) : WF n t := by
  obtain ⟨a, b, c, l⟩ := t
  exact WF_mk.2 ⟨h, hk⟩
theorem formed_head {n : Int} {t : S24} (h : formedB n t = true) : ¬(t.f0 ≠ 6 ∧ t.f2 ≠ 0) := by
  intro hk
  unfold formedB at h
  rw [if_pos hk] at h
  cases h
/-- The kinds. -/
theorem formed_kind {n : Int} {t : S24} (h : formedB n t = true) : t.f0 = 1 ∨ t.f0 = 2 ∨ t.f0 = 3 ∨ t.f0 = 4 ∨ t.f0 = 5 ∨ t.f0 = 6 := by
  have hh := formed_head h
  unfold formedB at h
  rw [if_neg hh] at h
  by_cases h1 : t.f0 = 1
  · simp [h1]
  by_cases h2 : t.f0 = 2
  · simp [h2]
  by_cases h3 : t.f0 = 3
  · simp [h3]
  by_cases h4 : t.f0 = 4
  · simp [h4]
  by_cases h5 : t.f0 = 5
  · simp [h5]
  by_cases h6 : t.f0 = 6
  · simp [h6]
  rw [if_neg h1, if_neg h2, if_neg h3, if_neg (by omega), if_neg h6] at h
  cases h
theorem formed_const {n : Int} {t : S24} (h : formedB n t = true) (h1 : t.f0 = 1) : (t.f1 = 0 ∨ t.f1 = 1) ∧ t.f2 = 0 ∧ t.f3 = [] := by
  have hh := formed_head h
  unfold formedB at h
  rw [if_neg hh, if_pos h1] at h
  by_cases hb : t.f1 = 0 ∨ t.f1 = 1
  · rw [if_pos hb] at h
    have hl : (t.f3.length : Int) = 0 := beq_iff_eq.1 h
    exact ⟨hb, by omega, List.length_eq_zero_iff.1 (by omega)⟩
  · rw [if_neg hb] at h; cases h
theorem formed_var {n : Int} {t : S24} (h : formedB n t = true) (h1 : t.f0 = 2) : 1 ≤ t.f1 ∧ t.f1 ≤ n ∧ t.f2 = 0 ∧ t.f3 = [] := by
  have hh := formed_head h
  unfold formedB at h
  rw [if_neg hh, if_neg (by omega), if_pos h1] at h
  by_cases hb : 1 ≤ t.f1
  · rw [if_pos hb] at h
    by_cases hc : t.f1 ≤ n
    · rw [if_pos hc] at h
      have hl : (t.f3.length : Int) = 0 := beq_iff_eq.1 h
      exact ⟨by omega, by omega, by omega, List.length_eq_zero_iff.1 (by omega)⟩
    · rw [if_neg hc] at h; cases h
  · rw [if_neg hb] at h; cases h
theorem formed_not {n : Int} {t : S24} (h : formedB n t = true) (h1 : t.f0 = 3) : t.f1 = 0 ∧ t.f2 = 0 ∧ t.f3.length = 1 := by
  have hh := formed_head h
  unfold formedB at h
  rw [if_neg hh, if_neg (by omega), if_neg (by omega), if_pos h1] at h
  by_cases hb : t.f1 = 0
  · rw [if_pos hb] at h
    have hl : (t.f3.length : Int) = 1 := beq_iff_eq.1 h
    exact ⟨by omega, by omega, by omega⟩
  · rw [if_neg hb] at h; cases h
theorem formed_least {n : Int} {t : S24} (h : formedB n t = true) (h1 : t.f0 = 6) : t.f1 = 0 ∧ 0 ≤ t.f2 ∧ t.f2 ≤ 1099511627776 := by
  have hh := formed_head h
  unfold formedB at h
  rw [if_neg hh, if_neg (by omega), if_neg (by omega), if_neg (by omega), if_neg (by omega), if_pos h1] at h
  by_cases hb : t.f1 = 0
  · rw [if_pos hb] at h
    by_cases hc : 0 ≤ t.f2
    · rw [if_pos hc] at h
      have := of_decide_eq_true h
      exact ⟨by omega, by omega, by omega⟩
    · rw [if_neg hc] at h; cases h
  · rw [if_neg hb] at h; cases h
theorem formed_both {n kd : Int} (hk : kd = 4 ∨ kd = 5) (l : List S24) : formedB n ⟨kd, 0, 0, l⟩ = true := by
  unfold formedB
  rcases hk with rfl | rfl <;> simp
theorem formed_c {n v : Int} (hv : v = 0 ∨ v = 1) : formedB n ⟨1, v, 0, []⟩ = true := by
  unfold formedB
  rcases hv with rfl | rfl <;> simp
theorem formed_n {n : Int} (x : S24) : formedB n ⟨3, 0, 0, [x]⟩ = true := by
  unfold formedB
  simp
theorem formed_l {n k : Int} (h0 : 0 ≤ k) (h1 : k ≤ 1099511627776) (l : List S24) : formedB n ⟨6, 0, k, l⟩ = true := by
  unfold formedB
  simp [h0, h1]

/-! ### join -/
theorem flatL_mem {kd : Int} {y : S24} : ∀ {l : List S24}, y ∈ flatL kd l → ∃ x ∈ l, (x.f0 = kd ∧ y ∈ x.f3) ∨ (x.f0 ≠ kd ∧ y = x)
  | [], h => by simp [flatL] at h
  | x :: l, h => by
    unfold flatL at h
    rcases List.mem_append.1 h with h | h
    · by_cases hk : x.f0 = kd
      · rw [if_pos hk] at h; exact ⟨x, List.mem_cons_self .., .inl ⟨hk, h⟩⟩
      · rw [if_neg hk] at h; exact ⟨x, List.mem_cons_self .., .inr ⟨hk, by simpa using h⟩⟩
    · obtain ⟨z, hz, hh⟩ := flatL_mem h
      exact ⟨z, List.mem_cons_of_mem _ hz, hh⟩
theorem nodesT_kids (x : S24) : (nodesT x).length = 1 + (nodesL x.f3).length := by
  obtain ⟨a, b, c, l⟩ := x
  simp [nodesT]; omega
theorem flatL_size (kd : Int) : ∀ l : List S24, (nodesL (flatL kd l)).length ≤ (nodesL l).length
  | [] => by simp [flatL]
  | x :: l => by
    unfold flatL
    rw [nodesL_append, nodesL, List.length_append, List.length_append]
    have h1 := flatL_size kd l
    have h2 := nodesT_kids x
    by_cases hk : x.f0 = kd
    · rw [if_pos hk]; omega
    · rw [if_neg hk]; simp only [nodesL, List.append_nil]; omega
theorem filter_size (p : S24 → Bool) : ∀ l : List S24, (nodesL (l.filter p)).length ≤ (nodesL l).length
  | [] => by simp
  | x :: l => by
    have := filter_size p l
    rw [List.filter_cons]
    split
    · simp only [nodesL, List.length_append]; omega
    · simp only [nodesL, List.length_append]; omega
/-- What join makes, one of three. -/
theorem join_cases (kd : Int) (hk : kd = 4 ∨ kd = 5) (m : List S24) : (∃ v, (v = 0 ∨ v = 1) ∧ join_val kd m = ⟨1, v, 0, []⟩) ∨ (flatL kd (m.filter fun x => x.f0 != 1) = [join_val kd m]) ∨ (∃ r, r = flatL kd (m.filter fun x => x.f0 != 1) ∧ 2 ≤ r.length ∧ join_val kd m = ⟨kd, 0, 0, r⟩) := by
  unfold join_val
  split
  · refine .inl ⟨1 - idleV kd, ?_, rfl⟩
    rcases hk with rfl | rfl <;> decide
  · split
    · refine .inl ⟨idleV kd, ?_, rfl⟩
      rcases hk with rfl | rfl <;> decide
    · rename_i x he; exact .inr (.inl he)
    · rename_i x y r he; exact .inr (.inr ⟨_, rfl, by rw [he]; simp, by rw [he]⟩)
theorem join_size (kd : Int) (hk : kd = 4 ∨ kd = 5) (m : List S24) : (nodesT (join_val kd m)).length ≤ 1 + (nodesL m).length := by
  have h1 := flatL_size kd (m.filter fun x => x.f0 != 1)
  have h2 := filter_size (fun x => x.f0 != 1) m
  rcases join_cases kd hk m with ⟨v, _, e⟩ | e | ⟨r, hr, _, e⟩
  · rw [e]; simp [nodesT, nodesL]
  · rw [e] at h1
    simp only [nodesL, List.append_nil] at h1
    omega
  · rw [e]
    simp only [nodesT, List.length_cons]
    rw [hr]
    omega
theorem join_WF {n kd : Int} (hk : kd = 4 ∨ kd = 5) {m : List S24} (h : ∀ x ∈ m, WF n x) : WF n (join_val kd m) := by
  have hf : ∀ y ∈ flatL kd (m.filter fun x => x.f0 != 1), WF n y := by
    intro y hy
    obtain ⟨x, hx, (⟨_, hy⟩ | ⟨_, rfl⟩)⟩ := flatL_mem hy
    · exact WF_kids (h x (List.mem_filter.1 hx).1) y hy
    · exact h _ (List.mem_filter.1 hx).1
  rcases join_cases kd hk m with ⟨v, hv, e⟩ | e | ⟨r, hr, _, e⟩
  · rw [e]; exact WF_of (formed_c hv) (by simp)
  · exact hf _ (by rw [e]; simp)
  · rw [e]; exact WF_of (formed_both hk r) (by rw [← hr] at hf; exact hf)

/-! ### values -/
theorem flat_val_c (A : List Bool) {t : S24} (h : t.f0 = 1) : flat_val A t = (t.f1 == 1) := by
  obtain ⟨a, b, c, l⟩ := t
  rw [flat_val_eq, if_pos (show a = 1 from h)]
theorem flat_val_3 (A : List Bool) {t : S24} (h : t.f0 = 3) : flat_val A t = !t.f3.any (flat_val A) := by
  obtain ⟨a, b, c, l⟩ := t
  have h' : a = 3 := h
  subst h'
  rw [flat_val_eq]; rfl
theorem filter_len_all (p : S24 → Bool) (l : List S24) : decide ((l.filter p).length = l.length) = l.all p := by
  rw [Bool.eq_iff_iff, decide_eq_true_iff, List.length_filter_eq_length_iff, List.all_eq_true]
theorem flat_val_4 (A : List Bool) {t : S24} (h : t.f0 = 4) : flat_val A t = t.f3.all (flat_val A) := by
  obtain ⟨a, b, c, l⟩ := t
  have h' : a = 4 := h
  subst h'
  rw [flat_val_eq]
  exact filter_len_all _ _
theorem flat_val_5 (A : List Bool) {t : S24} (h : t.f0 = 5) : flat_val A t = t.f3.any (flat_val A) := by
  obtain ⟨a, b, c, l⟩ := t
  have h' : a = 5 := h
  subst h'
  rw [flat_val_eq]; rfl
theorem flat_val_6 (A : List Bool) {t : S24} (h : t.f0 = 6) : flat_val A t = decide (t.f2 ≤ ((t.f3.filter (flat_val A)).length : Int)) := by
  obtain ⟨a, b, c, l⟩ := t
  have h' : a = 6 := h
  subst h'
  rw [flat_val_eq]; rfl

theorem flatL_all (A : List Bool) : ∀ l : List S24, (flatL 4 l).all (flat_val A) = l.all (flat_val A)
  | [] => rfl
  | x :: l => by
    unfold flatL
    rw [List.all_append, flatL_all A l, List.all_cons]
    by_cases hk : x.f0 = 4
    · rw [if_pos hk, flat_val_4 A hk]
    · rw [if_neg hk]; simp
theorem flatL_any (A : List Bool) : ∀ l : List S24, (flatL 5 l).any (flat_val A) = l.any (flat_val A)
  | [] => rfl
  | x :: l => by
    unfold flatL
    rw [List.any_append, flatL_any A l, List.any_cons]
    by_cases hk : x.f0 = 5
    · rw [if_pos hk, flat_val_5 A hk]
    · rw [if_neg hk]; simp
theorem idle4 : idleV 4 = 1 := by decide
theorem idle5 : idleV 5 = 0 := by decide
theorem join_val4 (A : List Bool) (m : List S24) : flat_val A (join_val 4 m) = m.all (flat_val A) := by
  unfold join_val
  rw [idle4]
  split
  · rename_i h
    obtain ⟨x, hx, hp⟩ := List.any_eq_true.1 h
    have hx1 : x.f0 = 1 := by by_cases hx1 : x.f0 = 1; · exact hx1
                              · rw [if_neg hx1] at hp; cases hp
    rw [if_pos hx1] at hp
    have hz : flat_val A ⟨1, 1 - 1, 0, []⟩ = false := by rw [flat_val_c A rfl]; rfl
    rw [hz]
    symm
    have hv : flat_val A x = false := by rw [flat_val_c A hx1]; simpa using hp
    rw [Bool.eq_false_iff, ne_eq, List.all_eq_true]
    intro hall
    have := hall x hx
    rw [hv] at this
    cases this
  · rename_i h
    have hs : m.all (flat_val A) = (m.filter fun x => x.f0 != 1).all (flat_val A) := by
      rw [Bool.eq_iff_iff, List.all_eq_true, List.all_eq_true]
      constructor
      · intro hh x hx; exact hh x (List.mem_filter.1 hx).1
      · intro hh x hx
        by_cases hx1 : x.f0 = 1
        · rw [flat_val_c A hx1]
          by_cases hb : x.f1 = 1
          · simp [hb]
          · exact absurd (List.any_eq_true.2 ⟨x, hx, by rw [if_pos hx1]; simpa using hb⟩) h
        · exact hh x (List.mem_filter.2 ⟨hx, by simpa using hx1⟩)
    rw [hs, ← flatL_all A]
    split
    · rename_i e; rw [e]; rfl
    · rename_i x e; rw [e]; simp
    · rename_i x y r e; rw [e]; exact flat_val_4 A rfl
theorem join_val5 (A : List Bool) (m : List S24) (hc : ∀ x ∈ m, x.f0 = 1 → x.f1 = 0 ∨ x.f1 = 1) : flat_val A (join_val 5 m) = m.any (flat_val A) := by
  unfold join_val
  rw [idle5]
  split
  · rename_i h
    obtain ⟨x, hx, hp⟩ := List.any_eq_true.1 h
    have hx1 : x.f0 = 1 := by by_cases hx1 : x.f0 = 1; · exact hx1
                              · rw [if_neg hx1] at hp; cases hp
    rw [if_pos hx1] at hp
    have hz : flat_val A ⟨1, 1 - 0, 0, []⟩ = true := by rw [flat_val_c A rfl]; rfl
    rw [hz]
    symm
    refine List.any_eq_true.2 ⟨x, hx, ?_⟩
    rw [flat_val_c A hx1]
    rcases hc x hx hx1 with h0 | h0
    · rw [h0] at hp; cases hp
    · rw [h0]; rfl
  · rename_i h
    have hs : m.any (flat_val A) = (m.filter fun x => x.f0 != 1).any (flat_val A) := by
      rw [Bool.eq_iff_iff, List.any_eq_true, List.any_eq_true]
      constructor
      · rintro ⟨x, hx, hv⟩
        refine ⟨x, List.mem_filter.2 ⟨hx, ?_⟩, hv⟩
        by_cases hx1 : x.f0 = 1
        · rw [flat_val_c A hx1] at hv
          have hb : x.f1 = 1 := by simpa using hv
          exact absurd (List.any_eq_true.2 ⟨x, hx, by rw [if_pos hx1, hb]; decide⟩) h
        · simpa using hx1
      · rintro ⟨x, hx, hv⟩; exact ⟨x, (List.mem_filter.1 hx).1, hv⟩
    rw [hs, ← flatL_any A]
    split
    · rename_i e; rw [e]; rfl
    · rename_i x e; rw [e]; simp
    · rename_i x y r e; rw [e]; exact flat_val_5 A rfl

end Go.Proofs.YtphegiohkggddaaDoor.PF
