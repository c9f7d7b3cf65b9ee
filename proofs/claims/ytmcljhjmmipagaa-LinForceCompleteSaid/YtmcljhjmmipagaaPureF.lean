/- The reference's Has, Unlike, Force, Ints, Value tell what lin.Force and lin.Value tell. No program in sight. -/
import Derived.Test.YtmcljhjmmipagaaPureA
import Derived.Test.YtmcljhjmmipagaaPLx4
import Derived.Test.YtmcljhjmmipagaaPLx5
import Derived.Test.YtmcljhjmmipagaaPLx7
import Derived.Test.YtmcljhjmmipagaaPLx8
import Derived.Test.YtmcljhjmmipagaaPLx0
import Derived.Test.YtmcljhjmmipagaaPLx3
import Derived.Test.YtmcljhjmmipagaaPLx10
namespace Go.Proofs.Ytmcljhjmmipagaa.PL
open Go.RowKit Go.Proofs.YtmcljhjmmipagaaW.PrintWords Go.Proofs.YtmcljhjmmipagaaW.PrintLast Go.Proofs.YtmcljhjmmipagaaW.PrintMore
set_option linter.unusedVariables false
set_option linter.unusedSimpArgs false

theorem ofI_eq {l x : Int} : ofI l = ofI x ↔ l = x ∨ l = -x := by
  unfold ofI
  split <;> split <;> omega
/-- What badF asks, without the variable. -/
theorem badF_eq {seen : List Int} {lit : Int} (h0 : -9223372036854775808 ≤ lit) (h1 : lit ≤ 9223372036854775807) : badF seen lit = !decide (lit ≠ 0 ∧ -65536 ≤ lit ∧ lit ≤ 65536 ∧ lit ∉ seen ∧ -lit ∉ seen) := by
  unfold badF
  by_cases hr : -65536 ≤ lit ∧ lit ≤ 65536
  · have ho : ofW lit = ofI lit := ofW_eq (by omega) (by omega)
    have h3 : ¬ 65536 < ofI lit := by unfold ofI; split <;> omega
    have h4 : ¬ lit < -65536 := by omega
    rw [ho]
    rw [Bool.eq_iff_iff]
    simp only [Bool.or_eq_true, List.any_eq_true, beq_iff_eq, decide_eq_true_eq, Bool.not_eq_true', decide_eq_false_iff_not, ofI_eq]
    constructor
    · rintro (⟨l, hl, rfl | rfl⟩ | h | h | h) ⟨a, b, c, d, e⟩
      · exact d hl
      · exact e hl
      · exact a h
      · exact h4 h
      · exact h3 h
    · intro h
      by_cases hz : lit = 0
      · exact .inr (.inl hz)
      · by_cases hs : lit ∈ seen
        · exact .inl ⟨lit, hs, .inl rfl⟩
        · by_cases hs2 : -lit ∈ seen
          · exact .inl ⟨-lit, hs2, .inr rfl⟩
          · exact absurd ⟨hz, hr.1, hr.2, hs, hs2⟩ h
  · have hf : decide (lit ≠ 0 ∧ -65536 ≤ lit ∧ lit ≤ 65536 ∧ lit ∉ seen ∧ -lit ∉ seen) = false := decide_eq_false (fun h => hr ⟨h.2.1, h.2.2.1⟩)
    rw [hf]
    by_cases hn : lit < -65536
    · simp [hn]
    · have : 65536 < ofW lit := by
        unfold ofW wrap64
        split <;> omega
      simp [this]

/-! ### what the map of the literals tells -/
theorem oksF_at {ls : List Int} (h : oksF ls = true) {k : Nat} (hk : k < ls.length) : badF (ls.take k) (rd ls (k : Int)) = false := by
  have := List.all_eq_true.1 h k (List.mem_range.2 hk)
  simpa using this
theorem atF_fold (x : Int) : ∀ (ls : List Int) (a : Int), (ls.foldl (fun a l => if ofI l = x then l else a) a = a ∧ ∀ l ∈ ls, ofI l ≠ x) ∨ (ls.foldl (fun a l => if ofI l = x then l else a) a ∈ ls ∧ ofI (ls.foldl (fun a l => if ofI l = x then l else a) a) = x)
  | [], a => .inl ⟨rfl, by simp⟩
  | l :: ls, a => by
    rw [List.foldl_cons]
    rcases atF_fold x ls (if ofI l = x then l else a) with ⟨h1, h2⟩ | ⟨h1, h2⟩
    · rw [h1]
      by_cases e : ofI l = x
      · rw [if_pos e]
        exact .inr ⟨by simp, e⟩
      · rw [if_neg e]
        refine .inl ⟨rfl, fun y hy => ?_⟩
        rcases List.mem_cons.1 hy with rfl | hy
        · exact e
        · exact h2 y hy
    · exact .inr ⟨by simp [h1], h2⟩
theorem oks_good {ls : List Int} (hr : ∀ l ∈ ls, -9223372036854775808 ≤ l ∧ l ≤ 9223372036854775807) (h : oksF ls = true) {k : Nat} (hk : k < ls.length) : rd ls (k : Int) ≠ 0 ∧ -65536 ≤ rd ls (k : Int) ∧ rd ls (k : Int) ≤ 65536 ∧ rd ls (k : Int) ∉ ls.take k ∧ -rd ls (k : Int) ∉ ls.take k := by
  have h1 := oksF_at h hk
  have h2 := hr _ (rd_mem hk)
  rw [badF_eq h2.1 h2.2] at h1
  simpa using h1
theorem mem_at {ls : List Int} {l : Int} (h : l ∈ ls) : ∃ k, k < ls.length ∧ rd ls (k : Int) = l := by
  obtain ⟨k, hk, e⟩ := List.getElem_of_mem h
  exact ⟨k, hk, by simp [rd, hk, e]⟩
theorem mem_take {ls : List Int} {i k : Nat} (hik : i < k) (hk : i < ls.length) : rd ls (i : Int) ∈ ls.take k := by
  have h1 := take_rd hk
  have h2 : rd ls (i : Int) ∈ ls.take (i + 1) := by rw [h1]; simp
  have h3 : ls.take (i + 1) = (ls.take k).take (i + 1) := by rw [List.take_take, Nat.min_eq_left (by omega)]
  rw [h3] at h2
  exact List.mem_of_mem_take h2
/-- No literal with its negation. -/
theorem oks_neg {ls : List Int} (hr : ∀ l ∈ ls, -9223372036854775808 ≤ l ∧ l ≤ 9223372036854775807) (h : oksF ls = true) {l : Int} (hl : l ∈ ls) : -l ∉ ls := by
  intro hn
  obtain ⟨i, hi, ei⟩ := mem_at hl
  obtain ⟨j, hj, ej⟩ := mem_at hn
  have gi := oks_good hr h hi
  have gj := oks_good hr h hj
  rcases Nat.lt_trichotomy i j with c | c | c
  · exact gj.2.2.2.2 (by rw [ej, Int.neg_neg, ← ei]; exact mem_take c hi)
  · subst c; omega
  · exact gi.2.2.2.2 (by rw [ei, ← ej]; exact mem_take c hj)
theorem atF_of_mem {ls : List Int} (hr : ∀ l ∈ ls, -9223372036854775808 ≤ l ∧ l ≤ 9223372036854775807) (h : oksF ls = true) {l : Int} (hl : l ∈ ls) : atF ls (ofI l) = l := by
  rcases atF_fold (ofI l) ls 0 with ⟨_, h2⟩ | ⟨h1, h2⟩
  · exact absurd rfl (h2 l hl)
  · rcases ofI_eq.1 h2 with e | e
    · exact e
    · exact absurd (e ▸ h1) (oks_neg hr h hl)
theorem ofI_neg (l : Int) : ofI (-l) = ofI l := by unfold ofI; split <;> split <;> omega
/-- The map knows the literal's negation just where it is among them. -/
theorem atF_neg {ls : List Int} (hr : ∀ l ∈ ls, -9223372036854775808 ≤ l ∧ l ≤ 9223372036854775807) (h : oksF ls = true) {l : Int} (h0 : l ≠ 0) : atF ls (ofI l) = -l ↔ -l ∈ ls := by
  constructor
  · intro e
    rcases atF_fold (ofI l) ls 0 with ⟨h1, _⟩ | ⟨h1, h2⟩
    · have : atF ls (ofI l) = 0 := h1
      omega
    · have : atF ls (ofI l) ∈ ls := h1
      rwa [e] at this
  · intro hm
    have := atF_of_mem hr h hm
    rwa [ofI_neg] at this
theorem atF_zero {ls : List Int} (hr : ∀ l ∈ ls, -9223372036854775808 ≤ l ∧ l ≤ 9223372036854775807) (h : oksF ls = true) {l : Int} (h0 : l ≠ 0) : atF ls (ofI l) = 0 ↔ l ∉ ls ∧ -l ∉ ls := by
  constructor
  · intro e
    refine ⟨fun hm => ?_, fun hm => ?_⟩
    · have := atF_of_mem hr h hm; omega
    · have := (atF_neg hr h h0).2 hm; omega
  · rintro ⟨h1, h2⟩
    rcases atF_fold (ofI l) ls 0 with ⟨e, _⟩ | ⟨e1, e2⟩
    · exact e
    · rcases ofI_eq.1 e2 with e | e
      · exact absurd (e ▸ e1) h1
      · exact absurd (e ▸ e1) h2

/-! ### the reference's Force -/
/-! ### Ints and the reference's Value -/
end Go.Proofs.Ytmcljhjmmipagaa.PL
