/- The law LinNormEquivalent as lists: its printed function tells true, with rounds enough. -/
import Derived.Test.YtmcljhjmmipagaaPureE
import Derived.Test.YtmcljhjmmipagaaPLx0
import Derived.Test.YtmcljhjmmipagaaPLx1
import Derived.Test.YtmcljhjmmipagaaPLx13
import Derived.Test.YtmcljhjmmipagaaCheckG
import Derived.Test.YtmcljhjmmipagaaLiveG
import Derived.Test.YtmcljhjmmipagaaNormC
import Derived.Test.YtmcljhjmmipagaaValueG
namespace Go.Proofs.Ytmcljhjmmipagaa.PL
open Go.RowKit Go.Proofs.YtmcljhjmmipagaaW.PrintWords Go.Proofs.YtmcljhjmmipagaaW.PrintLast Go.Proofs.YtmcljhjmmipagaaW.PrintMore
set_option linter.unusedVariables false
set_option linter.unusedSimpArgs false

/-- What Check at a smaller number of variables tells. -/
theorem val_small {C L : List Int} {least n : Int} (h0 : 0 ≤ n) (h1 : n ≤ 65536) (h : lin_Check.val C L least n = 0) : lin_Check.val C L least 65536 = 0 ∧ ∀ l ∈ L, -n ≤ l ∧ l ≤ n ∧ l ≠ 0 := by
  unfold lin_Check.val at h
  rw [if_neg (by omega), if_neg (by omega)] at h
  by_cases h2 : (C.length : Int) = (L.length : Int)
  · rw [if_pos h2] at h
    by_cases h3 : withinB least = true
    · rw [if_pos h3] at h
      by_cases h4 : (C.any fun c => !withinB c) = true
      · rw [if_pos h4] at h; omega
      · rw [if_neg h4] at h
        by_cases h5 : (L.any (wrongB n)) = true
        · rw [if_pos h5] at h; omega
        · rw [if_neg h5] at h
          by_cases h6 : 4096 < (L.length : Int)
          · rw [if_pos h6] at h; omega
          · have hL : ∀ l ∈ L, -n ≤ l ∧ l ≤ n ∧ l ≠ 0 := fun l hl => by
              have : wrongB n l = false := by
                cases e : wrongB n l with
                | false => rfl
                | true => exact absurd (List.any_eq_true.2 ⟨l, hl, e⟩) h5
              simp [wrongB] at this
              exact ⟨by omega, by omega, this.1⟩
            refine ⟨?_, hL⟩
            unfold lin_Check.val
            have h7 : ¬ (L.any (wrongB 65536)) = true := fun e => by
              obtain ⟨l, hl, e⟩ := List.any_eq_true.1 e
              have := hL l hl
              simp [wrongB] at e
              omega
            rw [if_neg (by omega), if_neg (by omega), if_pos h2, if_pos h3, if_neg h4, if_neg h7, if_neg h6]
    · rw [if_neg h3] at h; omega
  · rw [if_neg h2] at h; omega
/-- The canonical form's literals are the constraint's variables. -/
theorem norm_lits {C L : List Int} {least n : Int} (h : ∀ l ∈ L, -n ≤ l ∧ l ≤ n ∧ l ≠ 0) : ∀ l ∈ (lin_Norm.val C L least).2.1, -n ≤ l ∧ l ≤ n ∧ l ≠ 0 := by
  have hraw : ∀ l ∈ (nraw C L least).2.1, -n ≤ l ∧ l ≤ n ∧ l ≠ 0 := fun l hx => by
    rcases nstep_lits _ _ _ _ l hx with h1 | ⟨v, hv, e⟩
    · simp at h1
    · obtain ⟨l2, hl2, rfl⟩ := (mem_varsOf v L).1 hv
      have := h l2 hl2
      unfold ofI at e
      split at e <;> omega
  unfold lin_Norm.val
  split
  · unfold ncut
    split
    · simp
    · split
      · simp
      · exact hraw
  · simp

end Go.Proofs.Ytmcljhjmmipagaa.PL
