/- A constraint and its canonical form hold under the same assignments. No program in sight. -/
import Derived.Test.YtmcljhjmmipagaaForceP
namespace Go.Proofs.Ytmcljhjmmipagaa.PL
open Go.RowKit Go.Proofs.YtmcljhjmmipagaaW.PrintWords
set_option linter.unusedVariables false
set_option linter.unusedSimpArgs false

theorem dot_le_sum {t : Int → Bool} : ∀ (C L : List Int), (∀ c ∈ C, 0 ≤ c) → 0 ≤ dot t C L ∧ dot t C L ≤ sumL C
  | [], L, _ => by simp [dot, sumL]
  | a :: C, [], h => by
    have h1 := dot_le_sum (t := t) C [] (fun c hc => h c (by simp [hc]))
    have h2 := h a (by simp)
    have e : dot t C [] = 0 := by cases C <;> rfl
    simp only [dot, sumL, List.foldr_cons] at h1 ⊢
    omega
  | a :: C, b :: L, h => by
    have h1 := dot_le_sum (t := t) C L (fun c hc => h c (by simp [hc]))
    have h2 := h a (by simp)
    simp only [dot, sumL, List.foldr_cons] at h1 ⊢
    split <;> omega
/-- Coefficients that are cut at the bound tell the same. -/
theorem dot_min {t : Int → Bool} {b : Int} (hb : 0 < b) : ∀ (C L : List Int), (∀ c ∈ C, 0 ≤ c) → (dot t (C.map (fun c => min c b)) L = dot t C L ∨ (b ≤ dot t (C.map (fun c => min c b)) L ∧ b ≤ dot t C L)) ∧ 0 ≤ dot t (C.map (fun c => min c b)) L ∧ 0 ≤ dot t C L
  | [], L, _ => by simp [dot]
  | a :: C, [], h => by simp [dot]
  | a :: C, x :: L, h => by
    have h1 := dot_min (t := t) hb C L (fun c hc => h c (by simp [hc]))
    have h2 := h a (by simp)
    simp only [List.map_cons, dot]
    split <;> omega
end Go.Proofs.Ytmcljhjmmipagaa.PL
