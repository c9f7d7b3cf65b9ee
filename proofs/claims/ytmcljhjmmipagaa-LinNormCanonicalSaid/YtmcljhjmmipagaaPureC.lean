/- The reference's Norm tells what lin.Norm tells; the law LinNormSpec. No program in sight. -/
import Derived.Test.YtmcljhjmmipagaaPureB
namespace Go.Proofs.Ytmcljhjmmipagaa.PL
open Go.RowKit Go.Proofs.YtmcljhjmmipagaaW.PrintWords Go.Proofs.YtmcljhjmmipagaaW.PrintLast Go.Proofs.YtmcljhjmmipagaaW.PrintMore
set_option linter.unusedVariables false
set_option linter.unusedSimpArgs false

theorem sumL_snoc (x : Int) : ∀ C : List Int, sumL (C ++ [x]) = sumL C + x
  | [] => by simp [sumL]
  | c :: C => by
    have := sumL_snoc x C
    simp only [sumL, List.cons_append, List.foldr_cons] at this ⊢
    omega
theorem sumL_bound {B : Int} : ∀ C : List Int, (∀ c ∈ C, 0 ≤ c ∧ c ≤ B) → 0 ≤ sumL C ∧ sumL C ≤ C.length * B
  | [], _ => by simp [sumL]
  | c :: C, h => by
    have h1 := sumL_bound C (fun x hx => h x (by simp [hx]))
    have h2 := h c (by simp)
    have e : ((C.length + 1 : Nat) : Int) * B = C.length * B + B := by rw [Int.natCast_add, Int.add_mul]; simp
    simp only [sumL, List.foldr_cons, List.length_cons] at h1 ⊢
    omega

end Go.Proofs.Ytmcljhjmmipagaa.PL
