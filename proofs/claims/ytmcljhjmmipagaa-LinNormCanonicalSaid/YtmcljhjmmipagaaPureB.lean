/- The reference's Check and Norm tell what lin.Check and lin.Norm tell. No program in sight. -/
import Derived.Test.YtmcljhjmmipagaaPureA
import Derived.Test.YtmcljhjmmipagaaPLx4
import Derived.Test.YtmcljhjmmipagaaPLx5
namespace Go.Proofs.Ytmcljhjmmipagaa.PL
open Go.RowKit Go.Proofs.YtmcljhjmmipagaaW.PrintWords Go.Proofs.YtmcljhjmmipagaaW.PrintLast Go.Proofs.YtmcljhjmmipagaaW.PrintMore
set_option linter.unusedVariables false
set_option linter.unusedSimpArgs false

/-! ### the variables -/
theorem insV_split (v : Int) (q : List Int) : ∀ p : List Int, (∀ x ∈ p, x < v) → insV v (p ++ q) = p ++ insV v q
  | [], _ => rfl
  | x :: p, h => by
    have hx := h x (by simp)
    rw [List.cons_append, insV, if_neg (by omega), if_neg (by omega), insV_split v q p (fun y hy => h y (by simp [hy]))]
    rfl
/-! ### the two sums of a variable -/
end Go.Proofs.Ytmcljhjmmipagaa.PL
