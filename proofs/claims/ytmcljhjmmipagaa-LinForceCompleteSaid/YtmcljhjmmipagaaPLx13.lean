/- Lean functions that tell what the Go functions named below answer, and a proof for each that the Go function comes to just that answer; the conditions stand in each statement. -/
import Derived.Test.YtmcljhjmmipagaaPLx0
namespace Go.Proofs.Ytmcljhjmmipagaa.PL
open Go.RowKit Go.Proofs.YtmcljhjmmipagaaW.PrintWords Go.Proofs.YtmcljhjmmipagaaW.PrintLast Go.Proofs.YtmcljhjmmipagaaW.PrintMore
attribute [local go_sem] max2_int min2_int max_two min_two max_three min_three max_four min_four   -- for this text's walks alone
set_option linter.unusedVariables false
set_option linter.unusedSimpArgs false

/-! ### chalklineref12_Truths: function 30 -/
def chalklineref12_Truths.l0 : Nat → Int → Int → List Bool → Int → Option (List Bool)
 | 0, _, _, _, _ => none
 | k + 1, x0, x1, x5, x6 => if x6 ≤ x0 then (if 0 ≤ (IntKind.u64.wrap (wrap64 (x6 - 1))) then (if 0 ≤ x6 then (if x6 < (x5.length : Int) then (chalklineref12_Truths.l0 k x0 x1 (x5.set (x6 : Int).toNat ((Go.bits .and .i64 (shr .i64 x1 (IntKind.u64.wrap (wrap64 (x6 - 1)))) 1) == 1)) (wrap64 (x6 + 1))) else (none)) else (none)) else (none)) else (some x5)
def chalklineref12_Truths.f (k : Nat) (a0 : Int) (a1 : Int) : Option (List Bool) := if 0 ≤ (wrap64 (a0 + 1)) then (if (wrap64 (a0 + 1) : Int).toNat ≤ 281474976710656 then (chalklineref12_Truths.l0 k a0 a1 (List.replicate (wrap64 (a0 + 1) : Int).toNat false) 1) else (none)) else (none)
end Go.Proofs.Ytmcljhjmmipagaa.PL
