/- Lean functions that tell what the Go functions named below answer, and a proof for each that the Go function comes to just that answer; the conditions stand in each statement. -/
import Derived.Test.YtmcljhjmmipagaaPLx0
namespace Go.Proofs.Ytmcljhjmmipagaa.PL
open Go.RowKit Go.Proofs.YtmcljhjmmipagaaW.PrintWords Go.Proofs.YtmcljhjmmipagaaW.PrintLast Go.Proofs.YtmcljhjmmipagaaW.PrintMore
attribute [local go_sem] max2_int min2_int max_two min_two max_three min_three max_four min_four   -- for this text's walks alone
set_option linter.unusedVariables false
set_option linter.unusedSimpArgs false

/-! ### chalklineref12_Check: function 23 -/
mutual
def chalklineref12_Check.j0 : Nat → Int → Bool → List Int → List Int → Int → Option (Int)
 | 0, _, _, _, _, _ => none
 | k + 1, x1, x30, x195000, x195001, x195002 => if x30 = true then (some 1) else (chalklineref12_Check.l0 k x1 0 x195000 x195001 x195002)
def chalklineref12_Check.l0 : Nat → Int → Int → List Int → List Int → Int → Option (Int)
 | 0, _, _, _, _, _ => none
 | k + 1, x1, x5, x195000, x195001, x195002 => if x5 < (x195001.length : Int) then (if 0 ≤ x5 then (if x5 < (x195000.length : Int) then (if (rd x195000 x5) < (-1099511627776) then (some 1) else (if (rd x195000 x5) > 1099511627776 then (some 1) else (if (rd x195001 x5) = 0 then (some 1) else (if (rd x195001 x5) < (wrap64 (-x1)) then (some 1) else (if (rd x195001 x5) > x1 then (some 1) else (chalklineref12_Check.l0 k x1 (wrap64 (x5 + 1)) x195000 x195001 x195002)))))) else (none)) else (none)) else (if (x195001.length : Int) > 4096 then (some 2) else (some 0))
end
def chalklineref12_Check.f (k : Nat) (l0_0 : List Int) (l0_1 : List Int) (a0_2 : Int) (a1 : Int) : Option (Int) := if a1 < 0 then (chalklineref12_Check.j0 k a1 true l0_0 l0_1 a0_2) else (if a1 > 65536 then (chalklineref12_Check.j0 k a1 true l0_0 l0_1 a0_2) else (if (l0_0.length : Int) = (l0_1.length : Int) then (if a0_2 < (-1099511627776) then (chalklineref12_Check.j0 k a1 true l0_0 l0_1 a0_2) else (chalklineref12_Check.j0 k a1 (decide (a0_2 > 1099511627776)) l0_0 l0_1 a0_2)) else (chalklineref12_Check.j0 k a1 true l0_0 l0_1 a0_2)))
/-! ### chalklineref12_Of: function 66 -/
def chalklineref12_Of.f (a0 : Int) : Option (Int) := if a0 < 0 then (some (wrap64 (-a0))) else (some a0)
end Go.Proofs.Ytmcljhjmmipagaa.PL
