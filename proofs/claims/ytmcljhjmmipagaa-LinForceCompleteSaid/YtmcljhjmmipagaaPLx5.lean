/- Lean functions that tell what the Go functions named below answer, and a proof for each that the Go function comes to just that answer; the conditions stand in each statement. -/
import Derived.Test.YtmcljhjmmipagaaPLx0
import Derived.Test.YtmcljhjmmipagaaPLx3
import Derived.Test.YtmcljhjmmipagaaPLx4
namespace Go.Proofs.Ytmcljhjmmipagaa.PL
open Go.RowKit Go.Proofs.YtmcljhjmmipagaaW.PrintWords Go.Proofs.YtmcljhjmmipagaaW.PrintLast Go.Proofs.YtmcljhjmmipagaaW.PrintMore
attribute [local go_sem] max2_int min2_int max_two min_two max_three min_three max_four min_four   -- for this text's walks alone
set_option linter.unusedVariables false
set_option linter.unusedSimpArgs false

/-! ### chalklineref12_Norm: function 22 -/
mutual
def chalklineref12_Norm.l0 : Nat → Int → List Int → Int → List Int → List Int → Int → List Int → List Int → Int → Option (List Int × List Int × Int)
 | 0, _, _, _, _, _, _, _, _, _ => none
 | k + 1, x4, x5, x6, x247000, x247001, x247002, x250000, x250001, x250002 => if x6 < (x5.length : Int) then (if 0 ≤ x6 then ((chalklineref12_both.f k x247000 x247001 x247002 (rd x5 x6)).bind fun bt254 => (if bt254.1 > bt254.2 then (if x250000.length < 17592186044416 then ((some (x250000 ++ [wrap64 (bt254.1 - bt254.2)] : List Int)).bind fun y256 => (if x250001.length < 17592186044416 then ((some (x250001 ++ [rd x5 x6] : List Int)).bind fun y260 => (if bt254.2 > bt254.1 then (if y256.length < 17592186044416 then (if y260.length < 17592186044416 then (chalklineref12_Norm.l0 k (wrap64 ((wrap64 (x4 + (mx bt254.1 bt254.2))) - (mn bt254.1 bt254.2))) x5 (wrap64 (x6 + 1)) x247000 x247001 x247002 (y256 ++ [wrap64 (bt254.2 - bt254.1)]) (y260 ++ [wrap64 (-(rd x5 x6))]) (wrap64 (x250002 - (mn bt254.1 bt254.2)))) else (none)) else (none)) else (chalklineref12_Norm.l0 k (wrap64 ((wrap64 (x4 + (mx bt254.1 bt254.2))) - (mn bt254.1 bt254.2))) x5 (wrap64 (x6 + 1)) x247000 x247001 x247002 y256 y260 (wrap64 (x250002 - (mn bt254.1 bt254.2)))))) else (none))) else (none)) else (if bt254.2 > bt254.1 then (if x250000.length < 17592186044416 then (if x250001.length < 17592186044416 then (chalklineref12_Norm.l0 k (wrap64 ((wrap64 (x4 + (mx bt254.1 bt254.2))) - (mn bt254.1 bt254.2))) x5 (wrap64 (x6 + 1)) x247000 x247001 x247002 (x250000 ++ [wrap64 (bt254.2 - bt254.1)]) (x250001 ++ [wrap64 (-(rd x5 x6))]) (wrap64 (x250002 - (mn bt254.1 bt254.2)))) else (none)) else (none)) else (chalklineref12_Norm.l0 k (wrap64 ((wrap64 (x4 + (mx bt254.1 bt254.2))) - (mn bt254.1 bt254.2))) x5 (wrap64 (x6 + 1)) x247000 x247001 x247002 x250000 x250001 (wrap64 (x250002 - (mn bt254.1 bt254.2))))))) else (none)) else (if x250002 ≤ 0 then (some (([] : List Int), ([] : List Int), 0)) else (if x4 < x250002 then (some (([] : List Int), ([] : List Int), 1)) else (chalklineref12_Norm.l1 k 0 x250000 x250001 x250002)))
def chalklineref12_Norm.l1 : Nat → Int → List Int → List Int → Int → Option (List Int × List Int × Int)
 | 0, _, _, _, _ => none
 | k + 1, x9, x250000, x250001, x250002 => if x9 < (x250000.length : Int) then (if 0 ≤ x9 then (chalklineref12_Norm.l1 k (wrap64 (x9 + 1)) (x250000.set (x9 : Int).toNat (mn (rd x250000 x9) x250002)) x250001 x250002) else (none)) else (some (x250000, x250001, x250002))
end
def chalklineref12_Norm.f (k : Nat) (l0_0 : List Int) (l0_1 : List Int) (a0_2 : Int) : Option (List Int × List Int × Int) := (chalklineref12_Check.f k l0_0 l0_1 a0_2 65536).bind fun t248 => (if t248 = 0 then ((chalklineref12_vars.f k l0_0 l0_1 a0_2).bind fun t250 => (chalklineref12_Norm.l0 k 0 t250 0 l0_0 l0_1 a0_2 ([] : List Int) ([] : List Int) a0_2)) else (some (([] : List Int), ([] : List Int), 0)))
end Go.Proofs.Ytmcljhjmmipagaa.PL
