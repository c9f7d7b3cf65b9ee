/- Lean functions that tell what the Go functions named below answer, and a proof for each that the Go function comes to just that answer; the conditions stand in each statement. -/
import Derived.Test.YtmcljhjmmipagaaPLx0
import Derived.Test.YtmcljhjmmipagaaPLx3
namespace Go.Proofs.Ytmcljhjmmipagaa.PL
open Go.RowKit Go.Proofs.YtmcljhjmmipagaaW.PrintWords Go.Proofs.YtmcljhjmmipagaaW.PrintLast Go.Proofs.YtmcljhjmmipagaaW.PrintMore
attribute [local go_sem] max2_int min2_int max_two min_two max_three min_three max_four min_four   -- for this text's walks alone
set_option linter.unusedVariables false
set_option linter.unusedSimpArgs false

/-! ### chalklineref12_vars: function 56 -/
mutual
def chalklineref12_vars.l0 : Nat → List Int → Int → List Int → List Int → Int → Option (List Int)
 | 0, _, _, _, _, _ => none
 | k + 1, x3, x4, x201000, x201001, x201002 => if x4 < (x201001.length : Int) then (if 0 ≤ x4 then ((chalklineref12_Of.f (rd x201001 x4)).bind fun t202 => (chalklineref12_vars.l1 k x3 x4 t202 0 x201000 x201001 x201002)) else (none)) else (some x3)
def chalklineref12_vars.l1 : Nat → List Int → Int → Int → Int → List Int → List Int → Int → Option (List Int)
 | 0, _, _, _, _, _, _, _ => none
 | k + 1, x3, x4, x5, x6, x201000, x201001, x201002 => if x6 < (x3.length : Int) then (if 0 ≤ x6 then (if (rd x3 x6) < x5 then (chalklineref12_vars.l1 k x3 x4 x5 (wrap64 (x6 + 1)) x201000 x201001 x201002) else (if (rd x3 x6) = x5 then (chalklineref12_vars.l0 k x3 (wrap64 (x4 + 1)) x201000 x201001 x201002) else (if x6 ≤ (x3.length : Int) then ((some (x3.take (x6 : Int).toNat : List Int)).bind fun y205 => (if ([] : List Int).length + y205.length < 17592186044416 then ((some (([] : List Int) ++ y205 : List Int)).bind fun y209 => (if y209.length < 17592186044416 then ((some (y209 ++ [x5] : List Int)).bind fun y212 => ((some (x3.drop (x6 : Int).toNat : List Int)).bind fun y215 => (if y212.length + y215.length < 17592186044416 then (chalklineref12_vars.l0 k (y212 ++ y215) (wrap64 (x4 + 1)) x201000 x201001 x201002) else (none)))) else (none))) else (none))) else (none)))) else (none)) else (if 0 ≤ x6 then (if x6 ≤ (x3.length : Int) then ((some (x3.take (x6 : Int).toNat : List Int)).bind fun y222 => (if ([] : List Int).length + y222.length < 17592186044416 then ((some (([] : List Int) ++ y222 : List Int)).bind fun y226 => (if y226.length < 17592186044416 then ((some (y226 ++ [x5] : List Int)).bind fun y229 => ((some (x3.drop (x6 : Int).toNat : List Int)).bind fun y232 => (if y229.length + y232.length < 17592186044416 then (chalklineref12_vars.l0 k (y229 ++ y232) (wrap64 (x4 + 1)) x201000 x201001 x201002) else (none)))) else (none))) else (none))) else (none)) else (none))
end
def chalklineref12_vars.f (k : Nat) (l0_0 : List Int) (l0_1 : List Int) (a0_2 : Int) : Option (List Int) := chalklineref12_vars.l0 k ([] : List Int) 0 l0_0 l0_1 a0_2
/-! ### chalklineref12_both: function 57 -/
def chalklineref12_both.l0 : Nat → Int → Int → Int → Int → List Int → List Int → Int → Option (Int × Int)
 | 0, _, _, _, _, _, _, _ => none
 | k + 1, x1, x6, x7, x8, x240000, x240001, x240002 => if x8 < (x240001.length : Int) then (if 0 ≤ x8 then (if (rd x240001 x8) = x1 then (if x8 < (x240000.length : Int) then (if (rd x240001 x8) = (wrap64 (-x1)) then (chalklineref12_both.l0 k x1 (wrap64 (x6 + (rd x240000 x8))) (wrap64 (x7 + (rd x240000 x8))) (wrap64 (x8 + 1)) x240000 x240001 x240002) else (chalklineref12_both.l0 k x1 (wrap64 (x6 + (rd x240000 x8))) x7 (wrap64 (x8 + 1)) x240000 x240001 x240002)) else (none)) else (if (rd x240001 x8) = (wrap64 (-x1)) then (if x8 < (x240000.length : Int) then (chalklineref12_both.l0 k x1 x6 (wrap64 (x7 + (rd x240000 x8))) (wrap64 (x8 + 1)) x240000 x240001 x240002) else (none)) else (chalklineref12_both.l0 k x1 x6 x7 (wrap64 (x8 + 1)) x240000 x240001 x240002))) else (none)) else (some (x6, x7))
def chalklineref12_both.f (k : Nat) (l0_0 : List Int) (l0_1 : List Int) (a0_2 : Int) (a1 : Int) : Option (Int × Int) := chalklineref12_both.l0 k a1 0 0 0 l0_0 l0_1 a0_2
end Go.Proofs.Ytmcljhjmmipagaa.PL
