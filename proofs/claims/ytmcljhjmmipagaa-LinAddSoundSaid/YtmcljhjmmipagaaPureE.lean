/- The enumeration of assignments in the laws: the truths of some bits, a constraint under some bits. No program in sight. -/
import Derived.Test.YtmcljhjmmipagaaForceP
import Derived.Test.YtmcljhjmmipagaaPureA
import Derived.Test.YtmcljhjmmipagaaPLx4
import Derived.Test.YtmcljhjmmipagaaPLx0
import Derived.Test.YtmcljhjmmipagaaPLx3
import Derived.Test.YtmcljhjmmipagaaPLx13
namespace Go.Proofs.Ytmcljhjmmipagaa.PL
open Go.RowKit Go.Proofs.YtmcljhjmmipagaaW.PrintWords Go.Proofs.YtmcljhjmmipagaaW.PrintLast Go.Proofs.YtmcljhjmmipagaaW.PrintMore
set_option linter.unusedVariables false
set_option linter.unusedSimpArgs false

def bitB (bits v : Int) : Bool := (Go.bits .and .i64 (shr .i64 bits (IntKind.u64.wrap (wrap64 (v - 1)))) 1) == 1
def truthsL (bits : Int) : List Bool := [false, bitB bits 1, bitB bits 2, bitB bits 3, bitB bits 4, bitB bits 5, bitB bits 6, bitB bits 7, bitB bits 8]
theorem u64_nonneg (x : Int) : 0 ≤ IntKind.u64.wrap x := by
  have := IntKind.wrap_u64 x
  rw [this]
  omega
theorem truths_step (bits : Int) (xs : List Bool) (v : Nat) (h0 : 1 ≤ v) (h1 : v ≤ 8) (hl : xs.length = 9) {r : List Bool} (h : Ev (fun k => chalklineref12_Truths.l0 k 8 bits (xs.set v (bitB bits v)) ((v + 1 : Nat) : Int)) r) : Ev (fun k => chalklineref12_Truths.l0 k 8 bits xs (v : Int)) r := by
  refine Ev.step h (fun k => ?_)
  rw [chalklineref12_Truths.l0, if_pos (by omega), if_pos (u64_nonneg _), if_pos (by omega), if_pos (by omega), wrap_succ (by omega), Int.toNat_natCast]
  rfl
theorem truths_ev (bits : Int) : Ev (fun k => chalklineref12_Truths.f k 8 bits) (truthsL bits) := by
  have e : wrap64 (8 + 1) = 9 := wrap_id (by omega) (by omega)
  have h : Ev (fun k => chalklineref12_Truths.l0 k 8 bits (List.replicate 9 false) ((1 : Nat) : Int)) (truthsL bits) := by
    refine truths_step bits _ 1 (by omega) (by omega) (by simp) ?_
    refine truths_step bits _ 2 (by omega) (by omega) (by simp) ?_
    refine truths_step bits _ 3 (by omega) (by omega) (by simp) ?_
    refine truths_step bits _ 4 (by omega) (by omega) (by simp) ?_
    refine truths_step bits _ 5 (by omega) (by omega) (by simp) ?_
    refine truths_step bits _ 6 (by omega) (by omega) (by simp) ?_
    refine truths_step bits _ 7 (by omega) (by omega) (by simp) ?_
    refine truths_step bits _ 8 (by omega) (by omega) (by simp) ?_
    refine Ev.step (Ev.pure _) (fun k => ?_)
    rw [chalklineref12_Truths.l0, if_neg (by omega)]
    rfl
  refine h.congr (fun k => ?_)
  unfold chalklineref12_Truths.f
  rw [e, if_pos (by omega), if_pos (by decide)]
  rfl

end Go.Proofs.Ytmcljhjmmipagaa.PL
