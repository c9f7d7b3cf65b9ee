/- Lean functions that tell what the Go functions named below answer, and a proof for each that the Go function comes to just that answer; the conditions stand in each statement. -/
import Derived.Test.YtmcljhjmmipagaaProg
import Derived.Below
import Derived.Deep.Draws
import Derived.Deep.AppendLies
import Derived.Maps.AppendAt
import Derived.OwnWalk
import Derived.Laws.BytesArg
import Derived.Laws.MakeOwn
import Derived.Laws.OwnMore
import Derived.Deep.OwnRows
import Derived.Tactics
import Derived.Lib.ConvBytes
import Derived.Laws.Slices
import Derived.WalkKit
import Derived.KernelRfl
import Derived.RowKit3
import Derived.Deep.LoopGhost
import Derived.Deep.QuietTactic
import Derived.BigQuiet
import Derived.WideLaws
import Derived.Deep.DeepCutAuto
import Derived.Deep.CutBlock
import Derived.Deep.RegionHeld3
import Derived.Laws.Rows
import Derived.Lib.AppendStr
import Derived.ArgAppend
import Derived.Laws.IdiomCopy
import Derived.OrdersHeld
import Derived.Laws.BitsLemmas
import Derived.RowKit
import Derived.Test.YtmcljhjmmipagaaWWords
import Derived.Test.YtmcljhjmmipagaaWLast
import Derived.Test.YtmcljhjmmipagaaWTab

import Derived.Test.YtmcljhjmmipagaaWQPut
import Derived.Test.YtmcljhjmmipagaaWApart
import Derived.Test.YtmcljhjmmipagaaWArr

import Derived.Test.YtmcljhjmmipagaaWFoot
import Derived.Test.YtmcljhjmmipagaaWKept
import Derived.Test.YtmcljhjmmipagaaWShare
import Derived.Test.YtmcljhjmmipagaaWN


import Derived.Laws.StructEq

import Derived.Test.YtmcljhjmmipagaaWInv

import Derived.Test.YtmcljhjmmipagaaWGuard

import Derived.Test.YtmcljhjmmipagaaWMore
namespace Go.Proofs.Ytmcljhjmmipagaa.PL
open Go.RowKit Go.Proofs.YtmcljhjmmipagaaW.PrintWords Go.Proofs.YtmcljhjmmipagaaW.PrintLast Go.Proofs.YtmcljhjmmipagaaW.PrintMore
attribute [local go_sem] max2_int min2_int max_two min_two max_three min_three max_four min_four   -- for this text's walks alone
set_option linter.unusedVariables false
set_option linter.unusedSimpArgs false



def errW : Option Int → Value
 | none => .nilIface
 | some c => .iface 0 (.int .i64 c)
theorem errW_none : errW none = .nilIface := rfl
theorem errW_some (c : Int) : errW (some c) = .iface 0 (.int .i64 c) := rfl

theorem info3 : (Try.prog.info? 3).map (fun i => (i.zero, i.size, i.bytes)) = some (some (.int .i64 0), 1, 8) := by kernel_rfl
/-! #### struct type 24 -/
/-- The first n bits of m. -/
def bl (n m : Nat) : Array Bool := ((List.range n).map (fun i => m.testBit i)).toArray

end Go.Proofs.Ytmcljhjmmipagaa.PL
