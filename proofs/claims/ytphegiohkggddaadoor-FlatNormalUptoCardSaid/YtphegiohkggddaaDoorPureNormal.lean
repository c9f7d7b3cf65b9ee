/- FlatNormal: the law answers true wherever the tree is not too large. -/
import Derived.Test.YtphegiohkggddaaDoorNormalG
import Derived.Test.YtphegiohkggddaaDoorPureU
namespace Go.Proofs.YtphegiohkggddaaDoor.PF
open Go.RowKit Go.Proofs.YtphegiohkggddaaDoorW.PrintWords
set_option linter.unusedVariables false

theorem normal_all (t : S24) (A0 : Option Addr) (c0 : Nat) (w : World) (hC : k24.C w A0 t.f3.length t.f3) (hc0 : t.f3.length ≤ c0) (hn : (nodesT t).length ≤ 1048576) (hL : Laid w) :
    Calls Tryd.prog 6 #[.agg #[.int .i64 t.f0, .int .i64 t.f1, .int .i64 t.f2, .slice A0 t.f3.length c0]] w fun e w' => e = .returned (.bool true) ∧ Below w.heap.size w w' := by
  have hf := fitB_of_nodes t (by omega)
  obtain ⟨b, he, _⟩ := few_ev t [] hf
  obtain ⟨kf, hkf⟩ := he.got
  refine normal_walk t A0 c0 w hC hc0 hL kf b hkf (fun hc => ?_)
  obtain ⟨h1, h2, h3, h4, h5, h6, h7⟩ := simple_good (by omega) hc
  exact ⟨h3, made_norm 65536 t h1⟩

end Go.Proofs.YtphegiohkggddaaDoor.PF
