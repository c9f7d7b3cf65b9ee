/- FlatValues: the law answers true wherever the tree's lists are short enough to be copied. -/
import Derived.Test.YtphegiohkggddaaDoorValuesG
import Derived.Test.YtphegiohkggddaaDoorPureA
namespace Go.Proofs.YtphegiohkggddaaDoor.PF
open Go.RowKit Go.Proofs.YtphegiohkggddaaDoorW.PrintWords
set_option linter.unusedVariables false

theorem values_fit (t : S24) (A0 : Option Addr) (c0 : Nat) (A : List Bool) (A1 : Option Addr) (c1 : Nat) (w : World) (hC : k24.C w A0 t.f3.length t.f3) (hc0 : t.f3.length ≤ c0) (hf : fitB t = true) (hA : Kd.C Kd.bool w A1 A.length A) (hc1 : A.length ≤ c1) (hL : Laid w) :
    Calls Tryd.prog 3 #[.agg #[.int .i64 t.f0, .int .i64 t.f1, .int .i64 t.f2, .slice A0 t.f3.length c0], .slice A1 A.length c1] w fun e w' => e = .returned (.bool true) ∧ Below w.heap.size w w' := by
  obtain ⟨b, he, _⟩ := few_ev t A hf
  obtain ⟨kf, hkf⟩ := he.got
  obtain ⟨kv, hkv⟩ := (Value_ev A t hf).got
  exact values_walk t A A0 c0 A1 c1 w hC hc0 hA hc1 hL hf kf b hkf kv hkv
theorem values_all (t : S24) (A0 : Option Addr) (c0 : Nat) (A : List Bool) (A1 : Option Addr) (c1 : Nat) (w : World) (hC : k24.C w A0 t.f3.length t.f3) (hc0 : t.f3.length ≤ c0) (hn : (nodesT t).length ≤ 1048576) (hA : Kd.C Kd.bool w A1 A.length A) (hc1 : A.length ≤ c1) (hn1 : A.length ≤ 1048576) (hL : Laid w) :
    Calls Tryd.prog 3 #[.agg #[.int .i64 t.f0, .int .i64 t.f1, .int .i64 t.f2, .slice A0 t.f3.length c0], .slice A1 A.length c1] w fun e w' => e = .returned (.bool true) ∧ Below w.heap.size w w' :=
  values_fit t A0 c0 A A1 c1 w hC hc0 (fitB_of_nodes t (by omega)) hA hc1 hL

end Go.Proofs.YtphegiohkggddaaDoor.PF
