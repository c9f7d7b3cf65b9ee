/- FlatDuality: the law answers true wherever the trees are not too large. -/
import Derived.Test.YtphegiohkggddaaDoorDualityG
import Derived.Test.YtphegiohkggddaaDoorPureA
namespace Go.Proofs.YtphegiohkggddaaDoor.PF
open Go.RowKit Go.Proofs.YtphegiohkggddaaDoorW.PrintWords
set_option linter.unusedVariables false

theorem duality_fit (l : List S24) (A0 : Option Addr) (c0 : Nat) (k : Int) (A : List Bool) (A1 : Option Addr) (c1 : Nat) (w : World) (hC : k24.C w A0 l.length l) (hc0 : l.length ≤ c0) (hf : ∀ x ∈ l, fitB x = true) (hA : Kd.C Kd.bool w A1 A.length A) (hc1 : A.length ≤ c1) (hL : Laid w) :
    Calls Tryd.prog 7 #[.slice A0 l.length c0, .int .i64 k, .slice A1 A.length c1] w fun e w' => e = .returned (.bool true) ∧ Below w.heap.size w w' :=
  duality_walk l k A A0 c0 A1 c1 w hC hc0 hA hc1 hL hf (fun x hx => by
    obtain ⟨b, he, _⟩ := Few_ev x (hf x hx)
    obtain ⟨kf, hkf⟩ := he.got
    exact ⟨kf, b, hkf⟩)
theorem duality_all (l : List S24) (A0 : Option Addr) (c0 : Nat) (k : Int) (A : List Bool) (A1 : Option Addr) (c1 : Nat) (w : World) (hC : k24.C w A0 l.length l) (hc0 : l.length ≤ c0) (hn : (nodesL l).length + 1 ≤ 1048576) (hA : Kd.C Kd.bool w A1 A.length A) (hc1 : A.length ≤ c1) (hn1 : A.length + 1 ≤ 1048576) (hL : Laid w) :
    Calls Tryd.prog 7 #[.slice A0 l.length c0, .int .i64 k, .slice A1 A.length c1] w fun e w' => e = .returned (.bool true) ∧ Below w.heap.size w w' :=
  duality_fit l A0 c0 k A A1 c1 w hC hc0 (fun x hx => fitB_of_nodes x (by have := nodesL_mem hx; omega)) hA hc1 hL

end Go.Proofs.YtphegiohkggddaaDoor.PF
