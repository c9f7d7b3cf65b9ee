/- The arguments of the laws, opened: a constraint, a slice of ints, a slice of bools, as lists that the memory reads. -/
import Derived.Test.YtmcljhjmmipagaaRows
import Derived.Test.YtmcljhjmmipagaaLiveG
import Derived.WalkKit
import Derived.ProofKit
import Derived.OpenShut
import Derived.ShutString
import Derived.ChangeOld
import Derived.Below
import Derived.SizedLaws
import Derived.Lib.SmallJoins
import Derived.Deep.Grids
namespace Go.Proofs.Ytmcljhjmmipagaa.PL
open Go.ChangeShapes Go.WideShapes Go.ChangeAt Go.RowKit Go.Lib Go.Proofs.YtmcljhjmmipagaaW.PrintWords
set_option linter.unusedVariables false

theorem ownKnob_none : ownKnob Try.prog.godebug = none := by kernel_rfl
theorem laidOut : laidOutB Try.prog = true := by kernel_rfl
def InI (x : Int) : Prop := -9223372036854775808 ≤ x ∧ x ≤ 9223372036854775807
theorem inI_wf {x : Int} (h : (Lit.int .i64 x).wf = true) : InI x := by
 have h1 : IntKind.i64.min ≤ x ∧ x ≤ IntKind.i64.max := by simpa [Lit.wf] using h
 have e1 : IntKind.i64.min = -9223372036854775808 := by decide
 have e2 : IntKind.i64.max = 9223372036854775807 := by decide
 rw [e1, e2] at h1
 exact h1

section
variable {H : Type} {enc : TypeId × Value → H} {w : World} {held : Bool}
/-- A slice of ints that reads. -/
theorem rowInts {n : Nat} {v : Value} {y : DataW H × List MemPlace} (h : DataW.trod enc Try.prog w 0 (fun _ => true) held n 22 [v] = some y) : ∃ (A : Option Addr) (c : Nat) (l : List Int), v = .slice A l.length c ∧ Kd.C (Kd.int .i64) w A l.length l ∧ l.length ≤ c ∧ ∀ x ∈ l, InI x := by
 rcases open_ints Try.underlying22 Try.underlying3 (by kernel_rfl) h with ⟨hcs, _⟩ | ⟨x, l, c, zs, hcs, _, hl, hm, hz, _, hcell, hwz⟩
 ·
  obtain rfl : v = .slice none 0 0 := by simpa using hcs
  exact ⟨none, 0, [], rfl, Kd.C_nil _ _, Nat.le_refl _, by simp⟩
 ·
  obtain rfl : v = .slice (some x) l c := by simpa using hcs
  obtain ⟨ls, e, h1, h2, h3, h4⟩ := ReadsInt.ofRowC (k := .i64) (w := w) (a := some x) (len := l) (cap := c) (zs := zs) (.inr ⟨x, rfl, hl, hm, by simpa using hz, hcell, hwz⟩)
  subst e
  exact ⟨some x, c, ls, rfl, Kd.C_of_reads (d := (0 : Int)) (h1 := fun _ => rfl) h1, h4, fun x hx => inI_wf (h3 x hx)⟩
/-- The arguments' own forms. -/
theorem openInts {base : Nat} {v : Value} {d : DataW H} {p : List MemPlace} (hv : Value.okWide Try.prog w .any base 22 v) (h : DataW.Trod enc Try.prog w 0 (fun _ => true) held 22 v d p) : ∃ (A : Option Addr) (c : Nat) (l : List Int), v = .slice A l.length c ∧ Kd.C (Kd.int .i64) w A l.length l ∧ l.length ≤ c ∧ ∀ x ∈ l, InI x := by
 obtain ⟨a, len, cap, rfl⟩ := okWide_slice Try.underlying22 hv
 obtain ⟨fuel, hf⟩ := h
 exact rowInts (by simpa [Value.cells] using hf)
theorem openLin {base : Nat} {v : Value} {d : DataW H} {p : List MemPlace} (hv : Value.okWide Try.prog w .any base 24 v) (h : DataW.Trod enc Try.prog w 0 (fun _ => true) held 24 v d p) : ∃ (A0 : Option Addr) (c0 : Nat) (l0 : List Int) (A1 : Option Addr) (c1 : Nat) (l1 : List Int) (a2 : Int), v = .agg #[.slice A0 l0.length c0, .slice A1 l1.length c1, .int .i64 a2] ∧ Kd.C (Kd.int .i64) w A0 l0.length l0 ∧ l0.length ≤ c0 ∧ (∀ x ∈ l0, InI x) ∧ Kd.C (Kd.int .i64) w A1 l1.length l1 ∧ l1.length ≤ c1 ∧ (∀ x ∈ l1, InI x) ∧ InI a2 := by
 obtain ⟨v0, v1, v2, y0, y1, y2, n, rfl, _, _, h0, h1, h2⟩ := Joins.open_agg3 Try.underlying24 (by kernel_rfl) (by kernel_rfl) hv h
 obtain ⟨A0, c0, l0, rfl, r0, s0, t0⟩ := rowInts h0
 obtain ⟨A1, c1, l1, rfl, r1, s1, t1⟩ := rowInts h1
 obtain ⟨a2, hc, _, hw⟩ := DataW.trod_int Try.underlying3 h2
 obtain rfl : v2 = .int .i64 a2 := by simpa using hc
 exact ⟨A0, c0, l0, A1, c1, l1, a2, rfl, r0, s0, t0, r1, s1, t1, inI_wf hw⟩
end
end Go.Proofs.Ytmcljhjmmipagaa.PL
