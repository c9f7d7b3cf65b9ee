/- Rounds enough: what the printed functions with rounds tell in the end; Same, Equal, Check. No program in sight. -/
import Derived.Test.YtmcljhjmmipagaaForceP
import Derived.Test.YtmcljhjmmipagaaPLx1
import Derived.Test.YtmcljhjmmipagaaPLx0
import Derived.Test.YtmcljhjmmipagaaPLx3
namespace Go.Proofs.Ytmcljhjmmipagaa.PL
open Go.RowKit Go.Proofs.YtmcljhjmmipagaaW.PrintWords Go.Proofs.YtmcljhjmmipagaaW.PrintLast Go.Proofs.YtmcljhjmmipagaaW.PrintMore
set_option linter.unusedVariables false
set_option linter.unusedSimpArgs false

/-- With rounds enough F tells v. -/
def Ev {α : Type} (F : Nat → Option α) (v : α) : Prop := ∃ k0, ∀ k, k0 ≤ k → F k = some v
namespace Ev
variable {α β : Type}
theorem of (F : Nat → Option α) (v : α) (h : ∀ k, F k = some v) : Ev F v := ⟨0, fun k _ => h k⟩
theorem pure (v : α) : Ev (fun _ => some v) v := ⟨0, fun _ _ => rfl⟩
theorem succ {F : Nat → Option α} {v : α} (h : Ev (fun k => F (k + 1)) v) : Ev F v := by
  obtain ⟨k0, h⟩ := h
  refine ⟨k0 + 1, fun k hk => ?_⟩
  obtain ⟨m, rfl⟩ : ∃ m, k = m + 1 := ⟨k - 1, by omega⟩
  exact h m (by omega)
theorem congr {F G : Nat → Option α} {v : α} (h : Ev G v) (e : ∀ k, F k = G k) : Ev F v := by
  obtain ⟨k0, h⟩ := h
  exact ⟨k0, fun k hk => (e k).trans (h k hk)⟩
theorem bind {F : Nat → Option α} {G : Nat → α → Option β} {v : α} {r : β} (h : Ev F v) (hg : Ev (fun k => G k v) r) : Ev (fun k => (F k).bind (G k)) r := by
  obtain ⟨k0, h⟩ := h
  obtain ⟨k1, hg⟩ := hg
  refine ⟨max k0 k1, fun k hk => ?_⟩
  show (F k).bind (G k) = some r
  rw [h k (by omega)]
  exact hg k (by omega)
theorem told {F : Nat → Option α} {v u : α} (h : Ev F v) (e : v = u) : Ev F u := e ▸ h
/-- The step of a loop: what one round unfolds to. -/
theorem step {F G : Nat → Option α} {v : α} (h : Ev G v) (e : ∀ k, F (k + 1) = G k) : Ev F v := succ (congr h e)
theorem got {F : Nat → Option α} {v : α} (h : Ev F v) : ∃ k, F k = some v := by
  obtain ⟨k0, h⟩ := h
  exact ⟨k0, h k0 (Nat.le_refl _)⟩
end Ev

theorem wrap_id {x : Int} (h0 : -9223372036854775808 ≤ x) (h1 : x ≤ 9223372036854775807) : wrap64 x = x := by unfold wrap64; omega
theorem wrap_succ {j : Nat} (h : j < 4611686018427387904) : wrap64 ((j : Int) + 1) = ((j + 1 : Nat) : Int) := by rw [wrap_id (by omega) (by omega)]; omega

/-! ### slices.Equal, lin.Same, the reference's Same -/
end Go.Proofs.Ytmcljhjmmipagaa.PL
