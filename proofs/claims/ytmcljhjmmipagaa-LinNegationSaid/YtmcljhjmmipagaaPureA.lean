/- Rounds enough: what the printed functions with rounds tell in the end; Same, Equal, Check. No program in sight. -/
import Derived.Test.YtmcljhjmmipagaaForceP
import Derived.Test.YtmcljhjmmipagaaPLx1
import Derived.Test.YtmcljhjmmipagaaPLx2
import Derived.Test.YtmcljhjmmipagaaPLx3
namespace Go.Proofs.Ytmcljhjmmipagaa.PL
open Go.RowKit Go.Proofs.YtmcljhjmmipagaaW.PrintWords Go.Proofs.YtmcljhjmmipagaaW.PrintLast Go.Proofs.YtmcljhjmmipagaaW.PrintMore
set_option linter.unusedVariables false
set_option linter.unusedSimpArgs false

/-- With rounds enough F tells v. -/
def Ev {α : Type} (F : Nat → Option α) (v : α) : Prop := ∃ k0, ∀ k, k0 ≤ k → F k = some v
namespace Ev
variable {α β : Type}
theorem of (F : Nat → Option α) (v : α) (h : ∀ k, F k = some v) : Ev F v := ⟨0, fun k _ => h k⟩
theorem pure (v : α) : Ev (fun _ => some v) v := ⟨0, fun _ _ => rfl⟩
theorem succ {F : Nat → Option α} {v : α} (h : Ev (fun k => F (k + 1)) v) : Ev F v := by
  obtain ⟨k0, h⟩ := h
  refine ⟨k0 + 1, fun k hk => ?_⟩
  obtain ⟨m, rfl⟩ : ∃ m, k = m + 1 := ⟨k - 1, by omega⟩
  exact h m (by omega)
theorem congr {F G : Nat → Option α} {v : α} (h : Ev G v) (e : ∀ k, F k = G k) : Ev F v := by
  obtain ⟨k0, h⟩ := h
  exact ⟨k0, fun k hk => (e k).trans (h k hk)⟩
theorem bind {F : Nat → Option α} {G : Nat → α → Option β} {v : α} {r : β} (h : Ev F v) (hg : Ev (fun k => G k v) r) : Ev (fun k => (F k).bind (G k)) r := by
  obtain ⟨k0, h⟩ := h
  obtain ⟨k1, hg⟩ := hg
  refine ⟨max k0 k1, fun k hk => ?_⟩
  show (F k).bind (G k) = some r
  rw [h k (by omega)]
  exact hg k (by omega)
theorem told {F : Nat → Option α} {v u : α} (h : Ev F v) (e : v = u) : Ev F u := e ▸ h
/-- The step of a loop: what one round unfolds to. -/
theorem step {F G : Nat → Option α} {v : α} (h : Ev G v) (e : ∀ k, F (k + 1) = G k) : Ev F v := succ (congr h e)
theorem got {F : Nat → Option α} {v : α} (h : Ev F v) : ∃ k, F k = some v := by
  obtain ⟨k0, h⟩ := h
  exact ⟨k0, h k0 (Nat.le_refl _)⟩
end Ev

theorem wrap_id {x : Int} (h0 : -9223372036854775808 ≤ x) (h1 : x ≤ 9223372036854775807) : wrap64 x = x := by unfold wrap64; omega
theorem wrap_succ {j : Nat} (h : j < 4611686018427387904) : wrap64 ((j : Int) + 1) = ((j + 1 : Nat) : Int) := by rw [wrap_id (by omega) (by omega)]; omega

/-! ### slices.Equal, lin.Same, the reference's Same -/
theorem equal_l0 {xs ys : List Int} (he : xs.length = ys.length) (hb : xs.length ≤ 1000000) : ∀ (m j : Nat), xs.length - j = m → j ≤ xs.length → Ev (fun k => slices_Equal_int_int.l0 k xs ys (xs.length : Int) (j : Int)) (decide (xs.drop j = ys.drop j)) := by
  intro m
  induction m with
  | zero =>
    intro j hm hj
    refine Ev.step (Ev.pure _) (fun k => ?_)
    rw [slices_Equal_int_int.l0, if_neg (by omega)]
    rw [List.drop_of_length_le (by omega), List.drop_of_length_le (by omega)]
    rfl
  | succ m ih =>
    intro j hm hj
    have hlt : j < xs.length := by omega
    rw [drop_rd hlt, drop_rd (show j < ys.length by omega)]
    by_cases e : rd xs (j : Int) = rd ys (j : Int)
    · refine Ev.told (Ev.step (ih (j + 1) (by omega) (by omega)) (fun k => ?_)) ?_
      · rw [slices_Equal_int_int.l0, if_pos (by omega), if_pos (by omega), if_pos (by omega), if_pos (by omega), if_pos e, wrap_succ (by omega)]
      · rw [e]; simp
    · refine Ev.step (Ev.pure _) (fun k => ?_)
      rw [slices_Equal_int_int.l0, if_pos (by omega), if_pos (by omega), if_pos (by omega), if_pos (by omega), if_neg e]
      simp [e]
theorem equal_ev (xs ys : List Int) (hb : xs.length ≤ 1000000) : Ev (fun k => slices_Equal_int_int.f k xs ys) (decide (xs = ys)) := by
  by_cases he : xs.length = ys.length
  · have := equal_l0 he hb _ 0 rfl (Nat.zero_le _)
    simp only [List.drop_zero] at this
    exact this.congr (fun k => by rw [slices_Equal_int_int.f, if_pos (by omega)]; rfl)
  · refine (Ev.pure _).congr (fun k => ?_)
    rw [slices_Equal_int_int.f, if_neg (by omega)]
    have : xs ≠ ys := fun e => he (by rw [e])
    simp [this]

def sameB (C L : List Int) (a : Int) (D M : List Int) (b : Int) : Bool := decide (C = D) && (decide (L = M) && decide (a = b))
theorem linSame_ev (C L : List Int) (a : Int) (D M : List Int) (b : Int) (hC : C.length ≤ 1000000) (hL : L.length ≤ 1000000) : Ev (fun k => lin_Same.f k C L a D M b) (sameB C L a D M b) := by
  unfold lin_Same.f
  refine (equal_ev C D hC).bind ?_
  by_cases e : C = D
  · simp only [e, decide_true, if_true]
    refine (equal_ev L M hL).bind ?_
    by_cases e2 : L = M
    · simp only [e2, decide_true, if_true]
      refine (Ev.pure _).congr (fun k => ?_)
      simp [sameB, e, e2]
      rfl
    · simp only [e2, decide_false, Bool.false_eq_true, if_false]
      refine (Ev.pure _).congr (fun k => ?_)
      simp [sameB, e, e2]
  · simp only [e, decide_false, Bool.false_eq_true, if_false]
    refine (Ev.pure _).congr (fun k => ?_)
    simp [sameB, e]

end Go.Proofs.Ytmcljhjmmipagaa.PL
