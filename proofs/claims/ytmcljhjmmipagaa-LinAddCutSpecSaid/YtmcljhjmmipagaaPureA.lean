/- Rounds enough: what the printed functions with rounds tell in the end; Same, Equal, Check. No program in sight. -/
import Derived.Test.YtmcljhjmmipagaaForceP
import Derived.Test.YtmcljhjmmipagaaPLx1
import Derived.Test.YtmcljhjmmipagaaPLx2
import Derived.Test.YtmcljhjmmipagaaPLx3
namespace Go.Proofs.Ytmcljhjmmipagaa.PL
open Go.RowKit Go.Proofs.YtmcljhjmmipagaaW.PrintWords Go.Proofs.YtmcljhjmmipagaaW.PrintLast Go.Proofs.YtmcljhjmmipagaaW.PrintMore
set_option linter.unusedVariables false
set_option linter.unusedSimpArgs false

/-- With rounds enough F tells v. -/
def Ev {α : Type} (F : Nat → Option α) (v : α) : Prop := ∃ k0, ∀ k, k0 ≤ k → F k = some v
namespace Ev
variable {α β : Type}
theorem of (F : Nat → Option α) (v : α) (h : ∀ k, F k = some v) : Ev F v := ⟨0, fun k _ => h k⟩
theorem pure (v : α) : Ev (fun _ => some v) v := ⟨0, fun _ _ => rfl⟩
theorem succ {F : Nat → Option α} {v : α} (h : Ev (fun k => F (k + 1)) v) : Ev F v := by
  obtain ⟨k0, h⟩ := h
  refine ⟨k0 + 1, fun k hk => ?_⟩
  obtain ⟨m, rfl⟩ : ∃ m, k = m + 1 := ⟨k - 1, by omega⟩
  exact h m (by omega)
theorem congr {F G : Nat → Option α} {v : α} (h : Ev G v) (e : ∀ k, F k = G k) : Ev F v := by
  obtain ⟨k0, h⟩ := h
  exact ⟨k0, fun k hk => (e k).trans (h k hk)⟩
theorem bind {F : Nat → Option α} {G : Nat → α → Option β} {v : α} {r : β} (h : Ev F v) (hg : Ev (fun k => G k v) r) : Ev (fun k => (F k).bind (G k)) r := by
  obtain ⟨k0, h⟩ := h
  obtain ⟨k1, hg⟩ := hg
  refine ⟨max k0 k1, fun k hk => ?_⟩
  show (F k).bind (G k) = some r
  rw [h k (by omega)]
  exact hg k (by omega)
theorem told {F : Nat → Option α} {v u : α} (h : Ev F v) (e : v = u) : Ev F u := e ▸ h
/-- The step of a loop: what one round unfolds to. -/
theorem step {F G : Nat → Option α} {v : α} (h : Ev G v) (e : ∀ k, F (k + 1) = G k) : Ev F v := succ (congr h e)
theorem got {F : Nat → Option α} {v : α} (h : Ev F v) : ∃ k, F k = some v := by
  obtain ⟨k0, h⟩ := h
  exact ⟨k0, h k0 (Nat.le_refl _)⟩
end Ev

theorem wrap_id {x : Int} (h0 : -9223372036854775808 ≤ x) (h1 : x ≤ 9223372036854775807) : wrap64 x = x := by unfold wrap64; omega
theorem wrap_succ {j : Nat} (h : j < 4611686018427387904) : wrap64 ((j : Int) + 1) = ((j + 1 : Nat) : Int) := by rw [wrap_id (by omega) (by omega)]; omega

/-! ### slices.Equal, lin.Same, the reference's Same -/
theorem equal_l0 {xs ys : List Int} (he : xs.length = ys.length) (hb : xs.length ≤ 1000000) : ∀ (m j : Nat), xs.length - j = m → j ≤ xs.length → Ev (fun k => slices_Equal_int_int.l0 k xs ys (xs.length : Int) (j : Int)) (decide (xs.drop j = ys.drop j)) := by
  intro m
  induction m with
  | zero =>
    intro j hm hj
    refine Ev.step (Ev.pure _) (fun k => ?_)
    rw [slices_Equal_int_int.l0, if_neg (by omega)]
    rw [List.drop_of_length_le (by omega), List.drop_of_length_le (by omega)]
    rfl
  | succ m ih =>
    intro j hm hj
    have hlt : j < xs.length := by omega
    rw [drop_rd hlt, drop_rd (show j < ys.length by omega)]
    by_cases e : rd xs (j : Int) = rd ys (j : Int)
    · refine Ev.told (Ev.step (ih (j + 1) (by omega) (by omega)) (fun k => ?_)) ?_
      · rw [slices_Equal_int_int.l0, if_pos (by omega), if_pos (by omega), if_pos (by omega), if_pos (by omega), if_pos e, wrap_succ (by omega)]
      · rw [e]; simp
    · refine Ev.step (Ev.pure _) (fun k => ?_)
      rw [slices_Equal_int_int.l0, if_pos (by omega), if_pos (by omega), if_pos (by omega), if_pos (by omega), if_neg e]
      simp [e]
def sameB (C L : List Int) (a : Int) (D M : List Int) (b : Int) : Bool := decide (C = D) && (decide (L = M) && decide (a = b))
theorem refSame_l1 (C L : List Int) (a : Int) (D M : List Int) (b : Int) (he : L.length = M.length) (hb : L.length ≤ 1000000) : ∀ (m j : Nat), L.length - j = m → j ≤ L.length → Ev (fun k => chalklineref12_Same.l1 k (j : Int) C L a D M b) (decide (L.drop j = M.drop j)) := by
  intro m
  induction m with
  | zero =>
    intro j hm hj
    refine Ev.step (Ev.pure _) (fun k => ?_)
    rw [chalklineref12_Same.l1, if_neg (by omega), List.drop_of_length_le (by omega), List.drop_of_length_le (by omega)]
    rfl
  | succ m ih =>
    intro j hm hj
    have hlt : j < L.length := by omega
    rw [drop_rd hlt, drop_rd (show j < M.length by omega)]
    by_cases e : rd L (j : Int) = rd M (j : Int)
    · refine Ev.told (Ev.step (ih (j + 1) (by omega) (by omega)) (fun k => ?_)) ?_
      · rw [chalklineref12_Same.l1, if_pos (by omega), if_pos (by omega), if_pos (by omega), if_pos e, wrap_succ (by omega)]
      · rw [e]; simp
    · refine Ev.step (Ev.pure _) (fun k => ?_)
      rw [chalklineref12_Same.l1, if_pos (by omega), if_pos (by omega), if_pos (by omega), if_neg e]
      simp [e]
theorem refSame_l0 (C L : List Int) (a : Int) (D M : List Int) (b : Int) (he : C.length = D.length) (he2 : L.length = M.length) (hb : C.length ≤ 1000000) (hb2 : L.length ≤ 1000000) : ∀ (m j : Nat), C.length - j = m → j ≤ C.length → Ev (fun k => chalklineref12_Same.l0 k (j : Int) C L a D M b) (decide (C.drop j = D.drop j) && decide (L = M)) := by
  intro m
  induction m with
  | zero =>
    intro j hm hj
    have h1 := refSame_l1 C L a D M b he2 hb2 _ 0 rfl (Nat.zero_le _)
    simp only [List.drop_zero] at h1
    refine Ev.told (Ev.step h1 (fun k => ?_)) ?_
    · rw [chalklineref12_Same.l0, if_neg (by omega)]; rfl
    · rw [List.drop_of_length_le (by omega), List.drop_of_length_le (by omega)]; simp
  | succ m ih =>
    intro j hm hj
    have hlt : j < C.length := by omega
    rw [drop_rd hlt, drop_rd (show j < D.length by omega)]
    by_cases e : rd C (j : Int) = rd D (j : Int)
    · refine Ev.told (Ev.step (ih (j + 1) (by omega) (by omega)) (fun k => ?_)) ?_
      · rw [chalklineref12_Same.l0, if_pos (by omega), if_pos (by omega), if_pos (by omega), if_pos e, wrap_succ (by omega)]
      · rw [e]; simp
    · refine Ev.step (Ev.pure _) (fun k => ?_)
      rw [chalklineref12_Same.l0, if_pos (by omega), if_pos (by omega), if_pos (by omega), if_neg e]
      simp [e]
theorem refSame_ev (C L : List Int) (a : Int) (D M : List Int) (b : Int) (hC : C.length ≤ 1000000) (hL : L.length ≤ 1000000) : Ev (fun k => chalklineref12_Same.f k C L a D M b) (sameB C L a D M b) := by
  unfold chalklineref12_Same.f
  by_cases e1 : C.length = D.length
  · by_cases e2 : L.length = M.length
    · simp only [e1, e2, if_true]
      by_cases e3 : a = b
      · have h0 := refSame_l0 C L a D M b e1 e2 hC hL _ 0 rfl (Nat.zero_le _)
        simp only [List.drop_zero] at h0
        refine Ev.told (Ev.step h0 (fun k => ?_)) ?_
        · rw [chalklineref12_Same.j0, if_neg (by simp [e3])]; rfl
        · simp [sameB, e3]
      · refine Ev.step (Ev.pure _) (fun k => ?_)
        rw [chalklineref12_Same.j0, if_pos (by simp [e3])]
        simp [sameB, e3]
    · have e2' : ¬ (L.length : Int) = (M.length : Int) := by omega
      simp only [e1, e2', if_true, if_false]
      refine Ev.step (Ev.pure _) (fun k => ?_)
      rw [chalklineref12_Same.j0, if_pos rfl]
      have : L ≠ M := fun e => e2 (by rw [e])
      simp [sameB, this]
  · have e1' : ¬ (C.length : Int) = (D.length : Int) := by omega
    simp only [e1', if_false]
    refine Ev.step (Ev.pure _) (fun k => ?_)
    rw [chalklineref12_Same.j0, if_pos rfl]
    have : C ≠ D := fun e => e1 (by rw [e])
    simp [sameB, this]

end Go.Proofs.Ytmcljhjmmipagaa.PL
