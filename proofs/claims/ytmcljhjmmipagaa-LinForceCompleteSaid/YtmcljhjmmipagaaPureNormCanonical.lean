/- The canonical form is as the law LinNormCanonical asks. No program in sight. -/
import Derived.Test.YtmcljhjmmipagaaPureD
import Derived.Test.YtmcljhjmmipagaaPureA
import Derived.Test.YtmcljhjmmipagaaPLx4
import Derived.Test.YtmcljhjmmipagaaPLx5
import Derived.Test.YtmcljhjmmipagaaBoxG
namespace Go.Proofs.Ytmcljhjmmipagaa.PL
open Go.RowKit Go.Proofs.YtmcljhjmmipagaaW.PrintWords
set_option linter.unusedVariables false
set_option linter.unusedSimpArgs false

theorem ofI_pos {v : Int} (h : 0 < v) : ofI v = v ∧ ofI (-v) = v := by unfold ofI; constructor <;> split <;> omega
/-- The variables of the terms so far. -/
theorem nfold_vars (p q : Int → Int) : ∀ (vs : List Int) (s : List Int × List Int × Int), (∀ v ∈ vs, 0 < v) → (vs.foldl (nstep p q) s).2.1.map ofI = s.2.1.map ofI ++ vs.filter (fun v => decide (p v ≠ q v))
  | [], s, _ => by simp
  | v :: vs, s, h => by
    have hv := ofI_pos (h v (by simp))
    rw [List.foldl_cons, nfold_vars p q vs _ (fun x hx => h x (by simp [hx])), List.filter_cons]
    unfold nstep
    by_cases c1 : q v < p v
    · rw [if_pos c1, if_pos (by simp; omega)]; simp [hv.1]
    · rw [if_neg c1]
      by_cases c2 : p v < q v
      · rw [if_pos c2, if_pos (by simp; omega)]; simp [hv.2]
      · rw [if_neg c2, if_neg (by simp; omega)]
theorem nraw_vars {C L : List Int} (ol : okL L) (least : Int) : ((nraw C L least).2.1.map ofI).Pairwise (· < ·) := by
  unfold nraw
  rw [nfold_vars _ _ _ _ (fun v hv => by have := varsOf_range ol hv; omega)]
  simp only [List.map_nil, List.nil_append]
  exact (varsOf_lt L).sublist List.filter_sublist

theorem dot_none (t : Int → Bool) : ∀ (C L : List Int), (∀ l ∈ L, t l = false) → dot t C L = 0
  | [], _, _ => by simp [dot]
  | _ :: _, [], _ => by simp [dot]
  | a :: C, b :: L, h => by
    simp only [dot]
    rw [h b (by simp), dot_none t C L (fun l hl => h l (by simp [hl]))]
    simp
/-- One variable's sum in a row without two terms of one variable. -/
theorem dot_one : ∀ (C L : List Int) (k : Nat) (x c l : Int), (L.map ofI).Pairwise (· < ·) → C[k]? = some c → L[k]? = some l → ofI x = ofI l → dot (fun y => y == x) C L = if l = x then c else 0
  | [], _, _, _, _, _, _, h, _, _ => by simp at h
  | _ :: _, [], _, _, _, _, _, _, h, _ => by simp at h
  | a :: C, b :: L, 0, x, c, l, hp, hc, hl, hx => by
    simp at hc hl
    subst hc hl
    simp only [dot]
    rw [dot_none _ C L (fun y hy => by
      have h1 := (List.pairwise_cons.1 (by simpa using hp)).1 (ofI y) (List.mem_map.2 ⟨y, hy, rfl⟩)
      simp only [beq_eq_false_iff_ne]
      rintro rfl
      omega)]
    simp
  | a :: C, b :: L, k + 1, x, c, l, hp, hc, hl, hx => by
    simp only [List.getElem?_cons_succ] at hc hl
    obtain ⟨h1, h2⟩ := List.pairwise_cons.1 (show (ofI b :: L.map ofI).Pairwise (· < ·) by simpa using hp)
    have h3 := h1 (ofI l) (List.mem_map.2 ⟨l, List.mem_of_getElem? hl, rfl⟩)
    simp only [dot]
    rw [dot_one C L k x c l h2 hc hl hx, if_neg (by simp only [beq_iff_eq]; rintro rfl; omega)]
    simp
theorem sumL_min {b : Int} (hb : 0 < b) (C : List Int) (hc : ∀ c ∈ C, 0 ≤ c) (h : b ≤ sumL C) : b ≤ sumL (C.map fun c => min c b) := by
  have h1 := (dot_min (t := fun _ => true) hb C (C.map fun _ => 1) hc).1
  rw [dot_true _ _ (by simp), dot_true _ _ (by simp)] at h1
  omega
/-- The three shapes of a canonical form. -/
theorem norm_shape {C L : List Int} {least : Int} (hl : L.length ≤ 1000) : lin_Norm.val C L least = ([], [], 0) ∨ lin_Norm.val C L least = ([], [], 1) ∨
    (0 < (lin_Norm.val C L least).2.2 ∧ (lin_Norm.val C L least).2.2 ≤ sumL (lin_Norm.val C L least).1 ∧ ((lin_Norm.val C L least).2.1.map ofI).Pairwise (· < ·)) := by
  unfold lin_Norm.val
  split
  case isFalse => exact .inl rfl
  case isTrue hv =>
    obtain ⟨hlen, hw, oc, ol, hm⟩ := val_zero hv
    have hN : NS C L least (0 + (varsOf L).length) (nraw C L least) := NS.fold oc (by omega) (varsOf L) (NS.start C L hw)
    have hp := nraw_vars (C := C) ol least
    generalize nraw C L least = s at hN hp ⊢
    unfold ncut
    split
    · exact .inl rfl
    · split
      · exact .inr (.inl rfl)
      · have h5 : 0 < s.2.2 := by omega
        have h6 : s.2.2 ≤ sumL s.1 := by omega
        exact .inr (.inr ⟨h5, sumL_min h5 _ (fun c hc => by have := hN.coef c hc; omega) h6, hp⟩)

end Go.Proofs.Ytmcljhjmmipagaa.PL
