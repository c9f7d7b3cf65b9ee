/- A constraint and its canonical form hold under the same assignments. No program in sight. -/
import Derived.Test.YtmcljhjmmipagaaForceP
namespace Go.Proofs.Ytmcljhjmmipagaa.PL
open Go.RowKit Go.Proofs.YtmcljhjmmipagaaW.PrintWords
set_option linter.unusedVariables false
set_option linter.unusedSimpArgs false

def sumV (f : Int → Int) (vs : List Int) : Int := vs.foldr (fun v n => f v + n) 0
theorem sumV_add (f g : Int → Int) : ∀ vs, sumV (fun v => f v + g v) vs = sumV f vs + sumV g vs
  | [] => rfl
  | v :: vs => by
    have := sumV_add f g vs
    simp only [sumV, List.foldr_cons] at this ⊢
    omega
theorem sumV_congr {f g : Int → Int} : ∀ vs : List Int, (∀ v ∈ vs, f v = g v) → sumV f vs = sumV g vs
  | [], _ => rfl
  | v :: vs, h => by
    have h1 := sumV_congr vs (fun x hx => h x (by simp [hx]))
    have h2 := h v (by simp)
    simp only [sumV, List.foldr_cons] at h1 ⊢
    omega
theorem sumV_zero {f : Int → Int} : ∀ vs : List Int, (∀ v ∈ vs, f v = 0) → sumV f vs = 0
  | [], _ => rfl
  | v :: vs, h => by
    have h1 := sumV_zero vs (fun x hx => h x (by simp [hx]))
    have h2 := h v (by simp)
    simp only [sumV, List.foldr_cons] at h1 ⊢
    omega
/-- A sum with one place that counts. -/
theorem sumV_one {f : Int → Int} {x : Int} : ∀ vs : List Int, vs.Pairwise (· < ·) → x ∈ vs → (∀ v ∈ vs, v ≠ x → f v = 0) → sumV f vs = f x
  | [], _, h, _ => by cases h
  | v :: vs, hp, hx, h0 => by
    obtain ⟨h1, h2⟩ := List.pairwise_cons.1 hp
    rcases List.mem_cons.1 hx with rfl | hx
    · have := sumV_zero vs (fun y hy => h0 y (by simp [hy]) (by have := h1 y hy; omega))
      simp only [sumV, List.foldr_cons] at this ⊢
      omega
    · have hv := h0 v (by simp) (by have := h1 x hx; omega)
      have ih := sumV_one vs h2 hx (fun y hy hn => h0 y (by simp [hy]) hn)
      simp only [sumV, List.foldr_cons] at ih ⊢
      omega

/-- An assignment on literals. -/
def Lits (t : Int → Bool) : Prop := ∀ v, 0 < v → t (-v) = !t v
theorem dot_sum {t : Int → Bool} (ht : Lits t) (vs : List Int) (hp : vs.Pairwise (· < ·)) (hpos : ∀ v ∈ vs, 0 < v) : ∀ (C L : List Int), (∀ l ∈ L, l ≠ 0 ∧ ofI l ∈ vs) → dot t C L = sumV (fun v => if t v = true then posS C L v else negS C L v) vs
  | [], L, _ => by
    rw [sumV_zero vs (fun v hv => by simp [posS, negS, dot])]
    simp [dot]
  | a :: C, [], _ => by
    rw [sumV_zero vs (fun v hv => by simp [posS, negS, dot])]
    simp [dot]
  | a :: C, b :: L, h => by
    have ih := dot_sum ht vs hp hpos C L (fun l hl => h l (by simp [hl]))
    obtain ⟨hb0, hbv⟩ := h b (by simp)
    have e : ∀ v ∈ vs, (if t v = true then posS (a :: C) (b :: L) v else negS (a :: C) (b :: L) v) = (if t v = true then (if b = v then a else 0) else (if b = -v then a else 0)) + (if t v = true then posS C L v else negS C L v) := fun v hv => by
      simp only [posS, negS, dot, beq_iff_eq]
      split <;> rfl
    rw [sumV_congr vs e, sumV_add, ← ih]
    have hone := sumV_one (f := fun v => if t v = true then (if b = v then a else 0) else (if b = -v then a else 0)) (x := ofI b) vs hp hbv (fun v hv hn => by
      have h1 := hpos v hv
      have : b ≠ v ∧ b ≠ -v := by
        unfold ofI at hn
        split at hn <;> omega
      simp [this.1, this.2])
    rw [hone]
    simp only [dot]
    congr 1
    unfold ofI
    by_cases hb : b < 0
    · rw [if_pos hb]
      have h1 := ht (-b) (by omega)
      rw [Int.neg_neg] at h1
      have h2 : ¬ b = -b := by omega
      cases e2 : t (-b) with
      | true => rw [e2] at h1; simp [h1, h2]
      | false => rw [e2] at h1; simp [h1]
    · rw [if_neg hb]
      have h2 : ¬ b = -b := by omega
      cases e2 : t b with
      | true => simp
      | false => simp [h2]

/-- What the terms so far tell of the rest. -/
def fS (t : Int → Bool) (s : List Int × List Int × Int) : Int := dot t s.1 s.2.1 - s.2.2
theorem fS_step {t : Int → Bool} (ht : Lits t) (p q : Int → Int) (s : List Int × List Int × Int) (v : Int) (hv : 0 < v) (hlen : s.1.length = s.2.1.length) : fS t (nstep p q s v) = fS t s + (if t v = true then p v else q v) := by
  unfold nstep fS
  have h1 := ht v hv
  split
  · simp only [dot_snoc _ _ _ _ _ hlen]
    split <;> omega
  · split
    · simp only [dot_snoc _ _ _ _ _ hlen, h1]
      cases t v <;> simp <;> omega
    · simp only []
      split <;> omega
theorem nstep_len (p q : Int → Int) (s : List Int × List Int × Int) (v : Int) (h : s.1.length = s.2.1.length) : (nstep p q s v).1.length = (nstep p q s v).2.1.length := by
  unfold nstep
  split
  · simp [h]
  · split
    · simp [h]
    · exact h
theorem fS_fold {t : Int → Bool} (ht : Lits t) (p q : Int → Int) : ∀ (vs : List Int) (s : List Int × List Int × Int), (∀ v ∈ vs, 0 < v) → s.1.length = s.2.1.length → fS t (vs.foldl (nstep p q) s) = fS t s + sumV (fun v => if t v = true then p v else q v) vs ∧ (vs.foldl (nstep p q) s).1.length = (vs.foldl (nstep p q) s).2.1.length
  | [], s, _, h => by simp [sumV, h]
  | v :: vs, s, hp, h => by
    have h1 := fS_step ht p q s v (hp v (by simp)) h
    obtain ⟨h2, h3⟩ := fS_fold ht p q vs (nstep p q s v) (fun x hx => hp x (by simp [hx])) (nstep_len p q s v h)
    refine ⟨?_, h3⟩
    simp only [List.foldl_cons, sumV, List.foldr_cons] at h2 ⊢
    rw [h2, h1]
    omega

theorem dot_le_sum {t : Int → Bool} : ∀ (C L : List Int), (∀ c ∈ C, 0 ≤ c) → 0 ≤ dot t C L ∧ dot t C L ≤ sumL C
  | [], L, _ => by simp [dot, sumL]
  | a :: C, [], h => by
    have h1 := dot_le_sum (t := t) C [] (fun c hc => h c (by simp [hc]))
    have h2 := h a (by simp)
    have e : dot t C [] = 0 := by cases C <;> rfl
    simp only [dot, sumL, List.foldr_cons] at h1 ⊢
    omega
  | a :: C, b :: L, h => by
    have h1 := dot_le_sum (t := t) C L (fun c hc => h c (by simp [hc]))
    have h2 := h a (by simp)
    simp only [dot, sumL, List.foldr_cons] at h1 ⊢
    split <;> omega
/-- Coefficients that are cut at the bound tell the same. -/
theorem dot_min {t : Int → Bool} {b : Int} (hb : 0 < b) : ∀ (C L : List Int), (∀ c ∈ C, 0 ≤ c) → (dot t (C.map (fun c => min c b)) L = dot t C L ∨ (b ≤ dot t (C.map (fun c => min c b)) L ∧ b ≤ dot t C L)) ∧ 0 ≤ dot t (C.map (fun c => min c b)) L ∧ 0 ≤ dot t C L
  | [], L, _ => by simp [dot]
  | a :: C, [], h => by simp [dot]
  | a :: C, x :: L, h => by
    have h1 := dot_min (t := t) hb C L (fun c hc => h c (by simp [hc]))
    have h2 := h a (by simp)
    simp only [List.map_cons, dot]
    split <;> omega
theorem ncut_holds {t : Int → Bool} {s : List Int × List Int × Int} (hc : ∀ c ∈ s.1, 0 ≤ c) : ((ncut s).2.2 ≤ dot t (ncut s).1 (ncut s).2.1) ↔ s.2.2 ≤ dot t s.1 s.2.1 := by
  have h1 := dot_le_sum (t := t) s.1 s.2.1 hc
  unfold ncut
  split
  · simp [dot]; omega
  · split
    · simp [dot]; omega
    · have := dot_min (t := t) (b := s.2.2) (by omega) s.1 s.2.1 hc
      simp only []
      omega

/-- The main fact: the canonical form holds just where the constraint holds. -/
theorem norm_holds {t : Int → Bool} (ht : Lits t) {C L : List Int} {least : Int} (h : lin_Check.val C L least 65536 = 0) (hl : L.length ≤ 1000) : ((lin_Norm.val C L least).2.2 ≤ dot t (lin_Norm.val C L least).1 (lin_Norm.val C L least).2.1) ↔ least ≤ dot t C L := by
  obtain ⟨hlen, hw, oc, ol, hm⟩ := val_zero h
  unfold lin_Norm.val
  rw [if_pos h]
  have hN : NS C L least (0 + (varsOf L).length) (nraw C L least) := NS.fold oc (by omega) (varsOf L) (NS.start C L hw)
  rw [ncut_holds (fun c hc => by have := hN.coef c hc; omega)]
  have hpos : ∀ v ∈ varsOf L, 0 < v := fun v hv => by have := varsOf_range ol hv; omega
  have hd := dot_sum ht (varsOf L) (varsOf_lt L) hpos C L (fun l hl => ⟨(ol l hl).2.2, (mem_varsOf _ L).2 ⟨l, hl, rfl⟩⟩)
  have hf := (fS_fold ht (posS C L) (negS C L) (varsOf L) ([], [], least) hpos rfl).1
  rw [← hd] at hf
  unfold nraw
  unfold fS at hf
  simp only [dot] at hf
  omega

end Go.Proofs.Ytmcljhjmmipagaa.PL
