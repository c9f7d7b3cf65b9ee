/- The canonical form is as the law LinNormCanonical asks. No program in sight. -/
import Derived.Test.YtmcljhjmmipagaaPureD
import Derived.Test.YtmcljhjmmipagaaPureB
import Derived.Test.YtmcljhjmmipagaaCanonG
namespace Go.Proofs.Ytmcljhjmmipagaa.PL
open Go.RowKit Go.Proofs.YtmcljhjmmipagaaW.PrintWords
set_option linter.unusedVariables false
set_option linter.unusedSimpArgs false

theorem ofI_pos {v : Int} (h : 0 < v) : ofI v = v ∧ ofI (-v) = v := by unfold ofI; constructor <;> split <;> omega
/-- The variables of the terms so far. -/
theorem nfold_vars (p q : Int → Int) : ∀ (vs : List Int) (s : List Int × List Int × Int), (∀ v ∈ vs, 0 < v) → (vs.foldl (nstep p q) s).2.1.map ofI = s.2.1.map ofI ++ vs.filter (fun v => decide (p v ≠ q v))
  | [], s, _ => by simp
  | v :: vs, s, h => by
    have hv := ofI_pos (h v (by simp))
    rw [List.foldl_cons, nfold_vars p q vs _ (fun x hx => h x (by simp [hx])), List.filter_cons]
    unfold nstep
    by_cases c1 : q v < p v
    · rw [if_pos c1, if_pos (by simp; omega)]; simp [hv.1]
    · rw [if_neg c1]
      by_cases c2 : p v < q v
      · rw [if_pos c2, if_pos (by simp; omega)]; simp [hv.2]
      · rw [if_neg c2, if_neg (by simp; omega)]
theorem nraw_vars {C L : List Int} (ol : okL L) (least : Int) : ((nraw C L least).2.1.map ofI).Pairwise (· < ·) := by
  unfold nraw
  rw [nfold_vars _ _ _ _ (fun v hv => by have := varsOf_range ol hv; omega)]
  simp only [List.map_nil, List.nil_append]
  exact (varsOf_lt L).sublist List.filter_sublist

theorem varsOf_sorted_aux : ∀ (L acc : List Int), (acc ++ L.map ofI).Pairwise (· < ·) → L.foldl (fun acc l => insV (ofI l) acc) acc = acc ++ L.map ofI
  | [], acc, _ => by simp
  | l :: L, acc, h => by
    have e : insV (ofI l) acc = acc ++ [ofI l] := by
      have h1 := insV_split (ofI l) [] acc (fun x hx => (List.pairwise_append.1 h).2.2 x hx (ofI l) (by simp))
      rw [List.append_nil] at h1
      rw [h1]; rfl
    rw [List.foldl_cons, e, varsOf_sorted_aux L (acc ++ [ofI l]) (by simpa using h)]
    simp
theorem varsOf_sorted {L : List Int} (h : (L.map ofI).Pairwise (· < ·)) : varsOf L = L.map ofI := by
  have := varsOf_sorted_aux L [] (by simpa using h)
  simpa [varsOf] using this

theorem dot_none (t : Int → Bool) : ∀ (C L : List Int), (∀ l ∈ L, t l = false) → dot t C L = 0
  | [], _, _ => by simp [dot]
  | _ :: _, [], _ => by simp [dot]
  | a :: C, b :: L, h => by
    simp only [dot]
    rw [h b (by simp), dot_none t C L (fun l hl => h l (by simp [hl]))]
    simp
/-- One variable's sum in a row without two terms of one variable. -/
theorem dot_one : ∀ (C L : List Int) (k : Nat) (x c l : Int), (L.map ofI).Pairwise (· < ·) → C[k]? = some c → L[k]? = some l → ofI x = ofI l → dot (fun y => y == x) C L = if l = x then c else 0
  | [], _, _, _, _, _, _, h, _, _ => by simp at h
  | _ :: _, [], _, _, _, _, _, _, h, _ => by simp at h
  | a :: C, b :: L, 0, x, c, l, hp, hc, hl, hx => by
    simp at hc hl
    subst hc hl
    simp only [dot]
    rw [dot_none _ C L (fun y hy => by
      have h1 := (List.pairwise_cons.1 (by simpa using hp)).1 (ofI y) (List.mem_map.2 ⟨y, hy, rfl⟩)
      simp only [beq_eq_false_iff_ne]
      rintro rfl
      omega)]
    simp
  | a :: C, b :: L, k + 1, x, c, l, hp, hc, hl, hx => by
    simp only [List.getElem?_cons_succ] at hc hl
    obtain ⟨h1, h2⟩ := List.pairwise_cons.1 (show (ofI b :: L.map ofI).Pairwise (· < ·) by simpa using hp)
    have h3 := h1 (ofI l) (List.mem_map.2 ⟨l, List.mem_of_getElem? hl, rfl⟩)
    simp only [dot]
    rw [dot_one C L k x c l h2 hc hl hx, if_neg (by simp only [beq_iff_eq]; rintro rfl; omega)]
    simp
/-- Each variable's turn gives its own term back. -/
theorem nfold_same (p q : Int → Int) : ∀ (C L : List Int) (s : List Int × List Int × Int), C.length = L.length → (∀ (k : Nat) (c l : Int), C[k]? = some c → L[k]? = some l → 1 ≤ c ∧ l ≠ 0 ∧ p (ofI l) = (if 0 < l then c else 0) ∧ q (ofI l) = (if 0 < l then 0 else c)) → (L.map ofI).foldl (nstep p q) s = (s.1 ++ C, s.2.1 ++ L, s.2.2)
  | [], [], s, _, _ => by simp
  | [], _ :: _, _, h, _ => by simp at h
  | _ :: _, [], _, h, _ => by simp at h
  | c :: C, l :: L, s, h, hk => by
    obtain ⟨h1, h2, h3, h4⟩ := hk 0 c l rfl rfl
    have e : nstep p q s (ofI l) = (s.1 ++ [c], s.2.1 ++ [l], s.2.2) := by
      unfold nstep
      by_cases hp : 0 < l
      · rw [if_pos hp] at h3 h4
        rw [h3, h4, if_pos (by omega), (ofI_pos hp).1]; simp
      · rw [if_neg hp] at h3 h4
        have e2 : -ofI l = l := by unfold ofI; split <;> omega
        rw [h3, h4, if_neg (by omega), if_pos (by omega), e2]; simp
    rw [List.map_cons, List.foldl_cons, e, nfold_same p q C L _ (by simpa using h) (fun k c l hc hl => hk (k + 1) c l (by simpa using hc) (by simpa using hl))]
    simp

theorem sumL_min {b : Int} (hb : 0 < b) (C : List Int) (hc : ∀ c ∈ C, 0 ≤ c) (h : b ≤ sumL C) : b ≤ sumL (C.map fun c => min c b) := by
  have h1 := (dot_min (t := fun _ => true) hb C (C.map fun _ => 1) hc).1
  rw [dot_true _ _ (by simp), dot_true _ _ (by simp)] at h1
  omega
theorem map_min_id {b : Int} : ∀ C : List Int, (∀ c ∈ C, c ≤ b) → C.map (fun c => min c b) = C
  | [], _ => rfl
  | c :: C, h => by
    rw [List.map_cons, map_min_id C (fun x hx => h x (by simp [hx]))]
    have := h c (by simp)
    congr 1
    omega

theorem norm_canon {C L : List Int} {least : Int} (hl : L.length ≤ 1000) : Canon (lin_Norm.val C L least) := by
  have hR := norm_range (C := C) (least := least) hl
  have hempty : ∀ b : Int, b = 0 ∨ b = 1 → lin_Norm.val [] [] b = ([], [], b) := fun b hb => by
    rcases hb with rfl | rfl <;> rfl
  have hcoef : ∀ k, k < (lin_Norm.val C L least).1.length → 1 ≤ rd (lin_Norm.val C L least).1 (k : Int) ∧ rd (lin_Norm.val C L least).1 (k : Int) ≤ (lin_Norm.val C L least).2.2 := fun k hk => hR.coef _ (rd_mem hk)
  have hlits : ∀ k, k < (lin_Norm.val C L least).2.1.length → -65536 ≤ rd (lin_Norm.val C L least).2.1 (k : Int) ∧ rd (lin_Norm.val C L least).2.1 (k : Int) ≤ 65536 := fun k hk => by have := hR.lits _ (rd_mem hk); exact ⟨this.1, this.2.1⟩
  have hsmall : ∀ k, k < (lin_Norm.val C L least).1.length → rd (lin_Norm.val C L least).1 (k : Int) ≤ 2251799813685248 := fun k hk => hR.small _ (rd_mem hk)
  have hle : (lin_Norm.val C L least).2.1.length ≤ 1000 := by have := hR.le; have := hR.len; omega
  have hlen := hR.len
  have hcs := hR.coef
  have hls := hR.lits
  -- what the shape of the answer says besides
  have hshape : ((lin_Norm.val C L least).1 = [] ∧ (lin_Norm.val C L least).2.1 = [] ∧ ((lin_Norm.val C L least).2.2 = 0 ∨ (lin_Norm.val C L least).2.2 = 1)) ∨
      (0 < (lin_Norm.val C L least).2.2 ∧ (lin_Norm.val C L least).2.2 ≤ sumL (lin_Norm.val C L least).1 ∧ ((lin_Norm.val C L least).2.1.map ofI).Pairwise (· < ·)) := by
    unfold lin_Norm.val
    split
    case isFalse => exact .inl ⟨rfl, rfl, .inl rfl⟩
    case isTrue hv =>
      obtain ⟨hlen, hw, oc, ol, hm⟩ := val_zero hv
      have hN : NS C L least (0 + (varsOf L).length) (nraw C L least) := NS.fold oc (by omega) (varsOf L) (NS.start C L hw)
      have hp := nraw_vars (C := C) ol least
      generalize nraw C L least = s at hN hp ⊢
      unfold ncut
      split
      · exact .inl ⟨rfl, rfl, .inl rfl⟩
      · split
        · exact .inl ⟨rfl, rfl, .inr rfl⟩
        · have h5 : 0 < s.2.2 := by omega
          have h6 : s.2.2 ≤ sumL s.1 := by omega
          exact .inr ⟨h5, sumL_min h5 _ (fun c hc => by have := hN.coef c hc; omega) h6, hp⟩
  generalize lin_Norm.val C L least = x at *
  obtain ⟨D, M, b⟩ := x
  dsimp only at *
  rcases hshape with ⟨rfl, rfl, hb⟩ | ⟨hb, hs, hp⟩
  · exact ⟨rfl, by simp, by simp, by simp, by simp, by simp, fun _ => hb, by simp, fun _ => hempty b hb⟩
  · refine ⟨hlen, hle, hlits, hcoef, fun k hk => ?_, hsmall, fun h0 => ?_, fun _ => ⟨by simp only []; omega, hs⟩, fun hv => ?_⟩
    · have h1 := List.pairwise_iff_getElem.1 hp k (k + 1) (by simpa using Nat.lt_of_succ_lt hk) (by simpa using hk) (by omega)
      dsimp only
      rw [rd_get hk, rd_get (Nat.lt_of_succ_lt hk)]
      simpa using h1
    · have : D = [] := List.length_eq_zero_iff.1 h0
      subst this
      simp [sumL] at hs
      omega
    · dsimp only at hv ⊢
      unfold lin_Norm.val
      rw [if_pos hv]
      unfold nraw
      rw [varsOf_sorted hp, nfold_same _ _ D M ([], [], b) hlen (fun k c l hc hl => ?_)]
      · simp only [List.nil_append]
        unfold ncut
        rw [if_neg (by simp only []; omega), if_neg (by simp only []; omega)]
        simp only []
        rw [map_min_id D (fun c hc => (hcs c hc).2)]
      · have h1 := hcs c (List.mem_of_getElem? hc)
        have h2 := hls l (List.mem_of_getElem? hl)
        have h3 : 0 < ofI l := by unfold ofI; split <;> omega
        obtain ⟨h3, h4⟩ := ofI_pos h3
        refine ⟨h1.1, h2.2.2, ?_, ?_⟩
        · unfold posS
          rw [dot_one D M k (ofI l) c l hp hc hl h3]
          by_cases h5 : 0 < l
          · rw [if_pos h5, if_pos (ofI_pos h5).1.symm]
          · rw [if_neg h5, if_neg (by unfold ofI; rw [if_pos (by omega)]; omega)]
        · unfold negS
          rw [dot_one D M k (-ofI l) c l hp hc hl h4]
          by_cases h5 : 0 < l
          · rw [if_pos h5, if_neg (by rw [(ofI_pos h5).1]; omega)]
          · rw [if_neg h5, if_pos (by unfold ofI; rw [if_pos (by omega)]; omega)]

theorem normCanonical_calls (A0 : Option Addr) (c0 : Nat) (C : List Int) (A1 : Option Addr) (c1 : Nat) (L : List Int) (a : Int) (w : World) (h0 : Kd.C (Kd.int .i64) w A0 C.length C) (s0 : C.length ≤ c0) (h1 : Kd.C (Kd.int .i64) w A1 L.length L) (s1 : L.length ≤ c1) :
    Calls Try.prog 9 #[.agg #[.slice A0 C.length c0, .slice A1 L.length c1, .int .i64 a]] w fun e w' => e = .returned (.bool true) ∧ Below w.heap.size w w' := by
  have hf := few_val C L a
  by_cases h : L.length ≤ 60 ∧ C.length ≤ 60
  · rw [decide_eq_true h] at hf
    exact canon_walk A0 c0 C A1 c1 L a w ⟨h0, h1, s0, s1⟩ hf (lin_Norm.val C L a) (by unfold lin_Norm.f; rw [if_pos (by omega)]) (norm_canon (by omega))
  · rw [decide_eq_false h] at hf
    exact canon_early A0 c0 C A1 c1 L a w ⟨h0, h1, s0, s1⟩ hf

end Go.Proofs.Ytmcljhjmmipagaa.PL
