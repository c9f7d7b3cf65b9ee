/- The law LinNormEquivalent as lists: its printed function tells true, with rounds enough. -/
import Derived.Test.YtmcljhjmmipagaaPureE
import Derived.Test.YtmcljhjmmipagaaPLx14
namespace Go.Proofs.Ytmcljhjmmipagaa.PL
open Go.RowKit Go.Proofs.YtmcljhjmmipagaaW.PrintWords Go.Proofs.YtmcljhjmmipagaaW.PrintLast Go.Proofs.YtmcljhjmmipagaaW.PrintMore
set_option linter.unusedVariables false
set_option linter.unusedSimpArgs false

theorem few_ev (C L : List Int) (a : Int) : chalklinelaw12_few.f C L a = some (decide (L.length ≤ 60 ∧ C.length ≤ 60)) := by
  unfold chalklinelaw12_few.f
  by_cases h : (L.length : Int) ≤ 60
  · rw [if_pos h]
    have h' : L.length ≤ 60 := by omega
    by_cases g : (C.length : Int) ≤ 60
    · have g' : C.length ≤ 60 := by omega
      rw [decide_eq_true g, decide_eq_true ⟨h', g'⟩]
    · have g' : ¬ (L.length ≤ 60 ∧ C.length ≤ 60) := by omega
      rw [decide_eq_false g, decide_eq_false g']
  · rw [if_neg h]
    have h' : ¬ L.length ≤ 60 := by omega
    simp [h']

/-- What Check at a smaller number of variables tells. -/
theorem val_small {C L : List Int} {least n : Int} (h0 : 0 ≤ n) (h1 : n ≤ 65536) (h : lin_Check.val C L least n = 0) : lin_Check.val C L least 65536 = 0 ∧ ∀ l ∈ L, -n ≤ l ∧ l ≤ n ∧ l ≠ 0 := by
  unfold lin_Check.val at h
  rw [if_neg (by omega), if_neg (by omega)] at h
  by_cases h2 : (C.length : Int) = (L.length : Int)
  · rw [if_pos h2] at h
    by_cases h3 : withinB least = true
    · rw [if_pos h3] at h
      by_cases h4 : (C.any fun c => !withinB c) = true
      · rw [if_pos h4] at h; omega
      · rw [if_neg h4] at h
        by_cases h5 : (L.any (wrongB n)) = true
        · rw [if_pos h5] at h; omega
        · rw [if_neg h5] at h
          by_cases h6 : 4096 < (L.length : Int)
          · rw [if_pos h6] at h; omega
          · have hL : ∀ l ∈ L, -n ≤ l ∧ l ≤ n ∧ l ≠ 0 := fun l hl => by
              have : wrongB n l = false := by
                cases e : wrongB n l with
                | false => rfl
                | true => exact absurd (List.any_eq_true.2 ⟨l, hl, e⟩) h5
              simp [wrongB] at this
              exact ⟨by omega, by omega, this.1⟩
            refine ⟨?_, hL⟩
            unfold lin_Check.val
            have h7 : ¬ (L.any (wrongB 65536)) = true := fun e => by
              obtain ⟨l, hl, e⟩ := List.any_eq_true.1 e
              have := hL l hl
              simp [wrongB] at e
              omega
            rw [if_neg (by omega), if_neg (by omega), if_pos h2, if_pos h3, if_neg h4, if_neg h7, if_neg h6]
    · rw [if_neg h3] at h; omega
  · rw [if_neg h2] at h; omega
/-- The canonical form's literals are the constraint's variables. -/
theorem norm_lits {C L : List Int} {least n : Int} (h : ∀ l ∈ L, -n ≤ l ∧ l ≤ n ∧ l ≠ 0) : ∀ l ∈ (lin_Norm.val C L least).2.1, -n ≤ l ∧ l ≤ n ∧ l ≠ 0 := by
  have hraw : ∀ l ∈ (nraw C L least).2.1, -n ≤ l ∧ l ≤ n ∧ l ≠ 0 := fun l hx => by
    rcases nstep_lits _ _ _ _ l hx with h1 | ⟨v, hv, e⟩
    · simp at h1
    · obtain ⟨l2, hl2, rfl⟩ := (mem_varsOf v L).1 hv
      have := h l2 hl2
      unfold ofI at e
      split at e <;> omega
  unfold lin_Norm.val
  split
  · unfold ncut
    split
    · simp
    · split
      · simp
      · exact hraw
  · simp

theorem normEq_l1 (C L : List Int) (least : Int) (h : lin_Check.val C L least 8 = 0) (hl : L.length ≤ 60) (x : List Int × List Int × Int) (hx : lin_Norm.val C L least = x) : ∀ (m j : Nat), 256 - j = m → j ≤ 256 → Ev (fun k => chalklinelaw12_LinNormEquivalent.l1 k (j : Int) C L least x.1 x.2.1 x.2.2) true := by
  obtain ⟨hv, hL⟩ := val_small (by omega) (by omega) h
  obtain ⟨hlen, hw, oc, ol, hm⟩ := val_zero hv
  have hR : NormR x := by rw [← hx]; exact norm_range (by omega)
  have hxl : ∀ l ∈ x.2.1, -8 ≤ l ∧ l ≤ 8 ∧ l ≠ 0 := by rw [← hx]; exact norm_lits hL
  intro m
  induction m with
  | zero =>
    intro j hm hj
    refine Ev.step (Ev.pure _) (fun k => ?_)
    rw [chalklinelaw12_LinNormEquivalent.l1, if_neg (by omega)]
  | succ m ih =>
    intro j hm hj
    have hh := norm_holds (lits_tB (j : Int)) hv (show L.length ≤ 1000 by omega)
    rw [hx] at hh
    have e0 : lin_Value.f C L least (truthsL (j : Int)) = some (decide (least ≤ dot (tB (j : Int)) C L)) := by
      unfold lin_Value.f lin_Value.val
      rw [if_pos hv, dot_congr C L (fun l hl => litT_truths (bits := (j : Int)) (by have := hL l hl; unfold ofI; split <;> omega) (by have := hL l hl; unfold ofI; split <;> omega))]
    have e1 := holds_ev x.1 x.2.1 x.2.2 (j : Int) hR.len (by have := hR.len; have := hR.le; omega) (fun c hc => by have := hR.coef c hc; have := hR.small c hc; omega) (fun l hl => by have := hxl l hl; omega)
    have e2 := holds_ev C L least (j : Int) hlen (by omega) (fun c hc => by have := oc c hc; omega) (fun l hl => by have := hL l hl; omega)
    have e3 : decide (x.2.2 ≤ dot (tB (j : Int)) x.1 x.2.1) = decide (least ≤ dot (tB (j : Int)) C L) := by
      rw [decide_eq_decide]; exact hh
    rw [e3] at e1
    generalize decide (least ≤ dot (tB (j : Int)) C L) = b at e0 e1 e2
    refine Ev.step (F := fun k => chalklinelaw12_LinNormEquivalent.l1 k (j : Int) C L least x.1 x.2.1 x.2.2) (G := fun k => (chalklineref12_Truths.f k 8 (j : Int)).bind fun t454 => ((lin_Value.f C L least t454).bind fun t457 => ((chalklinelaw12_holds.f k x.1 x.2.1 x.2.2 (j : Int)).bind fun t458 => (if (t457 != t458) = true then (some false) else ((chalklinelaw12_holds.f k C L least (j : Int)).bind fun t459 => ((chalklinelaw12_holds.f k x.1 x.2.1 x.2.2 (j : Int)).bind fun t460 => (if (t459 != t460) = true then (some false) else (chalklinelaw12_LinNormEquivalent.l1 k (wrap64 ((j : Int) + 1)) C L least x.1 x.2.1 x.2.2)))))))) ?_ (fun k => ?_)
    · refine Ev.bind (truths_ev (j : Int)) ?_
      simp only [e0, Option.bind_some]
      refine Ev.bind e1 ?_
      simp only [bne_self_eq_false, Bool.false_eq_true, if_false]
      refine Ev.bind e2 ?_
      refine Ev.bind e1 ?_
      simp only [bne_self_eq_false, Bool.false_eq_true, if_false]
      rw [wrap_succ (by omega)]
      exact ih (j + 1) (by omega) (by omega)
    · rw [chalklinelaw12_LinNormEquivalent.l1, if_pos (by omega)]
theorem normEq_l0 (C L : List Int) (least : Int) (h : lin_Check.val C L least 8 = 0) (hl : L.length ≤ 60) (x : List Int × List Int × Int) (hx : lin_Norm.val C L least = x) : ∀ (m j : Nat), x.2.1.length - j = m → j ≤ x.2.1.length → Ev (fun k => chalklinelaw12_LinNormEquivalent.l0 k (j : Int) C L least x.1 x.2.1 x.2.2) true := by
  obtain ⟨hv, hL⟩ := val_small (by omega) (by omega) h
  have hR : NormR x := by rw [← hx]; exact norm_range (by omega)
  have hxl : ∀ l ∈ x.2.1, -8 ≤ l ∧ l ≤ 8 ∧ l ≠ 0 := by rw [← hx]; exact norm_lits hL
  have hle := hR.le
  have hlen := hR.len
  intro m
  induction m with
  | zero =>
    intro j hm hj
    refine Ev.step (normEq_l1 C L least h hl x hx _ 0 rfl (by omega)) (fun k => ?_)
    rw [chalklinelaw12_LinNormEquivalent.l0, if_neg (by omega)]
    rfl
  | succ m ih =>
    intro j hm hj
    have hjl : j < x.2.1.length := by omega
    have hz := hxl _ (rd_mem hjl)
    refine Ev.step (ih (j + 1) (by omega) (by omega)) (fun k => ?_)
    rw [chalklinelaw12_LinNormEquivalent.l0, if_pos (by omega), if_pos (by omega), if_neg hz.2.2, if_neg (by omega), if_neg (by omega), wrap_succ (by omega)]
theorem normEq_j0 (b : Bool) (C L : List Int) (a : Int) (h : b = false → L.length ≤ 60 ∧ lin_Check.val C L a 8 = 0) : Ev (fun k => chalklinelaw12_LinNormEquivalent.j0 k b C L a) true := by
  cases b with
  | true => exact Ev.step (Ev.pure _) (fun k => by rw [chalklinelaw12_LinNormEquivalent.j0, if_pos rfl])
  | false =>
    obtain ⟨hL, hC⟩ := h rfl
    have hf : lin_Norm.f C L a = some (lin_Norm.val C L a) := by unfold lin_Norm.f; rw [if_pos (by omega)]
    have hR := norm_range (C := C) (least := a) (show L.length ≤ 1000 by omega)
    refine Ev.step (normEq_l0 C L a hC hL _ rfl _ 0 rfl (Nat.zero_le _)) (fun k => ?_)
    rw [chalklinelaw12_LinNormEquivalent.j0, if_neg (by simp), hf, Option.bind_some, if_pos (by have := hR.len; omega)]
    rfl
theorem normEquivalent_ev (C L : List Int) (a : Int) : Ev (fun k => chalklinelaw12_LinNormEquivalent.f k C L a) true := by
  by_cases h : L.length ≤ 60 ∧ C.length ≤ 60
  · refine (normEq_j0 (lin_Check.val C L a 8 != 0) C L a (fun e => ⟨h.1, by simpa using e⟩)).congr (fun k => ?_)
    unfold chalklinelaw12_LinNormEquivalent.f chalklinelaw12_live.f
    rw [few_ev, decide_eq_true h]
    rfl
  · refine (normEq_j0 true C L a (fun e => by cases e)).congr (fun k => ?_)
    unfold chalklinelaw12_LinNormEquivalent.f chalklinelaw12_live.f
    rw [few_ev, decide_eq_false h]
    rfl

end Go.Proofs.Ytmcljhjmmipagaa.PL
