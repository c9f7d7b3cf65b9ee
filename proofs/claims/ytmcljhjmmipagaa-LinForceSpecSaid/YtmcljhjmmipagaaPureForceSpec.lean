/- The law LinForceSpec as lists: its printed function tells true, with rounds enough. -/
import Derived.Test.YtmcljhjmmipagaaPureF
import Derived.Test.YtmcljhjmmipagaaPLx11
import Derived.Test.YtmcljhjmmipagaaOpenG
namespace Go.Proofs.Ytmcljhjmmipagaa.PL
open Go.RowKit Go.Proofs.YtmcljhjmmipagaaW.PrintWords Go.Proofs.YtmcljhjmmipagaaW.PrintLast Go.Proofs.YtmcljhjmmipagaaW.PrintMore
set_option linter.unusedVariables false
set_option linter.unusedSimpArgs false

theorem few_ev (C L : List Int) (a : Int) : chalklinelaw12_few.f C L a = some (decide (L.length ≤ 60 ∧ C.length ≤ 60)) := by
  unfold chalklinelaw12_few.f
  by_cases h : (L.length : Int) ≤ 60
  · rw [if_pos h]
    have h' : L.length ≤ 60 := by omega
    by_cases g : (C.length : Int) ≤ 60
    · have g' : C.length ≤ 60 := by omega
      rw [decide_eq_true g, decide_eq_true ⟨h', g'⟩]
    · have g' : ¬ (L.length ≤ 60 ∧ C.length ≤ 60) := by omega
      rw [decide_eq_false g, decide_eq_false g']
  · rw [if_neg h]
    have h' : ¬ L.length ≤ 60 := by omega
    simp [h']
theorem forced_le {C L : List Int} {a : Int} {ls : List Int} (hl : L.length ≤ 1000) : (lin_Force.val C L a ls).1.length ≤ 1000 := by
  have hR := (norm_range (C := C) (least := a) hl).le
  unfold lin_Force.val
  split
  · split
    · split
      · simp
      · have := forcedF_length ls (lin_Norm.val C L a).1 (lin_Norm.val C L a).2.1 (spareF ls (lin_Norm.val C L a).1 (lin_Norm.val C L a).2.1 (lin_Norm.val C L a).2.2)
        simp only []
        omega
    · simp
  · simp
theorem forceSpec_j0 (ls : List Int) (a : List Bool) (b : Bool) (C L : List Int) (least : Int) (hr : ∀ x ∈ ls, InI x) (h : b = false → L.length ≤ 60 ∧ ls.length ≤ 60) : Ev (fun k => chalklinelaw12_LinForceSpec.j0 k ls a b C L least) true := by
  cases b with
  | true => exact Ev.step (Ev.pure _) (fun k => by rw [chalklinelaw12_LinForceSpec.j0, if_pos rfl])
  | false =>
    obtain ⟨hL, hls⟩ := h rfl
    have hf : lin_Force.f C L least ls = some (lin_Force.val C L least ls) := by unfold lin_Force.f; rw [if_pos ⟨by omega, by omega, hr⟩]
    refine Ev.step ?_ (fun k => by rw [chalklinelaw12_LinForceSpec.j0, if_neg (by simp), hf, Option.bind_some])
    refine Ev.bind (refForce_ev C L least ls (by omega) (by omega) hr) ?_
    have hfl := forced_le (C := C) (a := least) (ls := ls) (show L.length ≤ 1000 by omega)
    refine Ev.bind (ints_ev _ _ (by omega)) ?_
    simp only [decide_true, if_true, beq_self_eq_true]
    simp only [lin_Value.f, Option.bind_some]
    refine Ev.bind (refValue_ev C L least a (by omega)) ?_
    simp only [beq_self_eq_true]
    exact Ev.pure _
theorem forceSpec_ev (C L : List Int) (least : Int) (ls : List Int) (a : List Bool) (t0 : ∀ x ∈ C, InI x) (t1 : ∀ x ∈ L, InI x) (t2 : InI least) (hr : ∀ x ∈ ls, InI x) : Ev (fun k => chalklinelaw12_LinForceSpec.f k C L least ls a) true := by
  by_cases h : L.length ≤ 60 ∧ C.length ≤ 60
  · by_cases h2 : (ls.length : Int) > 60
    · refine (forceSpec_j0 ls a true C L least hr (fun e => by cases e)).congr (fun k => ?_)
      unfold chalklinelaw12_LinForceSpec.f chalklinelaw12_live.f
      rw [few_ev, decide_eq_true h]
      simp only [Option.bind_some, if_true, if_pos h2]
    · refine (forceSpec_j0 ls a (decide ((a.length : Int) > 100)) C L least hr (fun e => ⟨h.1, by omega⟩)).congr (fun k => ?_)
      unfold chalklinelaw12_LinForceSpec.f chalklinelaw12_live.f
      rw [few_ev, decide_eq_true h]
      simp only [Option.bind_some, if_true, if_neg h2]
  · refine (forceSpec_j0 ls a true C L least hr (fun e => by cases e)).congr (fun k => ?_)
    unfold chalklinelaw12_LinForceSpec.f chalklinelaw12_live.f
    rw [few_ev, decide_eq_false h]
    rfl

end Go.Proofs.Ytmcljhjmmipagaa.PL
