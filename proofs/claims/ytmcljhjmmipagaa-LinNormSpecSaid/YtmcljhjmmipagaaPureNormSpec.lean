/- The law LinNormSpec as lists: its printed function tells true, with rounds enough. -/
import Derived.Test.YtmcljhjmmipagaaPureC
import Derived.Test.YtmcljhjmmipagaaPLx6
namespace Go.Proofs.Ytmcljhjmmipagaa.PL
open Go.RowKit Go.Proofs.YtmcljhjmmipagaaW.PrintWords Go.Proofs.YtmcljhjmmipagaaW.PrintLast Go.Proofs.YtmcljhjmmipagaaW.PrintMore
set_option linter.unusedVariables false
set_option linter.unusedSimpArgs false

theorem few_ev (C L : List Int) (a : Int) : chalklinelaw12_few.f C L a = some (decide (L.length ≤ 60 ∧ C.length ≤ 60)) := by
  unfold chalklinelaw12_few.f
  by_cases h : (L.length : Int) ≤ 60
  · rw [if_pos h]
    have h' : L.length ≤ 60 := by omega
    by_cases g : (C.length : Int) ≤ 60
    · have g' : C.length ≤ 60 := by omega
      rw [decide_eq_true g, decide_eq_true ⟨h', g'⟩]
    · have g' : ¬ (L.length ≤ 60 ∧ C.length ≤ 60) := by omega
      rw [decide_eq_false g, decide_eq_false g']
  · rw [if_neg h]
    have h' : ¬ L.length ≤ 60 := by omega
    simp [h']

theorem normSpec_j0 (n : Int) (b : Bool) (C L : List Int) (a : Int) (D M : List Int) (c : Int) (h : b = false → L.length ≤ 60 ∧ C.length ≤ 60) : Ev (fun k => chalklinelaw12_LinNormSpec.j0 k n b C L a D M c) true := by
  cases b with
  | true => exact Ev.step (Ev.pure _) (fun k => by rw [chalklinelaw12_LinNormSpec.j0, if_pos rfl])
  | false =>
    obtain ⟨hL, hC⟩ := h rfl
    have hf : lin_Norm.f C L a = some (lin_Norm.val C L a) := by unfold lin_Norm.f; rw [if_pos (by omega)]
    have hR := norm_range (C := C) (least := a) (show L.length ≤ 1000 by omega)
    refine Ev.step ?_ (fun k => by rw [chalklinelaw12_LinNormSpec.j0, if_neg (by simp), hf, Option.bind_some])
    refine Ev.bind (refNorm_ev C L a (by omega)) ?_
    refine Ev.bind (refSame_ev _ _ _ _ _ _ (by have := hR.le; omega) (by have := hR.le; have := hR.len; omega)) ?_
    have e : sameB (lin_Norm.val C L a).1 (lin_Norm.val C L a).2.1 (lin_Norm.val C L a).2.2 (lin_Norm.val C L a).1 (lin_Norm.val C L a).2.1 (lin_Norm.val C L a).2.2 = true := by simp [sameB]
    simp only [e, if_true]
    refine (Ev.bind (refCheck_ev C L a n (by omega)) (G := fun k t300 => if lin_Check.val C L a n = t300 then ((lin_Same.f k C L a D M c).bind fun t301 => ((chalklineref12_Same.f k C L a D M c).bind fun t302 => (some (t301 == t302)))) else (some false)) ?_).congr (fun k => ?_)
    · simp only [if_true]
      refine Ev.bind (linSame_ev C L a D M c (by omega) (by omega)) ?_
      refine Ev.bind (refSame_ev C L a D M c (by omega) (by omega)) ?_
      simp only [beq_self_eq_true]
      exact Ev.pure _
    · simp only [lin_Check.f, Option.bind_some]
theorem normSpec_ev (C L : List Int) (a : Int) (D M : List Int) (c n : Int) : Ev (fun k => chalklinelaw12_LinNormSpec.f k C L a D M c n) true := by
  refine Ev.congr (G := fun k => if decide (L.length ≤ 60 ∧ C.length ≤ 60) = true then chalklinelaw12_LinNormSpec.j0 k n (!decide (M.length ≤ 60 ∧ D.length ≤ 60)) C L a D M c else chalklinelaw12_LinNormSpec.j0 k n true C L a D M c) ?_ (fun k => ?_)
  · by_cases h : L.length ≤ 60 ∧ C.length ≤ 60
    · simp only [decide_eq_true h, if_true]
      exact normSpec_j0 n _ C L a D M c (fun _ => h)
    · simp only [decide_eq_false h, Bool.false_eq_true, if_false]
      exact normSpec_j0 n _ C L a D M c (fun h => by cases h)
  · unfold chalklinelaw12_LinNormSpec.f chalklinelaw12_live.f
    rw [few_ev, few_ev]
    rfl

end Go.Proofs.Ytmcljhjmmipagaa.PL
