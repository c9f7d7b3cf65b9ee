/- The law LinAddSound: the sum of two constraints. -/
import Derived.Test.YtmcljhjmmipagaaPureNormEquivalent
import Derived.Test.YtmcljhjmmipagaaAddSoundG
namespace Go.Proofs.Ytmcljhjmmipagaa.PL
open Go.RowKit Go.Proofs.YtmcljhjmmipagaaW.PrintWords
set_option linter.unusedVariables false
set_option linter.unusedSimpArgs false

theorem dot_append (t : Int → Bool) : ∀ (C L D M : List Int), C.length = L.length → dot t (C ++ D) (L ++ M) = dot t C L + dot t D M
  | [], [], D, M, _ => by simp [dot]
  | [], _ :: _, _, _, h => by simp at h
  | _ :: _, [], _, _, h => by simp at h
  | c :: C, l :: L, D, M, h => by
    have := dot_append t C L D M (by simpa using h)
    simp only [List.cons_append, dot]
    omega
theorem check_append {C L : List Int} {a : Int} {D M : List Int} {b : Int} (h : lin_Check.val C L a 65536 = 0) (h2 : lin_Check.val D M b 65536 = 0) (hl : L.length + M.length ≤ 4096) (hw : withinB (a + b) = true) : lin_Check.val (C ++ D) (L ++ M) (a + b) 65536 = 0 := by
  obtain ⟨hlen, _, oc, ol, _⟩ := val_zero h
  obtain ⟨hlen2, _, oc2, ol2, _⟩ := val_zero h2
  unfold lin_Check.val
  rw [if_neg (by omega), if_neg (by omega), if_pos (by simp; omega), if_pos hw, if_neg, if_neg, if_neg (by simp; omega)]
  · intro e
    obtain ⟨l, hl, e⟩ := List.any_eq_true.1 e
    have : -65536 ≤ l ∧ l ≤ 65536 ∧ l ≠ 0 := by
      rcases List.mem_append.1 hl with hl | hl
      · exact ol l hl
      · exact ol2 l hl
    simp [wrongB] at e
    omega
  · intro e
    obtain ⟨c, hc, e⟩ := List.any_eq_true.1 e
    have : -1099511627776 ≤ c ∧ c ≤ 1099511627776 := by
      rcases List.mem_append.1 hc with hc | hc
      · exact oc c hc
      · exact oc2 c hc
    simp [withinB] at e
    omega

theorem add_pure {C L : List Int} {a : Int} {D M : List Int} {b : Int} (h : lin_Check.val C L a 65536 = 0) (h2 : lin_Check.val D M b 65536 = 0) (hl : L.length + M.length ≤ 4096) (hw : withinB (a + b) = true) : AddP C L a D M b (C ++ D) (L ++ M) (a + b) := by
  refine ⟨fun j hj => ?_⟩
  obtain ⟨k, hk⟩ := (truths_ev (j : Int)).got
  refine ⟨k, _, _, _, _, hk, rfl, rfl, rfl, ?_⟩
  unfold lin_Value.val
  rw [if_pos h, if_pos h2, if_pos (check_append h h2 hl hw), dot_append _ _ _ _ _ (val_zero h).1]
  simp only [decide_eq_true_eq, decide_eq_false_iff_not]
  generalize dot (litT (truthsL (j : Int))) C L = x
  generalize dot (litT (truthsL (j : Int))) D M = y
  omega

theorem addSound_calls (A0 : Option Addr) (c0 : Nat) (C : List Int) (A1 : Option Addr) (c1 : Nat) (L : List Int) (a : Int) (A2 : Option Addr) (c2 : Nat) (D : List Int) (A3 : Option Addr) (c3 : Nat) (M : List Int) (b : Int) (w : World) (h0 : Kd.C (Kd.int .i64) w A0 C.length C) (s0 : C.length ≤ c0) (h1 : Kd.C (Kd.int .i64) w A1 L.length L) (s1 : L.length ≤ c1) (h2 : Kd.C (Kd.int .i64) w A2 D.length D) (s2 : D.length ≤ c2) (h3 : Kd.C (Kd.int .i64) w A3 M.length M) (s3 : M.length ≤ c3) :
    Calls Try.prog 11 #[.agg #[.slice A0 C.length c0, .slice A1 L.length c1, .int .i64 a], .agg #[.slice A2 D.length c2, .slice A3 M.length c3, .int .i64 b]] w fun e w' => e = .returned (.bool true) ∧ Below w.heap.size w w' := by
  have hfa := few_val C L a
  have hfb := few_val D M b
  by_cases ha : L.length ≤ 60 ∧ C.length ≤ 60
  · rw [decide_eq_true ha] at hfa
    by_cases hb : M.length ≤ 60 ∧ D.length ≤ 60
    · rw [decide_eq_true hb] at hfb
      rcases val_cases C L a 8 with hva | hva | hva
      · rcases val_cases D M b 8 with hvb | hvb | hvb
        · have va := (val_small (by omega) (by omega) hva).1
          have vb := (val_small (by omega) (by omega) hvb).1
          by_cases hw : withinB (a + b) = true
          · exact addSound_walk A0 c0 C A1 c1 L a A2 c2 D A3 c3 M b w ⟨h0, h1, s0, s1⟩ ⟨h2, h3, s2, s3⟩ hfa hfb hva hvb (C ++ D) (L ++ M) (a + b) (by unfold lin_Add.f lin_Add.val; rw [if_pos va, if_pos vb, if_neg (by simp; omega), if_pos hw]) (add_pure va vb (by omega) hw)
          · exact addSound_bad A0 c0 C A1 c1 L a A2 c2 D A3 c3 M b w ⟨h0, h1, s0, s1⟩ ⟨h2, h3, s2, s3⟩ hfa hfb hva hvb [] 0 (by unfold lin_Add.f lin_Add.val; rw [if_pos va, if_pos vb, if_neg (by simp; omega), if_neg hw])
        · exact addSound_e41 A0 c0 C A1 c1 L a A2 c2 D A3 c3 M b w ⟨h0, h1, s0, s1⟩ ⟨h2, h3, s2, s3⟩ hfa hfb hva hvb
        · exact addSound_e42 A0 c0 C A1 c1 L a A2 c2 D A3 c3 M b w ⟨h0, h1, s0, s1⟩ ⟨h2, h3, s2, s3⟩ hfa hfb hva hvb
      · exact addSound_e31 A0 c0 C A1 c1 L a A2 c2 D A3 c3 M b w ⟨h0, h1, s0, s1⟩ ⟨h2, h3, s2, s3⟩ hfa hfb hva
      · exact addSound_e32 A0 c0 C A1 c1 L a A2 c2 D A3 c3 M b w ⟨h0, h1, s0, s1⟩ ⟨h2, h3, s2, s3⟩ hfa hfb hva
    · rw [decide_eq_false hb] at hfb
      exact addSound_e2 A0 c0 C A1 c1 L a A2 c2 D A3 c3 M b w ⟨h0, h1, s0, s1⟩ ⟨h2, h3, s2, s3⟩ hfa hfb
  · rw [decide_eq_false ha] at hfa
    exact addSound_e1 A0 c0 C A1 c1 L a A2 c2 D A3 c3 M b w ⟨h0, h1, s0, s1⟩ ⟨h2, h3, s2, s3⟩ hfa

end Go.Proofs.Ytmcljhjmmipagaa.PL
