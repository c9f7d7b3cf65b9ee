/- The law LinCutSound: what the cut and the canonical form are, and that the law answers true. -/
import Derived.Test.YtmcljhjmmipagaaPureD
import Derived.Test.YtmcljhjmmipagaaPureA
import Derived.Test.YtmcljhjmmipagaaPLx4
import Derived.Test.YtmcljhjmmipagaaPLx5
import Derived.Test.YtmcljhjmmipagaaBoxG
import Derived.Test.YtmcljhjmmipagaaPureNormEquivalent
import Derived.Test.YtmcljhjmmipagaaCutSoundG
namespace Go.Proofs.Ytmcljhjmmipagaa.PL
open Go.RowKit Go.Proofs.YtmcljhjmmipagaaW.PrintWords
set_option linter.unusedVariables false
set_option linter.unusedSimpArgs false

theorem ceilQ_spec {d n : Int} (hd : 1 ≤ d) (hn : 0 ≤ n) : n ≤ d * ceilQ d n ∧ d * ceilQ d n ≤ n + d - 1 := by
  unfold ceilQ
  rw [Int.tdiv_eq_ediv_of_nonneg (by omega)]
  have h1 := Int.mul_ediv_add_emod (n + d - 1) d
  have h2 := Int.emod_nonneg (n + d - 1) (show d ≠ 0 by omega)
  have h3 := Int.emod_lt_of_pos (n + d - 1) (show 0 < d by omega)
  omega
theorem ceilQ_one {n : Int} : ceilQ 1 n = n := by
  unfold ceilQ
  rw [Int.tdiv_one]
  omega
theorem mul_le_cancel {d x y : Int} (hd : 1 ≤ d) (h : d * x < d * y + d) : x ≤ y := by
  have e : d * y + d = d * (y + 1) := by rw [Int.mul_add, Int.mul_one]
  rw [e] at h
  have := Int.lt_of_mul_lt_mul_left h (by omega)
  omega
theorem ceilQ_pos {d n : Int} (hd : 1 ≤ d) (hn : 1 ≤ n) : 1 ≤ ceilQ d n := by
  have h1 := (ceilQ_spec hd (show 0 ≤ n by omega)).1
  refine mul_le_cancel hd ?_
  omega
theorem ceilQ_mono {d m n : Int} (hd : 1 ≤ d) (hm : 0 ≤ m) (h : m ≤ n) : ceilQ d m ≤ ceilQ d n := by
  have h1 := (ceilQ_spec hd hm).2
  have h2 := (ceilQ_spec hd (show 0 ≤ n by omega)).1
  refine mul_le_cancel hd ?_
  omega
theorem ceilQ_le {d n : Int} (hd : 1 ≤ d) (hn : 0 ≤ n) : ceilQ d n ≤ n := by
  have h1 := (ceilQ_spec hd hn).2
  refine mul_le_cancel hd ?_
  have : n ≤ d * n := by
    have := Int.mul_le_mul_of_nonneg_right hd hn
    omega
  omega
theorem dot_ceil {t : Int → Bool} {d : Int} (hd : 1 ≤ d) : ∀ (E M : List Int), (∀ c ∈ E, 0 ≤ c) → dot t E M ≤ d * dot t (E.map (ceilQ d)) M
  | [], M, _ => by simp [dot]
  | _ :: _, [], _ => by simp [dot]
  | c :: E, l :: M, h => by
    have h1 := dot_ceil (t := t) hd E M (fun x hx => h x (by simp [hx]))
    have h2 := (ceilQ_spec hd (h c (by simp))).1
    simp only [List.map_cons, dot]
    rw [Int.mul_add]
    split <;> omega

theorem cut_pure {C L : List Int} {a d : Int} (hl : L.length ≤ 60) (hv : lin_Check.val C L a 8 = 0) (hd0 : 1 ≤ d) (hd1 : d ≤ 1099511627776) :
    lin_Cut.f C L a d = some ((lin_Norm.val C L a).1.map (ceilQ d), (lin_Norm.val C L a).2.1, ceilQ d (lin_Norm.val C L a).2.2, 0) ∧
    lin_Cut.f C L a 1 = some ((lin_Norm.val C L a).1, (lin_Norm.val C L a).2.1, (lin_Norm.val C L a).2.2, 0) ∧
    CutP C L a ((lin_Norm.val C L a).1.map (ceilQ d)) (lin_Norm.val C L a).1 (lin_Norm.val C L a).2.1 (ceilQ d (lin_Norm.val C L a).2.2) (lin_Norm.val C L a).2.2 := by
  obtain ⟨hv2, hL⟩ := val_small (by omega) (by omega) hv
  obtain ⟨hlen, hw, oc, ol, hm⟩ := val_zero hv2
  have hR : NormR (lin_Norm.val C L a) := norm_range (by omega)
  have hxl := norm_lits (C := C) (least := a) hL
  have hh := fun j : Int => norm_holds (lits_tB j) hv2 (show L.length ≤ 1000 by omega)
  have hid : (lin_Norm.val C L a).1.map (ceilQ 1) = (lin_Norm.val C L a).1 :=
    (List.map_congr_left (g := id) (fun x _ => ceilQ_one)).trans (List.map_id _)
  have hle := hR.le
  refine ⟨?_, ?_, ?_⟩
  · unfold lin_Cut.f lin_Cut.val
    rw [if_pos (by omega), if_pos hv2, if_neg (by omega)]
  · unfold lin_Cut.f lin_Cut.val
    rw [if_pos (by omega), if_pos hv2, if_neg (by omega), hid, ceilQ_one]
  · generalize lin_Norm.val C L a = x at *
    obtain ⟨E, M, e⟩ := x
    dsimp only at *
    have hlenE := hR.len
    dsimp only at hlenE
    refine ⟨by simpa using hlenE, hlenE, by omega, fun k hk => hxl _ (rd_mem hk), fun k hk => ?_, fun j hj => ?_⟩
    · have hkE : k < E.length := by omega
      have h1 := hR.coef _ (rd_mem hkE)
      dsimp only at h1
      have e1 : rd (E.map (ceilQ d)) (k : Int) = ceilQ d (rd E (k : Int)) := by rw [rd_get hkE, rd_get (by simpa using hkE)]; simp
      rw [e1]
      exact ⟨ceilQ_pos hd0 h1.1, ceilQ_mono hd0 (by omega) h1.2⟩
    · have e2 := holds_ev C L a (j : Int) hlen (by omega) (fun c hc => by have := oc c hc; omega) (fun l hl => by have := hL l hl; omega)
      have e1 := holds_ev (E.map (ceilQ d)) M (ceilQ d e) (j : Int) (by simpa using hlenE) (by omega) (fun c hc => by
        obtain ⟨c', hc', rfl⟩ := List.mem_map.1 hc
        have h1 := hR.coef c' hc'
        have h2 := hR.small c' hc'
        have h3 := ceilQ_le hd0 (show 0 ≤ c' by omega)
        have h4 := ceilQ_pos hd0 h1.1
        omega) (fun l hl => by have := hxl l hl; omega)
      obtain ⟨k1, e1⟩ := e1
      obtain ⟨k2, e2⟩ := e2
      refine ⟨max k1 k2, _, _, e2 _ (by omega), e1 _ (by omega), fun hb => ?_⟩
      have hb := of_decide_eq_true hb
      rw [← hh] at hb
      have h5 := dot_ceil (t := tB (j : Int)) hd0 E M (fun c hc => by have := hR.coef c hc; omega)
      have h6 := (ceilQ_spec hd0 (show 0 ≤ e by have := hR.least; dsimp only at this; omega)).2
      exact decide_eq_true (mul_le_cancel hd0 (by omega))

theorem cutSound_calls (A0 : Option Addr) (c0 : Nat) (C : List Int) (A1 : Option Addr) (c1 : Nat) (L : List Int) (a d : Int) (w : World) (h0 : Kd.C (Kd.int .i64) w A0 C.length C) (s0 : C.length ≤ c0) (h1 : Kd.C (Kd.int .i64) w A1 L.length L) (s1 : L.length ≤ c1) :
    Calls Try.prog 3 #[.agg #[.slice A0 C.length c0, .slice A1 L.length c1, .int .i64 a], .int .i64 d] w fun e w' => e = .returned (.bool true) ∧ Below w.heap.size w w' := by
  have hf := few_val C L a
  by_cases h : L.length ≤ 60 ∧ C.length ≤ 60
  · rw [decide_eq_true h] at hf
    by_cases hv : lin_Check.val C L a 8 = 0
    · by_cases hd : 1 ≤ d ∧ d ≤ 1099511627776
      · obtain ⟨e1, e2, hc⟩ := cut_pure h.1 hv hd.1 hd.2
        exact cutSound_walk A0 c0 C A1 c1 L a d w ⟨h0, h1, s0, s1⟩ hf hv hd.1 hd.2 _ _ _ _ _ e1 e2 (by unfold lin_Norm.f; rw [if_pos (by omega)]) hc
      · exact cutSound_early A0 c0 C A1 c1 L a d w ⟨h0, h1, s0, s1⟩ (.inr ⟨hf, .inr ⟨hv, by omega⟩⟩)
    · exact cutSound_early A0 c0 C A1 c1 L a d w ⟨h0, h1, s0, s1⟩ (.inr ⟨hf, .inl hv⟩)
  · rw [decide_eq_false h] at hf
    exact cutSound_early A0 c0 C A1 c1 L a d w ⟨h0, h1, s0, s1⟩ (.inl hf)

end Go.Proofs.Ytmcljhjmmipagaa.PL
