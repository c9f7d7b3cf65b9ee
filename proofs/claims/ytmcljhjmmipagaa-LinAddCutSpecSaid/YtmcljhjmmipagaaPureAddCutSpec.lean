/- The reference's Add and Cut tell what lin.Add and lin.Cut tell; the law LinAddCutSpec. -/
import Derived.Test.YtmcljhjmmipagaaPureC
import Derived.Test.YtmcljhjmmipagaaAddCutG
namespace Go.Proofs.Ytmcljhjmmipagaa.PL
open Go.RowKit Go.Proofs.YtmcljhjmmipagaaW.PrintWords Go.Proofs.YtmcljhjmmipagaaW.PrintLast Go.Proofs.YtmcljhjmmipagaaW.PrintMore
set_option linter.unusedVariables false
set_option linter.unusedSimpArgs false

theorem refAdd_ev (C L : List Int) (a : Int) (D M : List Int) (b : Int) (hC : C.length ≤ 60) (hL : L.length ≤ 60) (hD : D.length ≤ 60) (hM : M.length ≤ 60) : Ev (fun k => chalklineref12_Add.f k C L a D M b) (lin_Add.val C L a D M b) := by
  unfold chalklineref12_Add.f lin_Add.val
  refine (refCheck_ev C L a 65536 (by omega)).bind ?_
  by_cases h : lin_Check.val C L a 65536 = 0
  · simp only [if_pos h]
    refine (refCheck_ev D M b 65536 (by omega)).bind ?_
    obtain ⟨hlen, hw, oc, ol, hm⟩ := val_zero h
    have hw1 : -1099511627776 ≤ a ∧ a ≤ 1099511627776 := by simpa [withinB] using hw
    by_cases h2 : lin_Check.val D M b 65536 = 0
    · simp only [if_pos h2]
      obtain ⟨hlen2, hw2, oc2, ol2, hm2⟩ := val_zero h2
      have hw3 : -1099511627776 ≤ b ∧ b ≤ 1099511627776 := by simpa [withinB] using hw2
      have e1 : wrap64 ((L.length : Int) + (M.length : Int)) = (L.length : Int) + (M.length : Int) := wrap_id (by omega) (by omega)
      have e2 : wrap64 (a + b) = a + b := wrap_id (by omega) (by omega)
      rw [if_neg (show ¬ 4096 < (L ++ M).length by simp; omega)]
      by_cases hs : withinB (a + b) = true
      · have hs' : -1099511627776 ≤ a + b ∧ a + b ≤ 1099511627776 := by simpa [withinB] using hs
        rw [if_pos hs]
        refine Ev.step (Ev.pure _) (fun k => ?_)
        simp only [chalklineref12_Add.j0]
        rw [if_pos h2, e1, e2, if_neg (by omega), if_neg (by omega), if_neg (by omega)]
        simp only [List.nil_append, List.length_nil, Nat.zero_add, Option.bind_some]
        rw [if_pos (by omega), if_pos (by omega), if_pos (by omega), if_pos (by omega)]
      · have hs' : a + b < -1099511627776 ∨ 1099511627776 < a + b := by
          have : ¬ (-1099511627776 ≤ a + b ∧ a + b ≤ 1099511627776) := fun e => hs (by simpa [withinB] using e)
          omega
        rw [if_neg hs]
        refine Ev.step (Ev.pure _) (fun k => ?_)
        simp only [chalklineref12_Add.j0]
        rw [if_pos h2, e1, e2, if_neg (by omega)]
        by_cases hs2 : a + b < -1099511627776
        · rw [if_pos hs2]
        · rw [if_neg hs2, if_pos (by omega)]
    · simp only [if_neg h2]
      refine Ev.step (Ev.pure _) (fun k => ?_)
      simp only [chalklineref12_Add.j0]
      rw [if_neg h2]
  · simp only [if_neg h]
    refine Ev.step (Ev.pure _) (fun k => ?_)
    simp only [chalklineref12_Add.j0]
    rw [if_neg h]

theorem cut_step {d n : Int} (hd : 1 ≤ d) (hd1 : d ≤ 1099511627776) (h0 : 0 ≤ n) (h1 : n ≤ 2000000000000000000) : wrap64 (Int.tdiv (wrap64 ((wrap64 (n + d)) - 1)) d) = ceilQ d n := by
  have hq0 : 0 ≤ Int.tdiv (n + d - 1) d := Int.tdiv_nonneg (by omega) (by omega)
  have hq1 : Int.tdiv (n + d - 1) d ≤ n + d - 1 := Int.tdiv_le_self _ (by omega)
  rw [wrap_id (x := n + d) (by omega) (by omega), wrap_id (x := n + d - 1) (by omega) (by omega), wrap_id (by omega) (by omega)]
  rfl
theorem cut_l0 (L : List Int) (b d : Int) (Cs : List Int) (hd : 1 ≤ d) (hd1 : d ≤ 1099511627776) (hl : Cs.length ≤ 1000) (hc : ∀ c ∈ Cs, 0 ≤ c ∧ c ≤ 2000000000000000000) (hb : 0 ≤ b ∧ b ≤ 2000000000000000000) : ∀ (m j : Nat), Cs.length - j = m → j ≤ Cs.length → Ev (fun k => chalklineref12_Cut.l0 k d (j : Int) (cur (ceilQ d) Cs j) L b) (Cs.map (ceilQ d), L, ceilQ d b, 0) := by
  intro m
  induction m with
  | zero =>
    intro j hm hj
    refine Ev.step (Ev.pure _) (fun k => ?_)
    simp only [chalklineref12_Cut.l0]
    have hl := cur_length (ceilQ d) Cs j
    rw [if_neg (by omega), if_neg (by omega), cut_step hd hd1 hb.1 hb.2]
    obtain rfl : j = Cs.length := by omega
    simp [cur]
  | succ m ih =>
    intro j hm hj
    have hjl : j < Cs.length := by omega
    have hl := cur_length (ceilQ d) Cs j
    have hg : rd (cur (ceilQ d) Cs j) (j : Int) = rd Cs (j : Int) := by
      have := cur_get (ceilQ d) hjl
      simp only [rd, Int.toNat_natCast] at this ⊢
      rw [List.getD_eq_getElem?_getD, this]
      rfl
    have hset := cur_set (ceilQ d) hjl
    have hcj := hc _ (rd_mem hjl)
    refine Ev.step (ih (j + 1) (by omega) (by omega)) (fun k => ?_)
    simp only [chalklineref12_Cut.l0]
    rw [if_pos (by omega), if_pos (by omega), if_neg (by omega), hg, wrap_succ (by omega), Int.toNat_natCast, cut_step hd hd1 hcj.1 hcj.2, ← hset]

theorem refCut_ev (C L : List Int) (a d : Int) (hL : L.length ≤ 60) : Ev (fun k => chalklineref12_Cut.f k C L a d) (lin_Cut.val C L a d) := by
  unfold chalklineref12_Cut.f lin_Cut.val
  refine (refCheck_ev C L a 65536 (by omega)).bind ?_
  by_cases h : lin_Check.val C L a 65536 = 0
  · simp only [if_pos h]
    by_cases h1 : d < 1
    · rw [if_pos (.inl h1)]
      simp only [if_pos h1]
      exact Ev.step (Ev.pure _) (fun k => by rw [chalklineref12_Cut.j0, if_pos rfl])
    · simp only [if_neg h1]
      by_cases h2 : 1099511627776 < d
      · rw [if_pos (.inr h2), decide_eq_true (show d > 1099511627776 from h2)]
        exact Ev.step (Ev.pure _) (fun k => by rw [chalklineref12_Cut.j0, if_pos rfl])
      · rw [if_neg (by omega), decide_eq_false (show ¬ d > 1099511627776 from h2)]
        have hR : NormR (lin_Norm.val C L a) := norm_range (by omega)
        refine Ev.step ?_ (fun k => by rw [chalklineref12_Cut.j0, if_neg (by simp)])
        refine (refNorm_ev C L a (by omega)).bind ?_
        have := cut_l0 (lin_Norm.val C L a).2.1 (lin_Norm.val C L a).2.2 d (lin_Norm.val C L a).1 (by omega) (by omega) hR.le (fun c hc => by have h1 := hR.coef c hc; have h2 := hR.least; omega) hR.least _ 0 rfl (Nat.zero_le _)
        simpa [cur] using this
  · simp only [if_neg h]
    exact Ev.pure _

theorem add_len {C L : List Int} {a : Int} {D M : List Int} {b : Int} (hC : C.length ≤ 60) (hL : L.length ≤ 60) (hD : D.length ≤ 60) (hM : M.length ≤ 60) : (lin_Add.val C L a D M b).1.length ≤ 1000 ∧ (lin_Add.val C L a D M b).2.1.length ≤ 1000 := by
  unfold lin_Add.val
  repeat' split
  all_goals simp
  all_goals omega
theorem cut_len {C L : List Int} {a d : Int} (hL : L.length ≤ 60) : (lin_Cut.val C L a d).1.length ≤ 1000 ∧ (lin_Cut.val C L a d).2.1.length ≤ 1000 := by
  have hR : NormR (lin_Norm.val C L a) := norm_range (by omega)
  have h1 := hR.le
  have h2 := hR.len
  unfold lin_Cut.val
  repeat' split
  all_goals simp
  all_goals omega
theorem addCut_calls (A0 : Option Addr) (c0 : Nat) (C : List Int) (A1 : Option Addr) (c1 : Nat) (L : List Int) (a : Int) (A2 : Option Addr) (c2 : Nat) (D : List Int) (A3 : Option Addr) (c3 : Nat) (M : List Int) (b d : Int) (w : World) (h0 : Kd.C (Kd.int .i64) w A0 C.length C) (s0 : C.length ≤ c0) (h1 : Kd.C (Kd.int .i64) w A1 L.length L) (s1 : L.length ≤ c1) (h2 : Kd.C (Kd.int .i64) w A2 D.length D) (s2 : D.length ≤ c2) (h3 : Kd.C (Kd.int .i64) w A3 M.length M) (s3 : M.length ≤ c3) :
    Calls Try.prog 7 #[.agg #[.slice A0 C.length c0, .slice A1 L.length c1, .int .i64 a], .agg #[.slice A2 D.length c2, .slice A3 M.length c3, .int .i64 b], .int .i64 d] w fun e w' => e = .returned (.bool true) ∧ Below w.heap.size w w' := by
  have hfa := few_val C L a
  have hfb := few_val D M b
  by_cases ha : L.length ≤ 60 ∧ C.length ≤ 60
  · rw [decide_eq_true ha] at hfa
    by_cases hb : M.length ≤ 60 ∧ D.length ≤ 60
    · rw [decide_eq_true hb] at hfb
      have la := add_len (a := a) (b := b) ha.2 ha.1 hb.2 hb.1
      have lc := cut_len (C := C) (a := a) (d := d) ha.1
      obtain ⟨k1, e1⟩ := (refAdd_ev C L a D M b ha.2 ha.1 hb.2 hb.1).got
      obtain ⟨k2, e2⟩ := (refCut_ev C L a d ha.1).got
      obtain ⟨k3, e3⟩ := (refSame_ev (lin_Add.val C L a D M b).1 (lin_Add.val C L a D M b).2.1 (lin_Add.val C L a D M b).2.2.1 (lin_Add.val C L a D M b).1 (lin_Add.val C L a D M b).2.1 (lin_Add.val C L a D M b).2.2.1 (by omega) (by omega)).got
      obtain ⟨k4, e4⟩ := (refSame_ev (lin_Cut.val C L a d).1 (lin_Cut.val C L a d).2.1 (lin_Cut.val C L a d).2.2.1 (lin_Cut.val C L a d).1 (lin_Cut.val C L a d).2.1 (lin_Cut.val C L a d).2.2.1 (by omega) (by omega)).got
      exact addCut_walk A0 c0 C A1 c1 L a A2 c2 D A3 c3 M b d w ⟨h0, h1, s0, s1⟩ ⟨h2, h3, s2, s3⟩ hfa hfb (lin_Add.val C L a D M b).1 (lin_Add.val C L a D M b).2.1 (lin_Add.val C L a D M b).2.2.1 (lin_Add.val C L a D M b).2.2.2 (lin_Cut.val C L a d).1 (lin_Cut.val C L a d).2.1 (lin_Cut.val C L a d).2.2.1 (lin_Cut.val C L a d).2.2.2 k1 k2 k3 k4 rfl e1 (by unfold lin_Cut.f; rw [if_pos (by omega)]) e2 (e3.trans (by simp [sameB])) (e4.trans (by simp [sameB]))
    · rw [decide_eq_false hb] at hfb
      exact addCut_e2 A0 c0 C A1 c1 L a A2 c2 D A3 c3 M b d w ⟨h0, h1, s0, s1⟩ ⟨h2, h3, s2, s3⟩ hfa hfb
  · rw [decide_eq_false ha] at hfa
    exact addCut_e1 A0 c0 C A1 c1 L a A2 c2 D A3 c3 M b d w ⟨h0, h1, s0, s1⟩ ⟨h2, h3, s2, s3⟩ hfa

end Go.Proofs.Ytmcljhjmmipagaa.PL
