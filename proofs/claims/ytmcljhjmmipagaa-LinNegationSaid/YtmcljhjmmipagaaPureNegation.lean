/- The law LinNegation: the negation's canonical form and the constraint's. -/
import Derived.Test.YtmcljhjmmipagaaPureNormCanonical
import Derived.Test.YtmcljhjmmipagaaNegG
namespace Go.Proofs.Ytmcljhjmmipagaa.PL
open Go.RowKit Go.Proofs.YtmcljhjmmipagaaW.PrintWords Go.Proofs.YtmcljhjmmipagaaW.PrintLast Go.Proofs.YtmcljhjmmipagaaW.PrintMore
set_option linter.unusedVariables false
set_option linter.unusedSimpArgs false

theorem dot_neg (t : Int → Bool) : ∀ C L : List Int, dot t (negL C) L = -dot t C L
  | [], _ => by simp [negL, dot]
  | _ :: _, [] => by simp [negL, dot]
  | a :: C, b :: L => by
    have := dot_neg t C L
    simp only [negL, List.map_cons, dot] at this ⊢
    rw [this]
    split <;> omega
theorem neg_check {C L : List Int} {a : Int} (h : lin_Check.val C L a 65536 = 0) (ha : a ≠ -1099511627776) : lin_Check.val (negL C) L (1 - a) 65536 = 0 := by
  obtain ⟨hlen, hw, oc, ol, hm⟩ := val_zero h
  have hw2 : -1099511627776 ≤ a ∧ a ≤ 1099511627776 := by simpa [withinB] using hw
  unfold lin_Check.val
  rw [if_neg (by omega), if_neg (by omega), if_pos (by simp [negL]; omega), if_pos (by simp [withinB]; omega), if_neg, if_neg, if_neg (by omega)]
  · intro e
    obtain ⟨l, hl, e⟩ := List.any_eq_true.1 e
    have := ol l hl
    simp [wrongB] at e
    omega
  · intro e
    obtain ⟨c, hc, e⟩ := List.any_eq_true.1 e
    obtain ⟨c', hc', rfl⟩ := List.mem_map.1 hc
    have := oc c' hc'
    simp [withinB] at e
    omega
theorem spare_nil : ∀ (C L : List Int) (n : Int), C.length = L.length → (∀ l ∈ L, l ≠ 0) → (C.zip L).foldl (fun n p => spareS [] n p.1 p.2) n = n + sumL C
  | [], [], n, _, _ => by simp [sumL]
  | [], _ :: _, _, h, _ => by simp at h
  | _ :: _, [], _, h, _ => by simp at h
  | c :: C, l :: L, n, h, h0 => by
    have hl := h0 l (by simp)
    have e : spareS [] n c l = n + c := by unfold spareS atF; rw [if_neg (by simp; omega)]
    simp only [List.zip_cons_cons, List.foldl_cons]
    rw [e, spare_nil C L (n + c) (by simpa using h) (fun x hx => h0 x (by simp [hx]))]
    simp [sumL]
    omega
/-- What Force without literals tells. -/
theorem force_nil {C L : List Int} {a : Int} (h : lin_Check.val C L a 65536 = 0) (hl : L.length ≤ 60) :
    (lin_Norm.val C L a = ([], [], 1) ∧ lin_Force.f C L a [] = some ([], false)) ∨ (lin_Norm.val C L a ≠ ([], [], 1) ∧ ∃ fs, lin_Force.f C L a [] = some (fs, true)) := by
  have hR : NormR (lin_Norm.val C L a) := norm_range (by omega)
  have hsp : spareF [] (lin_Norm.val C L a).1 (lin_Norm.val C L a).2.1 (lin_Norm.val C L a).2.2 = sumL (lin_Norm.val C L a).1 - (lin_Norm.val C L a).2.2 := by
    unfold spareF
    rw [spare_nil _ _ _ hR.len (fun l hl => (hR.lits l hl).2.2)]
    omega
  have hok : oksF [] = true := rfl
  have hf : lin_Force.f C L a [] = some (lin_Force.val C L a []) := by
    unfold lin_Force.f
    rw [if_pos ⟨by omega, by simp, by simp⟩]
  rw [hf]
  unfold lin_Force.val
  rw [if_pos h, if_pos hok, hsp]
  rcases norm_shape (C := C) (least := a) (show L.length ≤ 1000 by omega) with e | e | ⟨h1, h2, _⟩
  · refine .inr ⟨by rw [e]; simp, ?_⟩
    rw [e, if_neg (by simp [sumL])]
    exact ⟨_, rfl⟩
  · refine .inl ⟨e, ?_⟩
    rw [e, if_pos (by simp [sumL])]
  · refine .inr ⟨fun e => ?_, ?_⟩
    · rw [e] at h1 h2
      simp [sumL] at h2
    · rw [if_neg (by omega)]
      exact ⟨_, rfl⟩

/-- An assignment under which none of the canonical form's literals is true. -/
theorem none_true {M : List Int} (hp : (M.map ofI).Pairwise (· < ·)) (h0 : ∀ l ∈ M, l ≠ 0) : ∃ t, Lits t ∧ ∀ l ∈ M, t l = false := by
  refine ⟨fun v => if 0 < v then decide (-v ∈ M) else !decide (v ∈ M), fun v hv => ?_, fun l hl => ?_⟩
  · show (if 0 < -v then decide (- -v ∈ M) else !decide (-v ∈ M)) = !(if 0 < v then decide (-v ∈ M) else !decide (v ∈ M))
    rw [if_neg (by omega), if_pos hv]
  · show (if 0 < l then decide (-l ∈ M) else !decide (l ∈ M)) = false
    by_cases h : 0 < l
    · rw [if_pos h]
      refine decide_eq_false (fun hn => ?_)
      obtain ⟨i, hi, e1⟩ := List.mem_iff_getElem.1 hl
      obtain ⟨j, hj, e2⟩ := List.mem_iff_getElem.1 hn
      have hij : i ≠ j := by rintro rfl; omega
      have hlt := List.pairwise_iff_getElem.1 hp
      have o := ofI_pos h
      rcases Nat.lt_or_gt_of_ne hij with hh | hh
      · have := hlt i j (by simpa using hi) (by simpa using hj) hh
        simp only [List.getElem_map, e1, e2, o.1, o.2] at this
        omega
      · have := hlt j i (by simpa using hj) (by simpa using hi) hh
        simp only [List.getElem_map, e1, e2, o.1, o.2] at this
        omega
    · rw [if_neg h, decide_eq_true hl]; rfl

theorem neg_pure {C L : List Int} {a : Int} (t : List Bool) (h : lin_Check.val C L a 65536 = 0) (ha : a ≠ -1099511627776) (hl : L.length ≤ 60) : NegP C L a t := by
  have hx := neg_check h ha
  have hl' : L.length ≤ 1000 := by omega
  have hnf : lin_Norm.f C L a = some (lin_Norm.val C L a) := by unfold lin_Norm.f; rw [if_pos hl']
  refine ⟨hl, hx, ?_, ?_⟩
  · unfold lin_Value.val
    rw [if_pos h, if_pos hx, dot_neg]
    by_cases c : a ≤ dot (litT t) C L
    · rw [decide_eq_true c, decide_eq_false (by omega)]; rfl
    · rw [decide_eq_false c, decide_eq_true (by omega)]; rfl
  · have hdiff : ∀ u, Lits u → ¬ ((lin_Norm.val C L a).2.2 ≤ dot u (lin_Norm.val C L a).1 (lin_Norm.val C L a).2.1) → ¬ ((lin_Norm.val (negL C) L (1 - a)).2.2 ≤ dot u (lin_Norm.val (negL C) L (1 - a)).1 (lin_Norm.val (negL C) L (1 - a)).2.1) → False := fun u hu h1 h2 => by
      rw [norm_holds hu h hl'] at h1
      rw [norm_holds hu hx hl', dot_neg] at h2
      omega
    have hu0 : Lits (fun v => decide (0 < v)) := fun v hv => by
      show decide (0 < -v) = !decide (0 < v)
      rw [decide_eq_true hv, decide_eq_false (by omega)]; rfl
    rcases force_nil h hl with ⟨e1, f1⟩ | ⟨n1, fs, f1⟩ <;> rcases force_nil hx hl with ⟨e2, f2⟩ | ⟨n2, gs, f2⟩
    · exact (hdiff _ hu0 (by rw [e1]; simp [dot]) (by rw [e2]; simp [dot])).elim
    · exact .inr (.inr ⟨gs, f1, f2, by rw [hnf, e1]⟩)
    · refine .inr (.inl ⟨fs, [], f1, f2, ?_⟩)
      rw [hnf]
      rcases norm_shape (C := C) (least := a) hl' with e | e | ⟨h1, h2, hp⟩
      · rw [e]
      · exact absurd e n1
      · have hR : NormR (lin_Norm.val C L a) := norm_range hl'
        obtain ⟨u, hu, hf⟩ := none_true hp (fun l hl => (hR.lits l hl).2.2)
        exact (hdiff u hu (by rw [dot_none u _ _ hf]; omega) (by rw [e2]; simp [dot])).elim
    · exact .inl ⟨fs, gs, f1, f2⟩

set_option maxRecDepth 100000 in
set_option maxHeartbeats 4000000 in
theorem neg_early (A0 : Option Addr) (c0 : Nat) (C : List Int) (A1 : Option Addr) (c1 : Nat) (L : List Int) (a : Int) (A2 : Option Addr) (c2 : Nat) (t : List Bool) (w : World) (h : Rw w A0 c0 C A1 c1 L) (hf : chalklinelaw12_few.f C L a = some false ∨ (chalklinelaw12_few.f C L a = some true ∧ (100 < t.length ∨ (t.length ≤ 100 ∧ (lin_Check.val C L a 65536 ≠ 0 ∨ (lin_Check.val C L a 65536 = 0 ∧ a = -1099511627776)))))) :
    Calls Try.prog 4 #[.agg #[.slice A0 C.length c0, .slice A1 L.length c1, .int .i64 a], .slice A2 t.length c2] w fun e w' => e = .returned (.bool true) ∧ Below w.heap.size w w' := by
  have hu24 := Try.underlying24
  have hb := below_alloc1 w (.cells #[.slice A0 C.length c0, .slice A1 L.length c1, .int .i64 a] 24)
  have hx := Bx.new h a
  have HH := Lib.hid (And.intro hb hx)
  clear hb hx h
  have HF := Lib.hid hf
  clear hf
  go_enter Try.func4, Try.ntmps4
  go_wp2_with fail
  refine (chalklinelaw12_live.calls true _ rfl).mono ?_
  rintro e w1 ⟨rfl, hb1⟩
  have H1 := Lib.hid (And.intro (below_step HH.out.1 hb1) (HH.out.2.below hb1))
  clear HH hb1
  have q0 := H1.out.2.q0
  have q1 := H1.out.2.q1
  have q2 := H1.out.2.q2
  rcases HF.out with hf | ⟨hf, hf2⟩
  · have HF2 := Lib.hid hf
    clear hf HF
    go_wp2_with fail
    refine (chalklinelaw12_few.calls A0 c0 C A1 c1 L a false w1 H1.out.2.rw.rC H1.out.2.rw.lC H1.out.2.rw.rL H1.out.2.rw.lL HF2.out).mono ?_
    rintro e w2 ⟨rfl, hb2⟩
    have H2 := Lib.hid (below_step H1.out.1 hb2)
    clear H1 hb2 q0 q1 q2
    go_wp2
    go_ret
    exact ⟨rfl, H2.out⟩
  · have HF2 := Lib.hid hf
    have HF3 := Lib.hid hf2
    clear hf hf2 HF
    go_wp2_with fail
    refine (chalklinelaw12_few.calls A0 c0 C A1 c1 L a true w1 H1.out.2.rw.rC H1.out.2.rw.lC H1.out.2.rw.rL H1.out.2.rw.lL HF2.out).mono ?_
    rintro e w2 ⟨rfl, hb2⟩
    have H2 := Lib.hid (And.intro (below_step H1.out.1 hb2) (H1.out.2.below hb2))
    clear H1 hb2 q0 q1 q2
    have q0 := H2.out.2.q0
    have q1 := H2.out.2.q1
    have q2 := H2.out.2.q2
    rcases HF3.out with ht | ⟨ht, hv⟩
    · have t1 : decide (100 < (t.length : Int)) = true := decide_eq_true (by omega)
      have t2 : decide (100 < t.length) = true := decide_eq_true ht
      clear ht
      go_wp2
      go_ret
      exact ⟨rfl, H2.out.1⟩
    · have t1 : decide (100 < (t.length : Int)) = false := decide_eq_false (by omega)
      have t2 : decide (100 < t.length) = false := decide_eq_false (by omega)
      have HV := Lib.hid hv
      clear ht hv
      go_wp2_with fail
      rcases val_cases C L a 65536 with hv | hv | hv
      · refine (lin_Check.calls A0 c0 C A1 c1 L a 65536 0 w2 H2.out.2.rw.rC H2.out.2.rw.lC H2.out.2.rw.rL H2.out.2.rw.lL (by unfold lin_Check.f; rw [hv])).mono ?_
        rintro e w3 ⟨rfl, hb3⟩
        have H3 := Lib.hid (And.intro (below_step H2.out.1 hb3) (H2.out.2.below hb3))
        clear H2 hb3 q0 q1 q2
        have q2 := H3.out.2.q2
        rcases HV.out with h | ⟨_, h⟩
        · exact absurd hv h
        · have t3 : (a == -1099511627776) = true := beq_iff_eq.2 h
          clear h hv
          go_wp2
          go_ret
          exact ⟨rfl, H3.out.1⟩
      · refine (lin_Check.calls A0 c0 C A1 c1 L a 65536 1 w2 H2.out.2.rw.rC H2.out.2.rw.lC H2.out.2.rw.rL H2.out.2.rw.lL (by unfold lin_Check.f; rw [hv])).mono ?_
        rintro e w3 ⟨rfl, hb3⟩
        have H3 := Lib.hid (below_step H2.out.1 hb3)
        clear H2 hb3 q0 q1 q2 hv
        go_wp2
        go_ret
        exact ⟨rfl, H3.out⟩
      · refine (lin_Check.calls A0 c0 C A1 c1 L a 65536 2 w2 H2.out.2.rw.rC H2.out.2.rw.lC H2.out.2.rw.rL H2.out.2.rw.lL (by unfold lin_Check.f; rw [hv])).mono ?_
        rintro e w3 ⟨rfl, hb3⟩
        have H3 := Lib.hid (below_step H2.out.1 hb3)
        clear H2 hb3 q0 q1 q2 hv
        go_wp2
        go_ret
        exact ⟨rfl, H3.out⟩

theorem negation_calls (A0 : Option Addr) (c0 : Nat) (C : List Int) (A1 : Option Addr) (c1 : Nat) (L : List Int) (a : Int) (A2 : Option Addr) (c2 : Nat) (t : List Bool) (w : World) (h0 : Kd.C (Kd.int .i64) w A0 C.length C) (s0 : C.length ≤ c0) (h1 : Kd.C (Kd.int .i64) w A1 L.length L) (s1 : L.length ≤ c1) (h2 : Kd.C Kd.bool w A2 t.length t) (s2 : t.length ≤ c2) :
    Calls Try.prog 4 #[.agg #[.slice A0 C.length c0, .slice A1 L.length c1, .int .i64 a], .slice A2 t.length c2] w fun e w' => e = .returned (.bool true) ∧ Below w.heap.size w w' := by
  have hf := few_val C L a
  by_cases h : L.length ≤ 60 ∧ C.length ≤ 60
  · rw [decide_eq_true h] at hf
    by_cases ht : t.length ≤ 100
    · by_cases hv : lin_Check.val C L a 65536 = 0
      · by_cases ha : a = -1099511627776
        · exact neg_early A0 c0 C A1 c1 L a A2 c2 t w ⟨h0, h1, s0, s1⟩ (.inr ⟨hf, .inr ⟨ht, .inr ⟨hv, ha⟩⟩⟩)
        · obtain ⟨hlen, hw, oc, ol, hm⟩ := val_zero hv
          exact neg_walk A0 c0 C A1 c1 L a A2 c2 t w ⟨h0, h1, s0, s1⟩ h2 s2 hf ht hv ha h.2 oc (by simpa [withinB] using hw) (neg_pure t hv ha h.1)
      · exact neg_early A0 c0 C A1 c1 L a A2 c2 t w ⟨h0, h1, s0, s1⟩ (.inr ⟨hf, .inr ⟨ht, .inl hv⟩⟩)
    · exact neg_early A0 c0 C A1 c1 L a A2 c2 t w ⟨h0, h1, s0, s1⟩ (.inr ⟨hf, .inl (by omega)⟩)
  · rw [decide_eq_false h] at hf
    exact neg_early A0 c0 C A1 c1 L a A2 c2 t w ⟨h0, h1, s0, s1⟩ (.inl hf)

end Go.Proofs.Ytmcljhjmmipagaa.PL
