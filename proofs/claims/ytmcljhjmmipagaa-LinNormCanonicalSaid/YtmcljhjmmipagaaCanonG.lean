/- The law LinNormCanonical, walked: it answers true where the canonical form is as 'Canon' says. -/
import Derived.Test.YtmcljhjmmipagaaBoxG
import Derived.Test.YtmcljhjmmipagaaPureC
namespace Go.Proofs.Ytmcljhjmmipagaa.PL
open Go.RowKit Go.Proofs.YtmcljhjmmipagaaW.PrintWords Go.Proofs.YtmcljhjmmipagaaW.PrintLast Go.Proofs.YtmcljhjmmipagaaW.PrintMore
attribute [local go_sem] max2_int min2_int max_two min_two max_three min_three max_four min_four
set_option linter.unusedVariables false
set_option linter.unusedSimpArgs false

set_option maxRecDepth 100000 in
set_option maxHeartbeats 4000000 in
theorem canon_early (A0 : Option Addr) (c0 : Nat) (C : List Int) (A1 : Option Addr) (c1 : Nat) (L : List Int) (a : Int) (w : World) (h : Rw w A0 c0 C A1 c1 L) (hf : chalklinelaw12_few.f C L a = some false) :
  Calls Try.prog 9 #[.agg #[.slice A0 C.length c0, .slice A1 L.length c1, .int .i64 a]] w fun e w' => e = .returned (.bool true) ∧ Below w.heap.size w w' := by
 have hu24 := Try.underlying24
 have hb := below_alloc1 w (.cells #[.slice A0 C.length c0, .slice A1 L.length c1, .int .i64 a] 24)
 have hx := Bx.new h a
 have HH := Lib.hid (And.intro hb hx)
 clear hb hx h
 have HF := Lib.hid hf
 clear hf
 go_enter Try.func9, Try.ntmps9
 go_wp2_with fail
 refine (chalklinelaw12_live.calls true _ rfl).mono ?_
 rintro e w1 ⟨rfl, hb1⟩
 have H1 := Lib.hid (And.intro (below_step HH.out.1 hb1) (HH.out.2.below hb1))
 clear HH hb1
 have q0 := H1.out.2.q0
 have q1 := H1.out.2.q1
 have q2 := H1.out.2.q2
 go_wp2_with fail
 refine (chalklinelaw12_few.calls A0 c0 C A1 c1 L a false w1 H1.out.2.rw.rC H1.out.2.rw.lC H1.out.2.rw.rL H1.out.2.rw.lL HF.out).mono ?_
 rintro e w2 ⟨rfl, hb2⟩
 have H2 := Lib.hid (below_step H1.out.1 hb2)
 clear H1 hb2 q0 q1 q2
 go_wp2
 go_ret
 exact ⟨rfl, H2.out⟩

set_option maxRecDepth 100000 in
set_option maxHeartbeats 4000000 in
theorem canon_walk (A0 : Option Addr) (c0 : Nat) (C : List Int) (A1 : Option Addr) (c1 : Nat) (L : List Int) (a : Int) (w : World) (h : Rw w A0 c0 C A1 c1 L) (hf : chalklinelaw12_few.f C L a = some true) (x : List Int × List Int × Int) (hx : lin_Norm.f C L a = some x) (hc : Canon x) :
  Calls Try.prog 9 #[.agg #[.slice A0 C.length c0, .slice A1 L.length c1, .int .i64 a]] w fun e w' => e = .returned (.bool true) ∧ Below w.heap.size w w' := by
 have hu24 := Try.underlying24
 have hb := below_alloc1 w (.cells #[.slice A0 C.length c0, .slice A1 L.length c1, .int .i64 a] 24)
 have hbx := Bx.new h a
 have HH := Lib.hid (And.intro hb hbx)
 have HF := Lib.hid hf
 have HX := Lib.hid hx
 have HC := Lib.hid hc
 clear hb hbx h hf hx hc
 go_enter Try.func9, Try.ntmps9
 go_wp2_with fail
 refine (chalklinelaw12_live.calls true _ rfl).mono ?_
 rintro e w1 ⟨rfl, hb1⟩
 have H1 := Lib.hid (And.intro (below_step HH.out.1 hb1) (HH.out.2.below hb1))
 clear HH hb1
 have q0 := H1.out.2.q0
 have q1 := H1.out.2.q1
 have q2 := H1.out.2.q2
 go_wp2_with fail
 refine (chalklinelaw12_few.calls A0 c0 C A1 c1 L a true w1 H1.out.2.rw.rC H1.out.2.rw.lC H1.out.2.rw.rL H1.out.2.rw.lL HF.out).mono ?_
 rintro e w2 ⟨rfl, hb2⟩
 have H2 := Lib.hid (And.intro (below_step H1.out.1 hb2) (H1.out.2.below hb2))
 clear H1 hb2 q0 q1 q2
 have q0 := H2.out.2.q0
 have q1 := H2.out.2.q1
 have q2 := H2.out.2.q2
 go_wp2_with fail
 refine (lin_Norm.calls A0 c0 C A1 c1 L a x.1 x.2.1 x.2.2 w2 H2.out.2.rw.rC H2.out.2.rw.lC H2.out.2.rw.rL H2.out.2.rw.lL HX.out).mono ?_
 rintro e w3 ⟨v0, v1, rfl, hx0, hx1, hb3⟩
 obtain ⟨B0, d0, rfl, j0, r0⟩ := Kd.R_reads hx0
 obtain ⟨B1, d1, rfl, j1, r1⟩ := Kd.R_reads hx1
 have hbT := below_step H2.out.1 hb3
 have hbx := Bx.new (Rw.mk r0 r1 j0 j1) x.2.2
 have hb4 := below_alloc1 w3 (.cells #[.slice B0 x.1.length d0, .slice B1 x.2.1.length d1, .int .i64 x.2.2] 24)
 have H4 := Lib.hid (And.intro (below_step hbT hb4) hbx)
 clear H2 q0 q1 q2 hb3 hx0 hx1 r0 r1 j0 j1 hbT hb4 hbx
 go_wp2
 obtain ⟨Cs, Ls, B⟩ := x
 dsimp only at H4 HX ⊢
 generalize w3.alloc (.cells #[.slice B0 Cs.length d0, .slice B1 Ls.length d1, .int .i64 B] 24) = w4 at H4 ⊢
 generalize w3.heap.size = g at H4 ⊢
 clear HX HF
 have hlen := HC.out.len
 have hle := HC.out.le
 dsimp only at hlen hle
 go_loopg [4, 5] Cs.length (fun gg s4 s5 wr => ∃ k q : Nat, k ≤ Cs.length ∧ Cs.length - k ≤ gg ∧ s4 = .int .i64 (sumL (Cs.take k)) ∧ s5 = .int .i64 (k : Int) ∧ wr = w4.drewN q)
 case atStart => exact ⟨0, 0, Nat.zero_le _, by omega, rfl, rfl, rfl⟩
 case round =>
  obtain ⟨k, q, hk, hg, rfl, rfl, rfl⟩ := hrel
  have q0 := H4.out.2.q0
  have q1 := H4.out.2.q1
  have q2 := H4.out.2.q2
  by_cases hlt : k < Cs.length
  ·
   have h1 : (k : Int) < (Cs.length : Int) := by omega
   have h2 : (k : Int) < (Ls.length : Int) := by omega
   obtain ⟨ad0, rfl, e0⟩ := H4.out.2.cC hlt
   obtain ⟨ad1, rfl, e1⟩ := H4.out.2.cL (show k < Ls.length by omega)
   have hc := HC.out.coef k hlt
   have hl := HC.out.lits k (by rw [← hlen]; exact hlt)
   dsimp only at hc hl
   generalize hcg : rd Cs (k : Int) = c at e0 hc
   generalize hlg : rd Ls (k : Int) = l at e1 hl
   -- R>
   obtain ⟨hw, hm⟩ := max_parts hl
   have t1 : decide (c < 1) = false := decide_eq_false (by omega)
   have t2 : decide (B < c) = false := decide_eq_false (by omega)
   have HS : Hid (wrap64 (sumL (Cs.take k) + c) = sumL (Cs.take (k + 1))) := Lib.hid (by
    have hb := sumL_bound (B := 2251799813685248) (Cs.take k) (fun y hy => by
     obtain ⟨i, hi, e⟩ := List.mem_iff_getElem.1 (List.mem_of_mem_take hy)
     have h3 := HC.out.coef i hi
     have h4 := HC.out.small i hi
     dsimp only at h3 h4
     rw [rd_get hi, e] at h3 h4
     omega)
    rw [take_rd hlt, sumL_snoc, hcg]
    have h4 := HC.out.small k hlt
    dsimp only at h4
    rw [hcg] at h4
    rw [List.length_take] at hb
    exact wrap_id (by omega) (by omega))
   have HG := Lib.hid (And.intro hcg (And.intro hlg (And.intro hc hl)))
   by_cases hk0 : 0 < k
   ·
    obtain ⟨j, rfl⟩ : ∃ j, k = j + 1 := ⟨k - 1, by omega⟩
    have t3 : decide ((0 : Int) < ((j + 1 : Nat) : Int)) = true := decide_eq_true (by omega)
    have hj : wrap64 (((j + 1 : Nat) : Int) - 1) = (j : Int) := (wrap_id (x := ((j + 1 : Nat) : Int) - 1) (by omega) (by omega)).trans (by omega)
    have hj2 : ((j + 1 : Nat) : Int) - 1 = (j : Int) := by omega
    have hi := HC.out.incr j (by dsimp only; omega)
    dsimp only at hi
    rw [hlg] at hi
    have hl2 := HC.out.lits j (by dsimp only; omega)
    dsimp only at hl2
    obtain ⟨_, e, e2⟩ := H4.out.2.cL (show j < Ls.length by omega)
    cases e
    generalize rd Ls (j : Int) = l2 at e2 hi hl2
    obtain ⟨hw2, hm2⟩ := max_parts hl2
    have h3 : (j : Int) < (Ls.length : Int) := by omega
    have t4 : decide (ofI l ≤ ofI l2) = false := decide_eq_false (by omega)
    clear hcg hlg hc hl hi hl2
    generalize hkk : j + 1 = k at *
    clear hkk
    rcases hm with ⟨m1, m2⟩ | ⟨m1, m2⟩ <;> rcases hm2 with ⟨m3, m4⟩ | ⟨m3, m4⟩
    all_goals
     rw [m2, m4] at t4
     have t5 := t4
     try simp only [Int.neg_le_neg_iff] at t5
     clear m2 m4
     go_wp2
     go_quiet (fail)
     go_wp2
     go_quiet (fail)
     go_wp2
     go_roundg (Cs.length - (k + 1))
     case measure => omega
     case rel => exact ⟨k + 1, _, by omega, by omega, congrArg _ HS.out, by go_num, rfl⟩
   ·
    have t3 : decide ((0 : Int) < (k : Int)) = false := decide_eq_false (by omega)
    clear hcg hlg hc hl
    rcases hm with ⟨m1, m2⟩ | ⟨m1, m2⟩
    all_goals
     clear m2
     go_wp2
     go_quiet (fail)
     go_wp2
     go_quiet (fail)
     go_wp2
     go_roundg (Cs.length - (k + 1))
     case measure => omega
     case rel => exact ⟨k + 1, _, by omega, by omega, congrArg _ HS.out, by go_num, rfl⟩
   -- <R
  ·
   have h1 : decide ((k : Int) < (Cs.length : Int)) = false := decide_eq_false (by omega)
   obtain rfl : k = Cs.length := by omega
   rw [List.take_of_length_le (Nat.le_refl _)]
   have e1 : ((Cs.length : Int) != (Ls.length : Int)) = false := bne_eq_false_iff_eq.2 (by omega)
   have e2 : (Cs.length != Ls.length) = false := bne_eq_false_iff_eq.2 hlen
   have hcase : (((Cs.length : Int) == 0) = true ∧ (Cs.length == 0) = true ∧ ((0 : Int) < (Cs.length : Int)) = False ∧ (0 < Cs.length) = False ∧ ((B != 0) = false ∨ ((B != 0) = true ∧ (B != 1) = false))) ∨ (((Cs.length : Int) == 0) = false ∧ (Cs.length == 0) = false ∧ ((0 : Int) < (Cs.length : Int)) = True ∧ (0 < Cs.length) = True ∧ decide (B < 1) = false ∧ decide (sumL Cs < B) = false) := by
    rcases Nat.eq_zero_or_pos Cs.length with h | h
    ·
     exact .inl ⟨beq_iff_eq.2 (by omega), beq_iff_eq.2 h, eq_false (by omega), eq_false (by omega), by have := HC.out.none h; dsimp only at this; rcases this with e | e <;> subst e <;> simp⟩
    ·
     have := HC.out.some h
     dsimp only at this
     exact .inr ⟨beq_eq_false_iff_ne.2 (by omega), beq_eq_false_iff_ne.2 (by omega), eq_true (by omega), eq_true h, decide_eq_false (by omega), decide_eq_false (by omega)⟩
   have HA : Hid (Cs.length = Ls.length) := Lib.hid hlen
   clear hlen hlt hg hk
   have KC := Lib.hid (fun (W : World) (hb : Below w4.heap.size w4 W) (v : Int) (hv : lin_Check.val Cs Ls B 65536 = v) => lin_Check.calls B0 d0 Cs B1 d1 Ls B 65536 v W (Kd.C_below H4.out.2.rw.rC hb) H4.out.2.rw.lC (Kd.C_below H4.out.2.rw.rL hb) H4.out.2.rw.lL (by rw [← hv]; rfl))
   have KN := Lib.hid (fun (W : World) (hb : Below w4.heap.size w4 W) (hv : lin_Check.val Cs Ls B 65536 = 0) => lin_Norm.calls B0 d0 Cs B1 d1 Ls B Cs Ls B W (Kd.C_below H4.out.2.rw.rC hb) H4.out.2.rw.lC (Kd.C_below H4.out.2.rw.rL hb) H4.out.2.rw.lL (by unfold lin_Norm.f; rw [if_pos hle]; exact congrArg some (HC.out.again hv)))
   obtain ⟨kS, hS⟩ := (linSame_ev Cs Ls B Cs Ls B (by have := HA.out; omega) (by omega)).got
   rw [show sameB Cs Ls B Cs Ls B = true by simp [sameB]] at hS
   have KS := Lib.hid (fun (W : World) (hb : Below w4.heap.size w4 W) (A0 : Option Addr) (c0 : Nat) (A1 : Option Addr) (c1 : Nat) (h : Rw W A0 c0 Cs A1 c1 Ls) => lin_Same.calls kS A0 c0 Cs A1 c1 Ls B B0 d0 Cs B1 d1 Ls B true W h.rC h.lC h.rL h.lL (Kd.C_below H4.out.2.rw.rC hb) H4.out.2.rw.lC (Kd.C_below H4.out.2.rw.rL hb) H4.out.2.rw.lL hS)
   clear hS hle
   rcases val_cases Cs Ls B 65536 with hv | hv | hv
   ·
    have HV := Lib.hid hv
    clear hv
    rcases hcase with ⟨f1, f2, f3, f4, f5 | ⟨f5, f6⟩⟩ | ⟨f1, f2, f3, f4, f5, f6⟩
    all_goals
     go_wp2
     clear f1 f2 f3 f4 f5 h1 e1 e2
     go_region_held3 (fun W => W.cell? ⟨g, 0, none⟩ = some (.slice B0 Cs.length d0) ∧ W.cell? ⟨g, 1, none⟩ = some (.slice B1 Ls.length d1) ∧ W.cell? ⟨g, 2, none⟩ = some (.int .i64 B)) (first | exact (H4.out.2.below HB7.out).qs | exact (H4.out.2.below HB6.out).qs | exact (H4.out.2.below HB5.out).qs | go_keep)
      (first
       | (go_at_call 14; refine (KC.out _ (by repeat (first | exact Below.refl _ _ | apply pw_below_drewN | apply below_drew1)) 0 HV.out).mono ?_; rintro e w5 ⟨rfl, hb5⟩; have HB5 : Hid (Below w4.heap.size w4 w5) := Lib.hid (below_step (by repeat (first | exact Below.refl _ _ | apply pw_below_drewN | apply below_drew1)) hb5); clear hb5)
       | (go_at_call 17; refine (KN.out _ (by repeat (first | exact HB5.out | apply pw_below_drewN | apply below_drew1)) HV.out).mono ?_; rintro e w6 ⟨v0, v1, rfl, hx0, hx1, hb6⟩; obtain ⟨E0, m0, rfl, j0, p0⟩ := Kd.R_reads hx0; obtain ⟨E1, m1, rfl, j1, p1⟩ := Kd.R_reads hx1; have HB6 : Hid (Below w4.heap.size w4 w6) := Lib.hid (below_step (by repeat (first | exact HB5.out | apply pw_below_drewN | apply below_drew1)) hb6); have HR6 := Lib.hid (Rw.mk p0 p1 j0 j1); clear hb6 hx0 hx1 p0 p1 j0 j1)
       | (go_at_call 16; refine (KS.out _ (by repeat (first | exact HB6.out | apply pw_below_drewN | apply below_drew1)) E0 m0 E1 m1 (HR6.out.below (by repeat (first | exact Below.refl _ _ | apply pw_below_drewN | apply below_drew1)))).mono ?_; rintro e w7 ⟨rfl, hb7⟩; have HB7 : Hid (Below w4.heap.size w4 w7) := Lib.hid (below_step (by repeat (first | exact HB6.out | apply pw_below_drewN | apply below_drew1)) hb7); clear hb7))
     go_wp2
     go_ret
     exact ⟨rfl, below_step (by repeat (first | exact H4.out.1 | apply pw_below_drewN | apply below_drew1)) HB7.out⟩
   all_goals
    have HV := Lib.hid hv
    clear hv
    rcases hcase with ⟨f1, f2, f3, f4, f5 | ⟨f5, f6⟩⟩ | ⟨f1, f2, f3, f4, f5, f6⟩
    all_goals
     go_wp2
     clear f1 f2 f3 f4 f5 h1 e1 e2
     go_region_with (first | (go_at_call 14; refine (KC.out _ (by repeat (first | exact Below.refl _ _ | apply pw_below_drewN | apply below_drew1)) _ HV.out).mono ?_; rintro e w5 ⟨rfl, hb5⟩; have HB5 : Hid (Below w4.heap.size w4 w5) := Lib.hid (below_step (by repeat (first | exact Below.refl _ _ | apply pw_below_drewN | apply below_drew1)) hb5); clear hb5))
     all_goals go_wp2
     all_goals go_ret
     all_goals exact ⟨rfl, below_step (by repeat (first | exact H4.out.1 | apply pw_below_drewN | apply below_drew1)) HB5.out⟩

end Go.Proofs.Ytmcljhjmmipagaa.PL
