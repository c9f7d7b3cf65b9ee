/- The law LinCutSound, walked: it answers true where the cut is as 'CutP' says. -/
import Derived.Test.YtmcljhjmmipagaaBoxG
namespace Go.Proofs.Ytmcljhjmmipagaa.PL
open Go.RowKit Go.Proofs.YtmcljhjmmipagaaW.PrintWords Go.Proofs.YtmcljhjmmipagaaW.PrintLast Go.Proofs.YtmcljhjmmipagaaW.PrintMore
attribute [local go_sem] max2_int min2_int max_two min_two max_three min_three max_four min_four
set_option linter.unusedVariables false
set_option linter.unusedSimpArgs false

/-- What the law asks of the cut (D, M, b) and of the canonical form (E, M, e). -/
structure CutP (C L : List Int) (a : Int) (D E M : List Int) (b e : Int) : Prop where
 lenD : D.length = M.length
 lenE : E.length = M.length
 le : M.length ≤ 1000
 lits : ∀ k, k < M.length → -8 ≤ rd M (k : Int) ∧ rd M (k : Int) ≤ 8 ∧ rd M (k : Int) ≠ 0
 coef : ∀ k, k < M.length → 1 ≤ rd D (k : Int) ∧ rd D (k : Int) ≤ b
 holds : ∀ j : Nat, j < 256 → ∃ k b1 b2, chalklinelaw12_holds.f k C L a (j : Int) = some b1 ∧ chalklinelaw12_holds.f k D M b (j : Int) = some b2 ∧ (b1 = true → b2 = true)

set_option maxRecDepth 100000 in
set_option maxHeartbeats 4000000 in
theorem cutSound_early (A0 : Option Addr) (c0 : Nat) (C : List Int) (A1 : Option Addr) (c1 : Nat) (L : List Int) (a d : Int) (w : World) (h : Rw w A0 c0 C A1 c1 L) (hf : chalklinelaw12_few.f C L a = some false ∨ (chalklinelaw12_few.f C L a = some true ∧ (lin_Check.val C L a 8 ≠ 0 ∨ (lin_Check.val C L a 8 = 0 ∧ (d < 1 ∨ (1 ≤ d ∧ 1099511627776 < d)))))) :
  Calls Try.prog 3 #[.agg #[.slice A0 C.length c0, .slice A1 L.length c1, .int .i64 a], .int .i64 d] w fun e w' => e = .returned (.bool true) ∧ Below w.heap.size w w' := by
 have hu24 := Try.underlying24
 have hb := below_alloc1 w (.cells #[.slice A0 C.length c0, .slice A1 L.length c1, .int .i64 a] 24)
 have hx := Bx.new h a
 have HH := Lib.hid (And.intro hb hx)
 clear hb hx h
 have HF := Lib.hid hf
 clear hf
 go_enter Try.func3, Try.ntmps3
 go_wp2_with fail
 refine (chalklinelaw12_live.calls true _ rfl).mono ?_
 rintro e w1 ⟨rfl, hb1⟩
 have H1 := Lib.hid (And.intro (below_step HH.out.1 hb1) (HH.out.2.below hb1))
 clear HH hb1
 have q0 := H1.out.2.q0
 have q1 := H1.out.2.q1
 have q2 := H1.out.2.q2
 rcases HF.out with hf | ⟨hf, hf2⟩
 ·
  have HF2 := Lib.hid hf
  clear hf HF
  go_wp2_with fail
  refine (chalklinelaw12_few.calls A0 c0 C A1 c1 L a false w1 H1.out.2.rw.rC H1.out.2.rw.lC H1.out.2.rw.rL H1.out.2.rw.lL HF2.out).mono ?_
  rintro e w2 ⟨rfl, hb2⟩
  have H2 := Lib.hid (below_step H1.out.1 hb2)
  clear H1 hb2 q0 q1 q2
  go_wp2
  go_ret
  exact ⟨rfl, H2.out⟩
 ·
  have HF2 := Lib.hid hf
  have HF3 := Lib.hid hf2
  clear hf hf2 HF
  go_wp2_with fail
  refine (chalklinelaw12_few.calls A0 c0 C A1 c1 L a true w1 H1.out.2.rw.rC H1.out.2.rw.lC H1.out.2.rw.rL H1.out.2.rw.lL HF2.out).mono ?_
  rintro e w2 ⟨rfl, hb2⟩
  have H2 := Lib.hid (And.intro (below_step H1.out.1 hb2) (H1.out.2.below hb2))
  clear H1 hb2 q0 q1 q2
  have q0 := H2.out.2.q0
  have q1 := H2.out.2.q1
  have q2 := H2.out.2.q2
  go_wp2_with fail
  rcases val_cases C L a 8 with hv | hv | hv
  ·
   refine (lin_Check.calls A0 c0 C A1 c1 L a 8 0 w2 H2.out.2.rw.rC H2.out.2.rw.lC H2.out.2.rw.rL H2.out.2.rw.lL (by unfold lin_Check.f; rw [hv])).mono ?_
   rintro e w3 ⟨rfl, hb3⟩
   have H3 := Lib.hid (below_step H2.out.1 hb3)
   clear H2 hb3 q0 q1 q2
   rcases HF3.out with h | ⟨_, h | ⟨h, h2⟩⟩
   ·
    exact absurd hv h
   ·
    have t1 : decide (d < 1) = true := decide_eq_true h
    clear h hv
    go_wp2
    go_ret
    exact ⟨rfl, H3.out⟩
   ·
    have t1 : decide (d < 1) = false := decide_eq_false (by omega)
    have t2 : decide (1099511627776 < d) = true := decide_eq_true h2
    clear h h2 hv
    go_wp2
    go_ret
    exact ⟨rfl, H3.out⟩
  ·
   refine (lin_Check.calls A0 c0 C A1 c1 L a 8 1 w2 H2.out.2.rw.rC H2.out.2.rw.lC H2.out.2.rw.rL H2.out.2.rw.lL (by unfold lin_Check.f; rw [hv])).mono ?_
   rintro e w3 ⟨rfl, hb3⟩
   have H3 := Lib.hid (below_step H2.out.1 hb3)
   clear H2 hb3 q0 q1 q2 hv
   go_wp2
   go_ret
   exact ⟨rfl, H3.out⟩
  ·
   refine (lin_Check.calls A0 c0 C A1 c1 L a 8 2 w2 H2.out.2.rw.rC H2.out.2.rw.lC H2.out.2.rw.rL H2.out.2.rw.lL (by unfold lin_Check.f; rw [hv])).mono ?_
   rintro e w3 ⟨rfl, hb3⟩
   have H3 := Lib.hid (below_step H2.out.1 hb3)
   clear H2 hb3 q0 q1 q2 hv
   go_wp2
   go_ret
   exact ⟨rfl, H3.out⟩

set_option maxRecDepth 100000 in
set_option maxHeartbeats 4000000 in
theorem cutSound_walk (A0 : Option Addr) (c0 : Nat) (C : List Int) (A1 : Option Addr) (c1 : Nat) (L : List Int) (a d : Int) (w : World) (h : Rw w A0 c0 C A1 c1 L) (hf : chalklinelaw12_few.f C L a = some true) (hv : lin_Check.val C L a 8 = 0) (hd0 : 1 ≤ d) (hd1 : d ≤ 1099511627776)
  (D E M : List Int) (b e : Int) (hx : lin_Cut.f C L a d = some (D, M, b, 0)) (hy : lin_Cut.f C L a 1 = some (E, M, e, 0)) (hn : lin_Norm.f C L a = some (E, M, e)) (hc : CutP C L a D E M b e) :
  Calls Try.prog 3 #[.agg #[.slice A0 C.length c0, .slice A1 L.length c1, .int .i64 a], .int .i64 d] w fun e w' => e = .returned (.bool true) ∧ Below w.heap.size w w' := by
 have hu24 := Try.underlying24
 have hb := below_alloc1 w (.cells #[.slice A0 C.length c0, .slice A1 L.length c1, .int .i64 a] 24)
 have hbx := Bx.new h a
 have HH := Lib.hid (And.intro hb hbx)
 have HF := Lib.hid hf
 have HV := Lib.hid hv
 have HX := Lib.hid hx
 have HY := Lib.hid hy
 have HN := Lib.hid hn
 have HC := Lib.hid hc
 clear hb hbx h hf hv hx hy hn hc
 have t1 : decide (d < 1) = false := decide_eq_false (by omega)
 have t2 : decide (1099511627776 < d) = false := decide_eq_false (by omega)
 go_enter Try.func3, Try.ntmps3
 go_wp2_with fail
 refine (chalklinelaw12_live.calls true _ rfl).mono ?_
 rintro e w1 ⟨rfl, hb1⟩
 have H1 := Lib.hid (And.intro (below_step HH.out.1 hb1) (HH.out.2.below hb1))
 clear HH hb1
 have q0 := H1.out.2.q0
 have q1 := H1.out.2.q1
 have q2 := H1.out.2.q2
 go_wp2_with fail
 refine (chalklinelaw12_few.calls A0 c0 C A1 c1 L a true w1 H1.out.2.rw.rC H1.out.2.rw.lC H1.out.2.rw.rL H1.out.2.rw.lL HF.out).mono ?_
 rintro e w2 ⟨rfl, hb2⟩
 have H2 := Lib.hid (And.intro (below_step H1.out.1 hb2) (H1.out.2.below hb2))
 clear H1 hb2 q0 q1 q2
 have q0 := H2.out.2.q0
 have q1 := H2.out.2.q1
 have q2 := H2.out.2.q2
 go_wp2_with fail
 refine (lin_Check.calls A0 c0 C A1 c1 L a 8 0 w2 H2.out.2.rw.rC H2.out.2.rw.lC H2.out.2.rw.rL H2.out.2.rw.lL (by unfold lin_Check.f; rw [HV.out])).mono ?_
 rintro e w3 ⟨rfl, hb3⟩
 have H3 := Lib.hid (And.intro (below_step H2.out.1 hb3) (H2.out.2.below hb3))
 clear H2 hb3 q0 q1 q2 HF HV
 have q0 := H3.out.2.q0
 have q1 := H3.out.2.q1
 have q2 := H3.out.2.q2
 go_wp2_with fail
 refine (lin_Cut.calls A0 c0 C A1 c1 L a d D M b 0 w3 H3.out.2.rw.rC H3.out.2.rw.lC H3.out.2.rw.rL H3.out.2.rw.lL HX.out).mono ?_
 rintro e w4 ⟨v0, v1, rfl, hx0, hx1, hb4⟩
 obtain ⟨B0, d0, rfl, j0, r0⟩ := Kd.R_reads hx0
 obtain ⟨B1, d1, rfl, j1, r1⟩ := Kd.R_reads hx1
 have hl4 := (H3.out.2.below hb4).below (below_alloc1 w4 (.cells #[.slice B0 D.length d0, .slice B1 M.length d1, .int .i64 b] 24))
 have hw4 := below_step (below_step H3.out.1 hb4) (below_alloc1 w4 (.cells #[.slice B0 D.length d0, .slice B1 M.length d1, .int .i64 b] 24))
 have hx4 := Bx.new (Rw.mk r0 r1 j0 j1) b
 have H4 := Lib.hid (And.intro hw4 (And.intro hl4 hx4))
 clear H3 q0 q1 q2 hb4 hx0 hx1 r0 r1 j0 j1 hl4 hw4 hx4
 have q0 := H4.out.2.1.q0
 have q1 := H4.out.2.1.q1
 have q2 := H4.out.2.1.q2
 go_wp2_with fail
 generalize w4.alloc (.cells #[.slice B0 D.length d0, .slice B1 M.length d1, .int .i64 b] 24) = w5 at H4 ⊢
 generalize w4.heap.size = gx at H4 ⊢
 clear q0 q1 q2
 refine (lin_Cut.calls A0 c0 C A1 c1 L a 1 E M e 0 w5 H4.out.2.1.rw.rC H4.out.2.1.rw.lC H4.out.2.1.rw.rL H4.out.2.1.rw.lL HY.out).mono ?_
 rintro e5 w6 ⟨v0, v1, rfl, hx0, hx1, hb6⟩
 obtain ⟨E0, m0, rfl, j0, r0⟩ := Kd.R_reads hx0
 obtain ⟨E1, m1, rfl, j1, r1⟩ := Kd.R_reads hx1
 have hb7 := below_step hb6 (below_alloc1 w6 (.cells #[.slice E0 E.length m0, .slice E1 M.length m1, .int .i64 e] 24))
 have hy7 := Bx.new (Rw.mk r0 r1 j0 j1) e
 have H7 := Lib.hid (And.intro (below_step H4.out.1 hb7) (And.intro (H4.out.2.1.below hb7) (And.intro (H4.out.2.2.below hb7) hy7)))
 clear H4 hb6 hx0 hx1 r0 r1 j0 j1 hb7 hy7
 go_wp2
 generalize w6.alloc (.cells #[.slice E0 E.length m0, .slice E1 M.length m1, .int .i64 e] 24) = w7 at H7 ⊢
 generalize w6.heap.size = gy at H7 ⊢
 have q0 := H7.out.2.1.q0
 have q1 := H7.out.2.1.q1
 have q2 := H7.out.2.1.q2
 have y0 := H7.out.2.2.2.q0
 have y1 := H7.out.2.2.2.q1
 have y2 := H7.out.2.2.2.q2
 have z0 := H7.out.2.2.1.q0
 have z1 := H7.out.2.2.1.q1
 have z2 := H7.out.2.2.1.q2
 obtain ⟨kS, hS⟩ := (linSame_ev E M e E M e (by have := HC.out.lenE; have := HC.out.le; omega) (by have := HC.out.le; omega)).got
 rw [show sameB E M e E M e = true by simp [sameB]] at hS
 have HS := Lib.hid hS
 clear hS t1 t2
 go_region_held3 (fun W => W.cell? ⟨w.heap.size, 0, none⟩ = some (.slice A0 C.length c0) ∧ W.cell? ⟨w.heap.size, 1, none⟩ = some (.slice A1 L.length c1) ∧ W.cell? ⟨w.heap.size, 2, none⟩ = some (.int .i64 a) ∧ W.cell? ⟨gy, 0, none⟩ = some (.slice E0 E.length m0) ∧ W.cell? ⟨gy, 1, none⟩ = some (.slice E1 M.length m1) ∧ W.cell? ⟨gy, 2, none⟩ = some (.int .i64 e) ∧ W.cell? ⟨gx, 1, none⟩ = some (.slice B1 M.length d1))
  (first | exact ⟨(H7.out.2.1.below HB9.out).q0, (H7.out.2.1.below HB9.out).q1, (H7.out.2.1.below HB9.out).q2, (H7.out.2.2.2.below HB9.out).q0, (H7.out.2.2.2.below HB9.out).q1, (H7.out.2.2.2.below HB9.out).q2, (H7.out.2.2.1.below HB9.out).q1⟩ | exact ⟨(H7.out.2.1.below HB8.out).q0, (H7.out.2.1.below HB8.out).q1, (H7.out.2.1.below HB8.out).q2, (H7.out.2.2.2.below HB8.out).q0, (H7.out.2.2.2.below HB8.out).q1, (H7.out.2.2.2.below HB8.out).q2, (H7.out.2.2.1.below HB8.out).q1⟩ | go_keep)
  (first
   | (go_at_call 17; refine (lin_Norm.calls A0 c0 C A1 c1 L a E M e _ (Kd.C_below H7.out.2.1.rw.rC (by repeat (first | exact Below.refl _ _ | apply pw_below_drewN | apply below_drew1))) H7.out.2.1.rw.lC (Kd.C_below H7.out.2.1.rw.rL (by repeat (first | exact Below.refl _ _ | apply pw_below_drewN | apply below_drew1))) H7.out.2.1.rw.lL HN.out).mono ?_; rintro e8 w8 ⟨v0, v1, rfl, hx0, hx1, hb8⟩; obtain ⟨F0, n0, rfl, j0, p0⟩ := Kd.R_reads hx0; obtain ⟨F1, n1, rfl, j1, p1⟩ := Kd.R_reads hx1; have HB8 : Hid (Below w7.heap.size w7 w8) := Lib.hid (below_step (by repeat (first | exact Below.refl _ _ | apply pw_below_drewN | apply below_drew1)) hb8); have HR8 := Lib.hid (Rw.mk p0 p1 j0 j1); clear hb8 hx0 hx1 p0 p1 j0 j1)
   | (go_at_call 16; refine (lin_Same.calls kS E0 m0 E E1 m1 M e F0 n0 E F1 n1 M e true _ (Kd.C_below H7.out.2.2.2.rw.rC (by repeat (first | exact HB8.out | apply pw_below_drewN | apply below_drew1))) H7.out.2.2.2.rw.lC (Kd.C_below H7.out.2.2.2.rw.rL (by repeat (first | exact HB8.out | apply pw_below_drewN | apply below_drew1))) H7.out.2.2.2.rw.lL (HR8.out.below (by repeat (first | exact Below.refl _ _ | apply pw_below_drewN | apply below_drew1))).rC HR8.out.lC (HR8.out.below (by repeat (first | exact Below.refl _ _ | apply pw_below_drewN | apply below_drew1))).rL HR8.out.lL HS.out).mono ?_; rintro e9 w9 ⟨rfl, hb9⟩; have HB9 : Hid (Below w7.heap.size w7 w9) := Lib.hid (below_step (by repeat (first | exact HB8.out | apply pw_below_drewN | apply below_drew1)) hb9); clear hb9))
 clear q0 q1 q2 y0 y1 y2 z0 z1 z2
 have H9 := Lib.hid (And.intro (below_step H7.out.1 HB9.out) (And.intro (H7.out.2.1.below HB9.out) (And.intro (H7.out.2.2.1.below HB9.out) (H7.out.2.2.2.below HB9.out))))
 clear H7 HB8 HB9 HR8 HS
 go_wp2
 go_loopg [9] M.length (fun gg s9 wr => ∃ k q : Nat, k ≤ M.length ∧ M.length - k ≤ gg ∧ s9 = .int .i64 (k : Int) ∧ wr = w9.drewN q)
 case atStart => exact ⟨0, 0, Nat.zero_le _, by omega, rfl, rfl⟩
 case round =>
  obtain ⟨k, q, hk, hg, rfl, rfl⟩ := hrel
  have x0 := H9.out.2.2.1.q0
  have x1 := H9.out.2.2.1.q1
  have x2 := H9.out.2.2.1.q2
  have hlenD := HC.out.lenD
  have hle := HC.out.le
  by_cases hlt : k < M.length
  ·
   have h1 : (k : Int) < (M.length : Int) := by omega
   have h2 : (k : Int) < (D.length : Int) := by omega
   have y1 := H9.out.2.2.2.q1
   obtain ⟨ad0, rfl, e0⟩ := H9.out.2.2.1.cC (show k < D.length by omega)
   obtain ⟨ad1, rfl, e1⟩ := H9.out.2.2.1.cL hlt
   obtain ⟨ad2, rfl, e2⟩ := H9.out.2.2.2.cL hlt
   have hc := HC.out.coef k hlt
   have hl := HC.out.lits k hlt
   generalize rd D (k : Int) = c at e0 hc
   generalize rd M (k : Int) = l at e1 e2 hl
   have t1 : decide (c < 1) = false := decide_eq_false (by omega)
   have t2 : decide (b < c) = false := decide_eq_false (by omega)
   have t3 : decide ((D.length : Int) ≤ (k : Int)) = false := decide_eq_false (by omega)
   have t3' : decide (D.length ≤ k) = false := decide_eq_false (by omega)
   have t4 : (l == 0) = false := beq_eq_false_iff_ne.2 hl.2.2
   have t5 : decide (8 < l) = false := decide_eq_false (by omega)
   have t6 : decide (l < -8) = false := decide_eq_false (by omega)
   clear hc hl hlenD
   go_wp2
   go_quiet (fail)
   go_wp2
   go_roundg (M.length - (k + 1))
   case measure => omega
   case rel => exact ⟨k + 1, _, by omega, by omega, by go_num, rfl⟩
  ·
   have h1 : decide ((k : Int) < (M.length : Int)) = false := decide_eq_false (by omega)
   go_wp2
   clear x0 x1 x2 hlenD hle hlt hk hg h1
   have H9' : Hid (Below w.heap.size w (w9.drewN q) ∧ Bx (w9.drewN q) w.heap.size A0 c0 C A1 c1 L a ∧ Bx (w9.drewN q) gx B0 d0 D B1 d1 M b) := Lib.hid (And.intro (pw_below_drewN H9.out.1 q) (And.intro (H9.out.2.1.below (pw_below_drewN (Below.refl _ _) q)) (H9.out.2.2.1.below (pw_below_drewN (Below.refl _ _) q))))
   clear H9
   generalize w9.drewN q = w10 at H9' ⊢
   go_loopg [10] 256 (fun gg s10 wr => ∃ k : Nat, k ≤ 256 ∧ 256 - k ≤ gg ∧ s10 = .int .i64 (k : Int) ∧ Hid (Below w.heap.size w wr ∧ Bx wr w.heap.size A0 c0 C A1 c1 L a ∧ Bx wr gx B0 d0 D B1 d1 M b))
   case atStart => exact ⟨0, by omega, by omega, rfl, H9'⟩
   case round =>
    clear H9'
    obtain ⟨k, hk, hg, rfl, HR⟩ := hrel
    have q0 := HR.out.2.1.q0
    have q1 := HR.out.2.1.q1
    have q2 := HR.out.2.1.q2
    by_cases hlt : k < 256
    ·
     have h1 : (k : Int) < 256 := by omega
     obtain ⟨kk, b1, b2, hh1, hh2, hb12⟩ := HC.out.holds k hlt
     have HH1 := Lib.hid hh1
     have HH2 := Lib.hid hh2
     clear hh1 hh2
     go_wp2_with fail
     refine (chalklinelaw12_holds.calls kk A0 c0 C A1 c1 L a (k : Int) b1 wr HR.out.2.1.rw.rC HR.out.2.1.rw.lC HR.out.2.1.rw.rL HR.out.2.1.rw.lL HH1.out).mono ?_
     rintro e w11 ⟨rfl, hb11⟩
     have HR11 := Lib.hid (And.intro (below_step HR.out.1 hb11) (And.intro (HR.out.2.1.below hb11) (HR.out.2.2.below hb11)))
     clear HR hb11 q0 q1 q2
     cases b1 with
     | false =>
      go_wp2
      go_roundg (256 - (k + 1))
      case measure => omega
      case rel => exact ⟨k + 1, by omega, by omega, by go_num, HR11⟩
     | true =>
      obtain rfl := hb12 rfl
      have x0 := HR11.out.2.2.q0
      have x1 := HR11.out.2.2.q1
      have x2 := HR11.out.2.2.q2
      go_wp2_with fail
      refine (chalklinelaw12_holds.calls kk B0 d0 D B1 d1 M b (k : Int) true w11 HR11.out.2.2.rw.rC HR11.out.2.2.rw.lC HR11.out.2.2.rw.rL HR11.out.2.2.rw.lL HH2.out).mono ?_
      rintro e w12 ⟨rfl, hb12⟩
      have HR12 := Lib.hid (And.intro (below_step HR11.out.1 hb12) (And.intro (HR11.out.2.1.below hb12) (HR11.out.2.2.below hb12)))
      clear HR11 hb12 x0 x1 x2
      go_wp2
      go_roundg (256 - (k + 1))
      case measure => omega
      case rel => exact ⟨k + 1, by omega, by omega, by go_num, HR12⟩
    ·
     have h1 : decide ((k : Int) < 256) = false := decide_eq_false (by omega)
     go_wp2
     go_ret
     exact ⟨rfl, HR.out.1⟩

end Go.Proofs.Ytmcljhjmmipagaa.PL
