/- The law LinAddCutSpec, walked: it answers true where the reference's functions tell what the program's tell. -/
import Derived.Test.YtmcljhjmmipagaaBoxG
import Derived.Test.YtmcljhjmmipagaaPLx12
namespace Go.Proofs.Ytmcljhjmmipagaa.PL
open Go.RowKit Go.Proofs.YtmcljhjmmipagaaW.PrintWords Go.Proofs.YtmcljhjmmipagaaW.PrintLast Go.Proofs.YtmcljhjmmipagaaW.PrintMore
set_option linter.unusedVariables false
set_option linter.unusedSimpArgs false

set_option maxRecDepth 100000 in
set_option maxHeartbeats 4000000 in
theorem addCut_e1 (A0 : Option Addr) (c0 : Nat) (C : List Int) (A1 : Option Addr) (c1 : Nat) (L : List Int) (a : Int) (A2 : Option Addr) (c2 : Nat) (D : List Int) (A3 : Option Addr) (c3 : Nat) (M : List Int) (b d : Int) (w : World) (h0 : Rw w A0 c0 C A1 c1 L) (h1 : Rw w A2 c2 D A3 c3 M) (hfa : chalklinelaw12_few.f C L a = some false) :
  Calls Try.prog 7 #[.agg #[.slice A0 C.length c0, .slice A1 L.length c1, .int .i64 a], .agg #[.slice A2 D.length c2, .slice A3 M.length c3, .int .i64 b], .int .i64 d] w fun e w' => e = .returned (.bool true) ∧ Below w.heap.size w w' := by
 have hu24 := Try.underlying24
 have hz0 := below_alloc1 w (.cells #[.slice A0 C.length c0, .slice A1 L.length c1, .int .i64 a] 24)
 have hz1 := below_alloc1 (w.alloc (.cells #[.slice A0 C.length c0, .slice A1 L.length c1, .int .i64 a] 24)) (.cells #[.slice A2 D.length c2, .slice A3 M.length c3, .int .i64 b] 24)
 have hza := (Bx.new h0 a).below hz1
 have hzb := Bx.new (h1.below hz0) b
 rw [World.size_alloc] at hzb
 have H0 : Hid (Below w.heap.size w ((w.alloc (.cells #[.slice A0 C.length c0, .slice A1 L.length c1, .int .i64 a] 24)).alloc (.cells #[.slice A2 D.length c2, .slice A3 M.length c3, .int .i64 b] 24)) ∧ Bx ((w.alloc (.cells #[.slice A0 C.length c0, .slice A1 L.length c1, .int .i64 a] 24)).alloc (.cells #[.slice A2 D.length c2, .slice A3 M.length c3, .int .i64 b] 24)) (w.heap.size) A0 c0 C A1 c1 L a ∧ Bx ((w.alloc (.cells #[.slice A0 C.length c0, .slice A1 L.length c1, .int .i64 a] 24)).alloc (.cells #[.slice A2 D.length c2, .slice A3 M.length c3, .int .i64 b] 24)) (w.heap.size + 1) A2 c2 D A3 c3 M b ∧ True) := Lib.hid ⟨below_step hz0 hz1, hza, hzb, trivial⟩
 clear hz0 hz1 hza hzb h0 h1
 go_enter Try.func7, Try.ntmps7
 go_wp2_with fail
 refine (chalklinelaw12_live.calls true _ rfl).mono ?_
 rintro e w1 ⟨rfl, hb⟩
 have H1 := Lib.hid (And.intro (below_step H0.out.1 hb) (And.intro (H0.out.2.1.below hb) (And.intro (H0.out.2.2.1.below hb) (trivial))))
 clear H0 hb
 have q0 := H1.out.2.1.q0
 have q1 := H1.out.2.1.q1
 have q2 := H1.out.2.1.q2
 go_wp2_with fail
 refine (chalklinelaw12_few.calls A0 c0 C A1 c1 L a false w1 H1.out.2.1.rw.rC H1.out.2.1.rw.lC H1.out.2.1.rw.rL H1.out.2.1.rw.lL hfa).mono ?_
 rintro e w2 ⟨rfl, hb⟩
 clear q0 q1 q2
 have H2 := Lib.hid (And.intro (below_step H1.out.1 hb) (And.intro (H1.out.2.1.below hb) (And.intro (H1.out.2.2.1.below hb) (trivial))))
 clear H1 hb
 go_wp2
 go_ret
 exact ⟨rfl, H2.out.1⟩

set_option maxRecDepth 100000 in
set_option maxHeartbeats 4000000 in
theorem addCut_e2 (A0 : Option Addr) (c0 : Nat) (C : List Int) (A1 : Option Addr) (c1 : Nat) (L : List Int) (a : Int) (A2 : Option Addr) (c2 : Nat) (D : List Int) (A3 : Option Addr) (c3 : Nat) (M : List Int) (b d : Int) (w : World) (h0 : Rw w A0 c0 C A1 c1 L) (h1 : Rw w A2 c2 D A3 c3 M) (hfa : chalklinelaw12_few.f C L a = some true) (hfb : chalklinelaw12_few.f D M b = some false) :
  Calls Try.prog 7 #[.agg #[.slice A0 C.length c0, .slice A1 L.length c1, .int .i64 a], .agg #[.slice A2 D.length c2, .slice A3 M.length c3, .int .i64 b], .int .i64 d] w fun e w' => e = .returned (.bool true) ∧ Below w.heap.size w w' := by
 have hu24 := Try.underlying24
 have hz0 := below_alloc1 w (.cells #[.slice A0 C.length c0, .slice A1 L.length c1, .int .i64 a] 24)
 have hz1 := below_alloc1 (w.alloc (.cells #[.slice A0 C.length c0, .slice A1 L.length c1, .int .i64 a] 24)) (.cells #[.slice A2 D.length c2, .slice A3 M.length c3, .int .i64 b] 24)
 have hza := (Bx.new h0 a).below hz1
 have hzb := Bx.new (h1.below hz0) b
 rw [World.size_alloc] at hzb
 have H0 : Hid (Below w.heap.size w ((w.alloc (.cells #[.slice A0 C.length c0, .slice A1 L.length c1, .int .i64 a] 24)).alloc (.cells #[.slice A2 D.length c2, .slice A3 M.length c3, .int .i64 b] 24)) ∧ Bx ((w.alloc (.cells #[.slice A0 C.length c0, .slice A1 L.length c1, .int .i64 a] 24)).alloc (.cells #[.slice A2 D.length c2, .slice A3 M.length c3, .int .i64 b] 24)) (w.heap.size) A0 c0 C A1 c1 L a ∧ Bx ((w.alloc (.cells #[.slice A0 C.length c0, .slice A1 L.length c1, .int .i64 a] 24)).alloc (.cells #[.slice A2 D.length c2, .slice A3 M.length c3, .int .i64 b] 24)) (w.heap.size + 1) A2 c2 D A3 c3 M b ∧ True) := Lib.hid ⟨below_step hz0 hz1, hza, hzb, trivial⟩
 clear hz0 hz1 hza hzb h0 h1
 go_enter Try.func7, Try.ntmps7
 go_wp2_with fail
 refine (chalklinelaw12_live.calls true _ rfl).mono ?_
 rintro e w1 ⟨rfl, hb⟩
 have H1 := Lib.hid (And.intro (below_step H0.out.1 hb) (And.intro (H0.out.2.1.below hb) (And.intro (H0.out.2.2.1.below hb) (trivial))))
 clear H0 hb
 have q0 := H1.out.2.1.q0
 have q1 := H1.out.2.1.q1
 have q2 := H1.out.2.1.q2
 go_wp2_with fail
 refine (chalklinelaw12_few.calls A0 c0 C A1 c1 L a true w1 H1.out.2.1.rw.rC H1.out.2.1.rw.lC H1.out.2.1.rw.rL H1.out.2.1.rw.lL hfa).mono ?_
 rintro e w2 ⟨rfl, hb⟩
 clear q0 q1 q2
 have H2 := Lib.hid (And.intro (below_step H1.out.1 hb) (And.intro (H1.out.2.1.below hb) (And.intro (H1.out.2.2.1.below hb) (trivial))))
 clear H1 hb
 have q0 := H2.out.2.2.1.q0
 have q1 := H2.out.2.2.1.q1
 have q2 := H2.out.2.2.1.q2
 go_wp2_with fail
 refine (chalklinelaw12_few.calls A2 c2 D A3 c3 M b false w2 H2.out.2.2.1.rw.rC H2.out.2.2.1.rw.lC H2.out.2.2.1.rw.rL H2.out.2.2.1.rw.lL hfb).mono ?_
 rintro e w3 ⟨rfl, hb⟩
 clear q0 q1 q2
 have H3 := Lib.hid (And.intro (below_step H2.out.1 hb) (And.intro (H2.out.2.1.below hb) (And.intro (H2.out.2.2.1.below hb) (trivial))))
 clear H2 hb
 go_wp2
 go_ret
 exact ⟨rfl, H3.out.1⟩

set_option maxRecDepth 100000 in
set_option maxHeartbeats 4000000 in
theorem addCut_walk (A0 : Option Addr) (c0 : Nat) (C : List Int) (A1 : Option Addr) (c1 : Nat) (L : List Int) (a : Int) (A2 : Option Addr) (c2 : Nat) (D : List Int) (A3 : Option Addr) (c3 : Nat) (M : List Int) (b d : Int) (w : World) (h0 : Rw w A0 c0 C A1 c1 L) (h1 : Rw w A2 c2 D A3 c3 M) (hfa : chalklinelaw12_few.f C L a = some true) (hfb : chalklinelaw12_few.f D M b = some true) (P Q : List Int) (p ec : Int) (R S : List Int) (r fc : Int) (k1 k2 k3 k4 : Nat) (hx : lin_Add.f C L a D M b = some (P, Q, p, ec)) (hy : chalklineref12_Add.f k1 C L a D M b = some (P, Q, p, ec)) (hu : lin_Cut.f C L a d = some (R, S, r, fc)) (hv : chalklineref12_Cut.f k2 C L a d = some (R, S, r, fc)) (hsx : chalklineref12_Same.f k3 P Q p P Q p = some true) (hsu : chalklineref12_Same.f k4 R S r R S r = some true) :
  Calls Try.prog 7 #[.agg #[.slice A0 C.length c0, .slice A1 L.length c1, .int .i64 a], .agg #[.slice A2 D.length c2, .slice A3 M.length c3, .int .i64 b], .int .i64 d] w fun e w' => e = .returned (.bool true) ∧ Below w.heap.size w w' := by
 have hu24 := Try.underlying24
 have hz0 := below_alloc1 w (.cells #[.slice A0 C.length c0, .slice A1 L.length c1, .int .i64 a] 24)
 have hz1 := below_alloc1 (w.alloc (.cells #[.slice A0 C.length c0, .slice A1 L.length c1, .int .i64 a] 24)) (.cells #[.slice A2 D.length c2, .slice A3 M.length c3, .int .i64 b] 24)
 have hza := (Bx.new h0 a).below hz1
 have hzb := Bx.new (h1.below hz0) b
 rw [World.size_alloc] at hzb
 have H0 : Hid (Below w.heap.size w ((w.alloc (.cells #[.slice A0 C.length c0, .slice A1 L.length c1, .int .i64 a] 24)).alloc (.cells #[.slice A2 D.length c2, .slice A3 M.length c3, .int .i64 b] 24)) ∧ Bx ((w.alloc (.cells #[.slice A0 C.length c0, .slice A1 L.length c1, .int .i64 a] 24)).alloc (.cells #[.slice A2 D.length c2, .slice A3 M.length c3, .int .i64 b] 24)) (w.heap.size) A0 c0 C A1 c1 L a ∧ Bx ((w.alloc (.cells #[.slice A0 C.length c0, .slice A1 L.length c1, .int .i64 a] 24)).alloc (.cells #[.slice A2 D.length c2, .slice A3 M.length c3, .int .i64 b] 24)) (w.heap.size + 1) A2 c2 D A3 c3 M b ∧ True) := Lib.hid ⟨below_step hz0 hz1, hza, hzb, trivial⟩
 clear hz0 hz1 hza hzb h0 h1
 go_enter Try.func7, Try.ntmps7
 go_wp2_with fail
 refine (chalklinelaw12_live.calls true _ rfl).mono ?_
 rintro e w1 ⟨rfl, hb⟩
 have H1 := Lib.hid (And.intro (below_step H0.out.1 hb) (And.intro (H0.out.2.1.below hb) (And.intro (H0.out.2.2.1.below hb) (trivial))))
 clear H0 hb
 have q0 := H1.out.2.1.q0
 have q1 := H1.out.2.1.q1
 have q2 := H1.out.2.1.q2
 go_wp2_with fail
 refine (chalklinelaw12_few.calls A0 c0 C A1 c1 L a true w1 H1.out.2.1.rw.rC H1.out.2.1.rw.lC H1.out.2.1.rw.rL H1.out.2.1.rw.lL hfa).mono ?_
 rintro e w2 ⟨rfl, hb⟩
 clear q0 q1 q2
 have H2 := Lib.hid (And.intro (below_step H1.out.1 hb) (And.intro (H1.out.2.1.below hb) (And.intro (H1.out.2.2.1.below hb) (trivial))))
 clear H1 hb
 have q0 := H2.out.2.2.1.q0
 have q1 := H2.out.2.2.1.q1
 have q2 := H2.out.2.2.1.q2
 go_wp2_with fail
 refine (chalklinelaw12_few.calls A2 c2 D A3 c3 M b true w2 H2.out.2.2.1.rw.rC H2.out.2.2.1.rw.lC H2.out.2.2.1.rw.rL H2.out.2.2.1.rw.lL hfb).mono ?_
 rintro e w3 ⟨rfl, hb⟩
 clear q0 q1 q2
 have H3 := Lib.hid (And.intro (below_step H2.out.1 hb) (And.intro (H2.out.2.1.below hb) (And.intro (H2.out.2.2.1.below hb) (trivial))))
 clear H2 hb
 have q0 := H3.out.2.1.q0
 have q1 := H3.out.2.1.q1
 have q2 := H3.out.2.1.q2
 have p0 := H3.out.2.2.1.q0
 have p1 := H3.out.2.2.1.q1
 have p2 := H3.out.2.2.1.q2
 go_wp2_with fail
 refine (lin_Add.calls A0 c0 C A1 c1 L a A2 c2 D A3 c3 M b P Q p ec w3 H3.out.2.1.rw.rC H3.out.2.1.rw.lC H3.out.2.1.rw.rL H3.out.2.1.rw.lL H3.out.2.2.1.rw.rC H3.out.2.2.1.rw.lC H3.out.2.2.1.rw.rL H3.out.2.2.1.rw.lL hx).mono ?_
 rintro e w4 ⟨v0, v1, rfl, hx0, hx1, hb⟩
 clear q0 q1 q2
 clear p0 p1 p2
 obtain ⟨E4, m4, rfl, j0, r0⟩ := Kd.R_reads hx0
 obtain ⟨E5, m5, rfl, j1, r1⟩ := Kd.R_reads hx1
 clear hx0 hx1
 have hbx := Bx.new (Rw.mk r0 r1 j0 j1) p
 have hb2 := below_step hb (below_alloc1 w4 (.cells #[.slice E4 P.length m4, .slice E5 Q.length m5, .int .i64 p] 24))
 have H4 := Lib.hid (And.intro (below_step H3.out.1 hb2) (And.intro (H3.out.2.1.below hb2) (And.intro (H3.out.2.2.1.below hb2) (And.intro (hbx) (trivial)))))
 clear H3 hb2 hbx
 clear hb r0 r1 j0 j1
 have q0 := H4.out.2.1.q0
 have q1 := H4.out.2.1.q1
 have q2 := H4.out.2.1.q2
 have p0 := H4.out.2.2.1.q0
 have p1 := H4.out.2.2.1.q1
 have p2 := H4.out.2.2.1.q2
 go_wp2_with fail
 refine (chalklineref12_Add.calls k1 A0 c0 C A1 c1 L a A2 c2 D A3 c3 M b P Q p ec _ H4.out.2.1.rw.rC H4.out.2.1.rw.lC H4.out.2.1.rw.rL H4.out.2.1.rw.lL H4.out.2.2.1.rw.rC H4.out.2.2.1.rw.lC H4.out.2.2.1.rw.rL H4.out.2.2.1.rw.lL hy).mono ?_
 rintro e w6 ⟨v0, v1, rfl, hx0, hx1, hb⟩
 clear q0 q1 q2
 clear p0 p1 p2
 obtain ⟨E6, m6, rfl, j0, r0⟩ := Kd.R_reads hx0
 obtain ⟨E7, m7, rfl, j1, r1⟩ := Kd.R_reads hx1
 clear hx0 hx1
 have hbx := Bx.new (Rw.mk r0 r1 j0 j1) p
 have hb2 := below_step hb (below_alloc1 w6 (.cells #[.slice E6 P.length m6, .slice E7 Q.length m7, .int .i64 p] 24))
 have H5 := Lib.hid (And.intro (below_step H4.out.1 hb2) (And.intro (H4.out.2.1.below hb2) (And.intro (H4.out.2.2.1.below hb2) (And.intro (H4.out.2.2.2.1.below hb2) (And.intro (hbx) (trivial))))))
 clear H4 hb2 hbx
 clear hb r0 r1 j0 j1
 have q0 := H5.out.2.1.q0
 have q1 := H5.out.2.1.q1
 have q2 := H5.out.2.1.q2
 go_wp2_with fail
 refine (lin_Cut.calls A0 c0 C A1 c1 L a d R S r fc _ H5.out.2.1.rw.rC H5.out.2.1.rw.lC H5.out.2.1.rw.rL H5.out.2.1.rw.lL hu).mono ?_
 rintro e w8 ⟨v0, v1, rfl, hx0, hx1, hb⟩
 clear q0 q1 q2
 obtain ⟨E8, m8, rfl, j0, r0⟩ := Kd.R_reads hx0
 obtain ⟨E9, m9, rfl, j1, r1⟩ := Kd.R_reads hx1
 clear hx0 hx1
 have hbx := Bx.new (Rw.mk r0 r1 j0 j1) r
 have hb2 := below_step hb (below_alloc1 w8 (.cells #[.slice E8 R.length m8, .slice E9 S.length m9, .int .i64 r] 24))
 have H6 := Lib.hid (And.intro (below_step H5.out.1 hb2) (And.intro (H5.out.2.1.below hb2) (And.intro (H5.out.2.2.1.below hb2) (And.intro (H5.out.2.2.2.1.below hb2) (And.intro (H5.out.2.2.2.2.1.below hb2) (And.intro (hbx) (trivial)))))))
 clear H5 hb2 hbx
 clear hb r0 r1 j0 j1
 have q0 := H6.out.2.1.q0
 have q1 := H6.out.2.1.q1
 have q2 := H6.out.2.1.q2
 go_wp2_with fail
 refine (chalklineref12_Cut.calls k2 A0 c0 C A1 c1 L a d R S r fc _ H6.out.2.1.rw.rC H6.out.2.1.rw.lC H6.out.2.1.rw.rL H6.out.2.1.rw.lL hv).mono ?_
 rintro e w10 ⟨v0, v1, rfl, hx0, hx1, hb⟩
 clear q0 q1 q2
 obtain ⟨E10, m10, rfl, j0, r0⟩ := Kd.R_reads hx0
 obtain ⟨E11, m11, rfl, j1, r1⟩ := Kd.R_reads hx1
 clear hx0 hx1
 have hbx := Bx.new (Rw.mk r0 r1 j0 j1) r
 have hb2 := below_step hb (below_alloc1 w10 (.cells #[.slice E10 R.length m10, .slice E11 S.length m11, .int .i64 r] 24))
 have H7 := Lib.hid (And.intro (below_step H6.out.1 hb2) (And.intro (H6.out.2.1.below hb2) (And.intro (H6.out.2.2.1.below hb2) (And.intro (H6.out.2.2.2.1.below hb2) (And.intro (H6.out.2.2.2.2.1.below hb2) (And.intro (H6.out.2.2.2.2.2.1.below hb2) (And.intro (hbx) (trivial))))))))
 clear H6 hb2 hbx
 clear hb r0 r1 j0 j1
 have q0 := H7.out.2.2.2.1.q0
 have q1 := H7.out.2.2.2.1.q1
 have q2 := H7.out.2.2.2.1.q2
 have p0 := H7.out.2.2.2.2.1.q0
 have p1 := H7.out.2.2.2.2.1.q1
 have p2 := H7.out.2.2.2.2.1.q2
 go_wp2_with fail
 refine (chalklineref12_Same.calls k3 E4 m4 P E5 m5 Q p E6 m6 P E7 m7 Q p true _ H7.out.2.2.2.1.rw.rC H7.out.2.2.2.1.rw.lC H7.out.2.2.2.1.rw.rL H7.out.2.2.2.1.rw.lL H7.out.2.2.2.2.1.rw.rC H7.out.2.2.2.2.1.rw.lC H7.out.2.2.2.2.1.rw.rL H7.out.2.2.2.2.1.rw.lL hsx).mono ?_
 rintro e w12 ⟨rfl, hb⟩
 clear q0 q1 q2
 clear p0 p1 p2
 have H8 := Lib.hid (And.intro (below_step H7.out.1 hb) (And.intro (H7.out.2.1.below hb) (And.intro (H7.out.2.2.1.below hb) (And.intro (H7.out.2.2.2.1.below hb) (And.intro (H7.out.2.2.2.2.1.below hb) (And.intro (H7.out.2.2.2.2.2.1.below hb) (And.intro (H7.out.2.2.2.2.2.2.1.below hb) (trivial))))))))
 clear H7 hb
 have q0 := H8.out.2.2.2.2.2.1.q0
 have q1 := H8.out.2.2.2.2.2.1.q1
 have q2 := H8.out.2.2.2.2.2.1.q2
 have p0 := H8.out.2.2.2.2.2.2.1.q0
 have p1 := H8.out.2.2.2.2.2.2.1.q1
 have p2 := H8.out.2.2.2.2.2.2.1.q2
 go_wp2_with fail
 refine (chalklineref12_Same.calls k4 E8 m8 R E9 m9 S r E10 m10 R E11 m11 S r true _ H8.out.2.2.2.2.2.1.rw.rC H8.out.2.2.2.2.2.1.rw.lC H8.out.2.2.2.2.2.1.rw.rL H8.out.2.2.2.2.2.1.rw.lL H8.out.2.2.2.2.2.2.1.rw.rC H8.out.2.2.2.2.2.2.1.rw.lC H8.out.2.2.2.2.2.2.1.rw.rL H8.out.2.2.2.2.2.2.1.rw.lL hsu).mono ?_
 rintro e w13 ⟨rfl, hb⟩
 clear q0 q1 q2
 clear p0 p1 p2
 have H9 := Lib.hid (And.intro (below_step H8.out.1 hb) (And.intro (H8.out.2.1.below hb) (And.intro (H8.out.2.2.1.below hb) (And.intro (H8.out.2.2.2.1.below hb) (And.intro (H8.out.2.2.2.2.1.below hb) (And.intro (H8.out.2.2.2.2.2.1.below hb) (And.intro (H8.out.2.2.2.2.2.2.1.below hb) (trivial))))))))
 clear H8 hb
 go_wp2
 go_ret
 exact ⟨rfl, H9.out.1⟩

end Go.Proofs.Ytmcljhjmmipagaa.PL
