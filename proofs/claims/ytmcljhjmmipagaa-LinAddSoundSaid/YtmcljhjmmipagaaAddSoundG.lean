/- The law LinAddSound, walked: it answers true where the sum is as 'AddP' says. -/
import Derived.Test.YtmcljhjmmipagaaBoxG
import Derived.Test.YtmcljhjmmipagaaPLx13
namespace Go.Proofs.Ytmcljhjmmipagaa.PL
open Go.RowKit Go.Proofs.YtmcljhjmmipagaaW.PrintWords Go.Proofs.YtmcljhjmmipagaaW.PrintLast Go.Proofs.YtmcljhjmmipagaaW.PrintMore
set_option linter.unusedVariables false
set_option linter.unusedSimpArgs false

set_option maxRecDepth 100000 in
set_option maxHeartbeats 4000000 in
theorem addSound_e1 (A0 : Option Addr) (c0 : Nat) (C : List Int) (A1 : Option Addr) (c1 : Nat) (L : List Int) (a : Int) (A2 : Option Addr) (c2 : Nat) (D : List Int) (A3 : Option Addr) (c3 : Nat) (M : List Int) (b : Int) (w : World) (h0 : Rw w A0 c0 C A1 c1 L) (h1 : Rw w A2 c2 D A3 c3 M) (hfa : chalklinelaw12_few.f C L a = some false) :
  Calls Try.prog 11 #[.agg #[.slice A0 C.length c0, .slice A1 L.length c1, .int .i64 a], .agg #[.slice A2 D.length c2, .slice A3 M.length c3, .int .i64 b]] w fun e w' => e = .returned (.bool true) ∧ Below w.heap.size w w' := by
 have hu24 := Try.underlying24
 have hz0 := below_alloc1 w (.cells #[.slice A0 C.length c0, .slice A1 L.length c1, .int .i64 a] 24)
 have hz1 := below_alloc1 (w.alloc (.cells #[.slice A0 C.length c0, .slice A1 L.length c1, .int .i64 a] 24)) (.cells #[.slice A2 D.length c2, .slice A3 M.length c3, .int .i64 b] 24)
 have hza := (Bx.new h0 a).below hz1
 have hzb := Bx.new (h1.below hz0) b
 rw [World.size_alloc] at hzb
 have H0 : Hid (Below w.heap.size w ((w.alloc (.cells #[.slice A0 C.length c0, .slice A1 L.length c1, .int .i64 a] 24)).alloc (.cells #[.slice A2 D.length c2, .slice A3 M.length c3, .int .i64 b] 24)) ∧ Bx ((w.alloc (.cells #[.slice A0 C.length c0, .slice A1 L.length c1, .int .i64 a] 24)).alloc (.cells #[.slice A2 D.length c2, .slice A3 M.length c3, .int .i64 b] 24)) w.heap.size A0 c0 C A1 c1 L a ∧ Bx ((w.alloc (.cells #[.slice A0 C.length c0, .slice A1 L.length c1, .int .i64 a] 24)).alloc (.cells #[.slice A2 D.length c2, .slice A3 M.length c3, .int .i64 b] 24)) (w.heap.size + 1) A2 c2 D A3 c3 M b) := Lib.hid ⟨below_step hz0 hz1, hza, hzb⟩
 clear hz0 hz1 hza hzb h0 h1
 go_enter Try.func11, Try.ntmps11
 go_wp2_with fail
 refine (chalklinelaw12_live.calls true _ rfl).mono ?_
 rintro e w1 ⟨rfl, hb1⟩
 have H1 := Lib.hid (And.intro (below_step H0.out.1 hb1) (And.intro (H0.out.2.1.below hb1) (H0.out.2.2.below hb1)))
 clear H0 hb1
 have q0 := H1.out.2.1.q0
 have q1 := H1.out.2.1.q1
 have q2 := H1.out.2.1.q2
 go_wp2_with fail
 refine (chalklinelaw12_few.calls A0 c0 C A1 c1 L a false w1 H1.out.2.1.rw.rC H1.out.2.1.rw.lC H1.out.2.1.rw.rL H1.out.2.1.rw.lL hfa).mono ?_
 rintro e w2 ⟨rfl, hb2⟩
 clear q0 q1 q2
 have H2 := Lib.hid (And.intro (below_step H1.out.1 hb2) (And.intro (H1.out.2.1.below hb2) (H1.out.2.2.below hb2)))
 clear H1 hb2
 go_wp2
 go_ret
 exact ⟨rfl, H2.out.1⟩

set_option maxRecDepth 100000 in
set_option maxHeartbeats 4000000 in
theorem addSound_e2 (A0 : Option Addr) (c0 : Nat) (C : List Int) (A1 : Option Addr) (c1 : Nat) (L : List Int) (a : Int) (A2 : Option Addr) (c2 : Nat) (D : List Int) (A3 : Option Addr) (c3 : Nat) (M : List Int) (b : Int) (w : World) (h0 : Rw w A0 c0 C A1 c1 L) (h1 : Rw w A2 c2 D A3 c3 M) (hfa : chalklinelaw12_few.f C L a = some true) (hfb : chalklinelaw12_few.f D M b = some false) :
  Calls Try.prog 11 #[.agg #[.slice A0 C.length c0, .slice A1 L.length c1, .int .i64 a], .agg #[.slice A2 D.length c2, .slice A3 M.length c3, .int .i64 b]] w fun e w' => e = .returned (.bool true) ∧ Below w.heap.size w w' := by
 have hu24 := Try.underlying24
 have hz0 := below_alloc1 w (.cells #[.slice A0 C.length c0, .slice A1 L.length c1, .int .i64 a] 24)
 have hz1 := below_alloc1 (w.alloc (.cells #[.slice A0 C.length c0, .slice A1 L.length c1, .int .i64 a] 24)) (.cells #[.slice A2 D.length c2, .slice A3 M.length c3, .int .i64 b] 24)
 have hza := (Bx.new h0 a).below hz1
 have hzb := Bx.new (h1.below hz0) b
 rw [World.size_alloc] at hzb
 have H0 : Hid (Below w.heap.size w ((w.alloc (.cells #[.slice A0 C.length c0, .slice A1 L.length c1, .int .i64 a] 24)).alloc (.cells #[.slice A2 D.length c2, .slice A3 M.length c3, .int .i64 b] 24)) ∧ Bx ((w.alloc (.cells #[.slice A0 C.length c0, .slice A1 L.length c1, .int .i64 a] 24)).alloc (.cells #[.slice A2 D.length c2, .slice A3 M.length c3, .int .i64 b] 24)) w.heap.size A0 c0 C A1 c1 L a ∧ Bx ((w.alloc (.cells #[.slice A0 C.length c0, .slice A1 L.length c1, .int .i64 a] 24)).alloc (.cells #[.slice A2 D.length c2, .slice A3 M.length c3, .int .i64 b] 24)) (w.heap.size + 1) A2 c2 D A3 c3 M b) := Lib.hid ⟨below_step hz0 hz1, hza, hzb⟩
 clear hz0 hz1 hza hzb h0 h1
 go_enter Try.func11, Try.ntmps11
 go_wp2_with fail
 refine (chalklinelaw12_live.calls true _ rfl).mono ?_
 rintro e w1 ⟨rfl, hb1⟩
 have H1 := Lib.hid (And.intro (below_step H0.out.1 hb1) (And.intro (H0.out.2.1.below hb1) (H0.out.2.2.below hb1)))
 clear H0 hb1
 have q0 := H1.out.2.1.q0
 have q1 := H1.out.2.1.q1
 have q2 := H1.out.2.1.q2
 go_wp2_with fail
 refine (chalklinelaw12_few.calls A0 c0 C A1 c1 L a true w1 H1.out.2.1.rw.rC H1.out.2.1.rw.lC H1.out.2.1.rw.rL H1.out.2.1.rw.lL hfa).mono ?_
 rintro e w2 ⟨rfl, hb2⟩
 clear q0 q1 q2
 have H2 := Lib.hid (And.intro (below_step H1.out.1 hb2) (And.intro (H1.out.2.1.below hb2) (H1.out.2.2.below hb2)))
 clear H1 hb2
 have q0 := H2.out.2.2.q0
 have q1 := H2.out.2.2.q1
 have q2 := H2.out.2.2.q2
 go_wp2_with fail
 refine (chalklinelaw12_few.calls A2 c2 D A3 c3 M b false w2 H2.out.2.2.rw.rC H2.out.2.2.rw.lC H2.out.2.2.rw.rL H2.out.2.2.rw.lL hfb).mono ?_
 rintro e w3 ⟨rfl, hb3⟩
 clear q0 q1 q2
 have H3 := Lib.hid (And.intro (below_step H2.out.1 hb3) (And.intro (H2.out.2.1.below hb3) (H2.out.2.2.below hb3)))
 clear H2 hb3
 go_wp2
 go_ret
 exact ⟨rfl, H3.out.1⟩

set_option maxRecDepth 100000 in
set_option maxHeartbeats 4000000 in
theorem addSound_e31 (A0 : Option Addr) (c0 : Nat) (C : List Int) (A1 : Option Addr) (c1 : Nat) (L : List Int) (a : Int) (A2 : Option Addr) (c2 : Nat) (D : List Int) (A3 : Option Addr) (c3 : Nat) (M : List Int) (b : Int) (w : World) (h0 : Rw w A0 c0 C A1 c1 L) (h1 : Rw w A2 c2 D A3 c3 M) (hfa : chalklinelaw12_few.f C L a = some true) (hfb : chalklinelaw12_few.f D M b = some true) (hva : lin_Check.val C L a 8 = 1) :
  Calls Try.prog 11 #[.agg #[.slice A0 C.length c0, .slice A1 L.length c1, .int .i64 a], .agg #[.slice A2 D.length c2, .slice A3 M.length c3, .int .i64 b]] w fun e w' => e = .returned (.bool true) ∧ Below w.heap.size w w' := by
 have hu24 := Try.underlying24
 have hz0 := below_alloc1 w (.cells #[.slice A0 C.length c0, .slice A1 L.length c1, .int .i64 a] 24)
 have hz1 := below_alloc1 (w.alloc (.cells #[.slice A0 C.length c0, .slice A1 L.length c1, .int .i64 a] 24)) (.cells #[.slice A2 D.length c2, .slice A3 M.length c3, .int .i64 b] 24)
 have hza := (Bx.new h0 a).below hz1
 have hzb := Bx.new (h1.below hz0) b
 rw [World.size_alloc] at hzb
 have H0 : Hid (Below w.heap.size w ((w.alloc (.cells #[.slice A0 C.length c0, .slice A1 L.length c1, .int .i64 a] 24)).alloc (.cells #[.slice A2 D.length c2, .slice A3 M.length c3, .int .i64 b] 24)) ∧ Bx ((w.alloc (.cells #[.slice A0 C.length c0, .slice A1 L.length c1, .int .i64 a] 24)).alloc (.cells #[.slice A2 D.length c2, .slice A3 M.length c3, .int .i64 b] 24)) w.heap.size A0 c0 C A1 c1 L a ∧ Bx ((w.alloc (.cells #[.slice A0 C.length c0, .slice A1 L.length c1, .int .i64 a] 24)).alloc (.cells #[.slice A2 D.length c2, .slice A3 M.length c3, .int .i64 b] 24)) (w.heap.size + 1) A2 c2 D A3 c3 M b) := Lib.hid ⟨below_step hz0 hz1, hza, hzb⟩
 clear hz0 hz1 hza hzb h0 h1
 go_enter Try.func11, Try.ntmps11
 go_wp2_with fail
 refine (chalklinelaw12_live.calls true _ rfl).mono ?_
 rintro e w1 ⟨rfl, hb1⟩
 have H1 := Lib.hid (And.intro (below_step H0.out.1 hb1) (And.intro (H0.out.2.1.below hb1) (H0.out.2.2.below hb1)))
 clear H0 hb1
 have q0 := H1.out.2.1.q0
 have q1 := H1.out.2.1.q1
 have q2 := H1.out.2.1.q2
 go_wp2_with fail
 refine (chalklinelaw12_few.calls A0 c0 C A1 c1 L a true w1 H1.out.2.1.rw.rC H1.out.2.1.rw.lC H1.out.2.1.rw.rL H1.out.2.1.rw.lL hfa).mono ?_
 rintro e w2 ⟨rfl, hb2⟩
 clear q0 q1 q2
 have H2 := Lib.hid (And.intro (below_step H1.out.1 hb2) (And.intro (H1.out.2.1.below hb2) (H1.out.2.2.below hb2)))
 clear H1 hb2
 have q0 := H2.out.2.2.q0
 have q1 := H2.out.2.2.q1
 have q2 := H2.out.2.2.q2
 go_wp2_with fail
 refine (chalklinelaw12_few.calls A2 c2 D A3 c3 M b true w2 H2.out.2.2.rw.rC H2.out.2.2.rw.lC H2.out.2.2.rw.rL H2.out.2.2.rw.lL hfb).mono ?_
 rintro e w3 ⟨rfl, hb3⟩
 clear q0 q1 q2
 have H3 := Lib.hid (And.intro (below_step H2.out.1 hb3) (And.intro (H2.out.2.1.below hb3) (H2.out.2.2.below hb3)))
 clear H2 hb3
 have q0 := H3.out.2.1.q0
 have q1 := H3.out.2.1.q1
 have q2 := H3.out.2.1.q2
 go_wp2_with fail
 refine (lin_Check.calls A0 c0 C A1 c1 L a 8 1 w3 H3.out.2.1.rw.rC H3.out.2.1.rw.lC H3.out.2.1.rw.rL H3.out.2.1.rw.lL (by unfold lin_Check.f; rw [hva])).mono ?_
 rintro e w4 ⟨rfl, hb4⟩
 clear q0 q1 q2
 have H4 := Lib.hid (And.intro (below_step H3.out.1 hb4) (And.intro (H3.out.2.1.below hb4) (H3.out.2.2.below hb4)))
 clear H3 hb4
 go_wp2
 go_ret
 exact ⟨rfl, H4.out.1⟩

set_option maxRecDepth 100000 in
set_option maxHeartbeats 4000000 in
theorem addSound_e41 (A0 : Option Addr) (c0 : Nat) (C : List Int) (A1 : Option Addr) (c1 : Nat) (L : List Int) (a : Int) (A2 : Option Addr) (c2 : Nat) (D : List Int) (A3 : Option Addr) (c3 : Nat) (M : List Int) (b : Int) (w : World) (h0 : Rw w A0 c0 C A1 c1 L) (h1 : Rw w A2 c2 D A3 c3 M) (hfa : chalklinelaw12_few.f C L a = some true) (hfb : chalklinelaw12_few.f D M b = some true) (hva : lin_Check.val C L a 8 = 0) (hvb : lin_Check.val D M b 8 = 1) :
  Calls Try.prog 11 #[.agg #[.slice A0 C.length c0, .slice A1 L.length c1, .int .i64 a], .agg #[.slice A2 D.length c2, .slice A3 M.length c3, .int .i64 b]] w fun e w' => e = .returned (.bool true) ∧ Below w.heap.size w w' := by
 have hu24 := Try.underlying24
 have hz0 := below_alloc1 w (.cells #[.slice A0 C.length c0, .slice A1 L.length c1, .int .i64 a] 24)
 have hz1 := below_alloc1 (w.alloc (.cells #[.slice A0 C.length c0, .slice A1 L.length c1, .int .i64 a] 24)) (.cells #[.slice A2 D.length c2, .slice A3 M.length c3, .int .i64 b] 24)
 have hza := (Bx.new h0 a).below hz1
 have hzb := Bx.new (h1.below hz0) b
 rw [World.size_alloc] at hzb
 have H0 : Hid (Below w.heap.size w ((w.alloc (.cells #[.slice A0 C.length c0, .slice A1 L.length c1, .int .i64 a] 24)).alloc (.cells #[.slice A2 D.length c2, .slice A3 M.length c3, .int .i64 b] 24)) ∧ Bx ((w.alloc (.cells #[.slice A0 C.length c0, .slice A1 L.length c1, .int .i64 a] 24)).alloc (.cells #[.slice A2 D.length c2, .slice A3 M.length c3, .int .i64 b] 24)) w.heap.size A0 c0 C A1 c1 L a ∧ Bx ((w.alloc (.cells #[.slice A0 C.length c0, .slice A1 L.length c1, .int .i64 a] 24)).alloc (.cells #[.slice A2 D.length c2, .slice A3 M.length c3, .int .i64 b] 24)) (w.heap.size + 1) A2 c2 D A3 c3 M b) := Lib.hid ⟨below_step hz0 hz1, hza, hzb⟩
 clear hz0 hz1 hza hzb h0 h1
 go_enter Try.func11, Try.ntmps11
 go_wp2_with fail
 refine (chalklinelaw12_live.calls true _ rfl).mono ?_
 rintro e w1 ⟨rfl, hb1⟩
 have H1 := Lib.hid (And.intro (below_step H0.out.1 hb1) (And.intro (H0.out.2.1.below hb1) (H0.out.2.2.below hb1)))
 clear H0 hb1
 have q0 := H1.out.2.1.q0
 have q1 := H1.out.2.1.q1
 have q2 := H1.out.2.1.q2
 go_wp2_with fail
 refine (chalklinelaw12_few.calls A0 c0 C A1 c1 L a true w1 H1.out.2.1.rw.rC H1.out.2.1.rw.lC H1.out.2.1.rw.rL H1.out.2.1.rw.lL hfa).mono ?_
 rintro e w2 ⟨rfl, hb2⟩
 clear q0 q1 q2
 have H2 := Lib.hid (And.intro (below_step H1.out.1 hb2) (And.intro (H1.out.2.1.below hb2) (H1.out.2.2.below hb2)))
 clear H1 hb2
 have q0 := H2.out.2.2.q0
 have q1 := H2.out.2.2.q1
 have q2 := H2.out.2.2.q2
 go_wp2_with fail
 refine (chalklinelaw12_few.calls A2 c2 D A3 c3 M b true w2 H2.out.2.2.rw.rC H2.out.2.2.rw.lC H2.out.2.2.rw.rL H2.out.2.2.rw.lL hfb).mono ?_
 rintro e w3 ⟨rfl, hb3⟩
 clear q0 q1 q2
 have H3 := Lib.hid (And.intro (below_step H2.out.1 hb3) (And.intro (H2.out.2.1.below hb3) (H2.out.2.2.below hb3)))
 clear H2 hb3
 have q0 := H3.out.2.1.q0
 have q1 := H3.out.2.1.q1
 have q2 := H3.out.2.1.q2
 go_wp2_with fail
 refine (lin_Check.calls A0 c0 C A1 c1 L a 8 0 w3 H3.out.2.1.rw.rC H3.out.2.1.rw.lC H3.out.2.1.rw.rL H3.out.2.1.rw.lL (by unfold lin_Check.f; rw [hva])).mono ?_
 rintro e w4 ⟨rfl, hb4⟩
 clear q0 q1 q2
 have H4 := Lib.hid (And.intro (below_step H3.out.1 hb4) (And.intro (H3.out.2.1.below hb4) (H3.out.2.2.below hb4)))
 clear H3 hb4
 have q0 := H4.out.2.2.q0
 have q1 := H4.out.2.2.q1
 have q2 := H4.out.2.2.q2
 go_wp2_with fail
 refine (lin_Check.calls A2 c2 D A3 c3 M b 8 1 w4 H4.out.2.2.rw.rC H4.out.2.2.rw.lC H4.out.2.2.rw.rL H4.out.2.2.rw.lL (by unfold lin_Check.f; rw [hvb])).mono ?_
 rintro e w5 ⟨rfl, hb5⟩
 clear q0 q1 q2
 have H5 := Lib.hid (And.intro (below_step H4.out.1 hb5) (And.intro (H4.out.2.1.below hb5) (H4.out.2.2.below hb5)))
 clear H4 hb5
 go_wp2
 go_ret
 exact ⟨rfl, H5.out.1⟩

set_option maxRecDepth 100000 in
set_option maxHeartbeats 4000000 in
theorem addSound_e32 (A0 : Option Addr) (c0 : Nat) (C : List Int) (A1 : Option Addr) (c1 : Nat) (L : List Int) (a : Int) (A2 : Option Addr) (c2 : Nat) (D : List Int) (A3 : Option Addr) (c3 : Nat) (M : List Int) (b : Int) (w : World) (h0 : Rw w A0 c0 C A1 c1 L) (h1 : Rw w A2 c2 D A3 c3 M) (hfa : chalklinelaw12_few.f C L a = some true) (hfb : chalklinelaw12_few.f D M b = some true) (hva : lin_Check.val C L a 8 = 2) :
  Calls Try.prog 11 #[.agg #[.slice A0 C.length c0, .slice A1 L.length c1, .int .i64 a], .agg #[.slice A2 D.length c2, .slice A3 M.length c3, .int .i64 b]] w fun e w' => e = .returned (.bool true) ∧ Below w.heap.size w w' := by
 have hu24 := Try.underlying24
 have hz0 := below_alloc1 w (.cells #[.slice A0 C.length c0, .slice A1 L.length c1, .int .i64 a] 24)
 have hz1 := below_alloc1 (w.alloc (.cells #[.slice A0 C.length c0, .slice A1 L.length c1, .int .i64 a] 24)) (.cells #[.slice A2 D.length c2, .slice A3 M.length c3, .int .i64 b] 24)
 have hza := (Bx.new h0 a).below hz1
 have hzb := Bx.new (h1.below hz0) b
 rw [World.size_alloc] at hzb
 have H0 : Hid (Below w.heap.size w ((w.alloc (.cells #[.slice A0 C.length c0, .slice A1 L.length c1, .int .i64 a] 24)).alloc (.cells #[.slice A2 D.length c2, .slice A3 M.length c3, .int .i64 b] 24)) ∧ Bx ((w.alloc (.cells #[.slice A0 C.length c0, .slice A1 L.length c1, .int .i64 a] 24)).alloc (.cells #[.slice A2 D.length c2, .slice A3 M.length c3, .int .i64 b] 24)) w.heap.size A0 c0 C A1 c1 L a ∧ Bx ((w.alloc (.cells #[.slice A0 C.length c0, .slice A1 L.length c1, .int .i64 a] 24)).alloc (.cells #[.slice A2 D.length c2, .slice A3 M.length c3, .int .i64 b] 24)) (w.heap.size + 1) A2 c2 D A3 c3 M b) := Lib.hid ⟨below_step hz0 hz1, hza, hzb⟩
 clear hz0 hz1 hza hzb h0 h1
 go_enter Try.func11, Try.ntmps11
 go_wp2_with fail
 refine (chalklinelaw12_live.calls true _ rfl).mono ?_
 rintro e w1 ⟨rfl, hb1⟩
 have H1 := Lib.hid (And.intro (below_step H0.out.1 hb1) (And.intro (H0.out.2.1.below hb1) (H0.out.2.2.below hb1)))
 clear H0 hb1
 have q0 := H1.out.2.1.q0
 have q1 := H1.out.2.1.q1
 have q2 := H1.out.2.1.q2
 go_wp2_with fail
 refine (chalklinelaw12_few.calls A0 c0 C A1 c1 L a true w1 H1.out.2.1.rw.rC H1.out.2.1.rw.lC H1.out.2.1.rw.rL H1.out.2.1.rw.lL hfa).mono ?_
 rintro e w2 ⟨rfl, hb2⟩
 clear q0 q1 q2
 have H2 := Lib.hid (And.intro (below_step H1.out.1 hb2) (And.intro (H1.out.2.1.below hb2) (H1.out.2.2.below hb2)))
 clear H1 hb2
 have q0 := H2.out.2.2.q0
 have q1 := H2.out.2.2.q1
 have q2 := H2.out.2.2.q2
 go_wp2_with fail
 refine (chalklinelaw12_few.calls A2 c2 D A3 c3 M b true w2 H2.out.2.2.rw.rC H2.out.2.2.rw.lC H2.out.2.2.rw.rL H2.out.2.2.rw.lL hfb).mono ?_
 rintro e w3 ⟨rfl, hb3⟩
 clear q0 q1 q2
 have H3 := Lib.hid (And.intro (below_step H2.out.1 hb3) (And.intro (H2.out.2.1.below hb3) (H2.out.2.2.below hb3)))
 clear H2 hb3
 have q0 := H3.out.2.1.q0
 have q1 := H3.out.2.1.q1
 have q2 := H3.out.2.1.q2
 go_wp2_with fail
 refine (lin_Check.calls A0 c0 C A1 c1 L a 8 2 w3 H3.out.2.1.rw.rC H3.out.2.1.rw.lC H3.out.2.1.rw.rL H3.out.2.1.rw.lL (by unfold lin_Check.f; rw [hva])).mono ?_
 rintro e w4 ⟨rfl, hb4⟩
 clear q0 q1 q2
 have H4 := Lib.hid (And.intro (below_step H3.out.1 hb4) (And.intro (H3.out.2.1.below hb4) (H3.out.2.2.below hb4)))
 clear H3 hb4
 go_wp2
 go_ret
 exact ⟨rfl, H4.out.1⟩

set_option maxRecDepth 100000 in
set_option maxHeartbeats 4000000 in
theorem addSound_e42 (A0 : Option Addr) (c0 : Nat) (C : List Int) (A1 : Option Addr) (c1 : Nat) (L : List Int) (a : Int) (A2 : Option Addr) (c2 : Nat) (D : List Int) (A3 : Option Addr) (c3 : Nat) (M : List Int) (b : Int) (w : World) (h0 : Rw w A0 c0 C A1 c1 L) (h1 : Rw w A2 c2 D A3 c3 M) (hfa : chalklinelaw12_few.f C L a = some true) (hfb : chalklinelaw12_few.f D M b = some true) (hva : lin_Check.val C L a 8 = 0) (hvb : lin_Check.val D M b 8 = 2) :
  Calls Try.prog 11 #[.agg #[.slice A0 C.length c0, .slice A1 L.length c1, .int .i64 a], .agg #[.slice A2 D.length c2, .slice A3 M.length c3, .int .i64 b]] w fun e w' => e = .returned (.bool true) ∧ Below w.heap.size w w' := by
 have hu24 := Try.underlying24
 have hz0 := below_alloc1 w (.cells #[.slice A0 C.length c0, .slice A1 L.length c1, .int .i64 a] 24)
 have hz1 := below_alloc1 (w.alloc (.cells #[.slice A0 C.length c0, .slice A1 L.length c1, .int .i64 a] 24)) (.cells #[.slice A2 D.length c2, .slice A3 M.length c3, .int .i64 b] 24)
 have hza := (Bx.new h0 a).below hz1
 have hzb := Bx.new (h1.below hz0) b
 rw [World.size_alloc] at hzb
 have H0 : Hid (Below w.heap.size w ((w.alloc (.cells #[.slice A0 C.length c0, .slice A1 L.length c1, .int .i64 a] 24)).alloc (.cells #[.slice A2 D.length c2, .slice A3 M.length c3, .int .i64 b] 24)) ∧ Bx ((w.alloc (.cells #[.slice A0 C.length c0, .slice A1 L.length c1, .int .i64 a] 24)).alloc (.cells #[.slice A2 D.length c2, .slice A3 M.length c3, .int .i64 b] 24)) w.heap.size A0 c0 C A1 c1 L a ∧ Bx ((w.alloc (.cells #[.slice A0 C.length c0, .slice A1 L.length c1, .int .i64 a] 24)).alloc (.cells #[.slice A2 D.length c2, .slice A3 M.length c3, .int .i64 b] 24)) (w.heap.size + 1) A2 c2 D A3 c3 M b) := Lib.hid ⟨below_step hz0 hz1, hza, hzb⟩
 clear hz0 hz1 hza hzb h0 h1
 go_enter Try.func11, Try.ntmps11
 go_wp2_with fail
 refine (chalklinelaw12_live.calls true _ rfl).mono ?_
 rintro e w1 ⟨rfl, hb1⟩
 have H1 := Lib.hid (And.intro (below_step H0.out.1 hb1) (And.intro (H0.out.2.1.below hb1) (H0.out.2.2.below hb1)))
 clear H0 hb1
 have q0 := H1.out.2.1.q0
 have q1 := H1.out.2.1.q1
 have q2 := H1.out.2.1.q2
 go_wp2_with fail
 refine (chalklinelaw12_few.calls A0 c0 C A1 c1 L a true w1 H1.out.2.1.rw.rC H1.out.2.1.rw.lC H1.out.2.1.rw.rL H1.out.2.1.rw.lL hfa).mono ?_
 rintro e w2 ⟨rfl, hb2⟩
 clear q0 q1 q2
 have H2 := Lib.hid (And.intro (below_step H1.out.1 hb2) (And.intro (H1.out.2.1.below hb2) (H1.out.2.2.below hb2)))
 clear H1 hb2
 have q0 := H2.out.2.2.q0
 have q1 := H2.out.2.2.q1
 have q2 := H2.out.2.2.q2
 go_wp2_with fail
 refine (chalklinelaw12_few.calls A2 c2 D A3 c3 M b true w2 H2.out.2.2.rw.rC H2.out.2.2.rw.lC H2.out.2.2.rw.rL H2.out.2.2.rw.lL hfb).mono ?_
 rintro e w3 ⟨rfl, hb3⟩
 clear q0 q1 q2
 have H3 := Lib.hid (And.intro (below_step H2.out.1 hb3) (And.intro (H2.out.2.1.below hb3) (H2.out.2.2.below hb3)))
 clear H2 hb3
 have q0 := H3.out.2.1.q0
 have q1 := H3.out.2.1.q1
 have q2 := H3.out.2.1.q2
 go_wp2_with fail
 refine (lin_Check.calls A0 c0 C A1 c1 L a 8 0 w3 H3.out.2.1.rw.rC H3.out.2.1.rw.lC H3.out.2.1.rw.rL H3.out.2.1.rw.lL (by unfold lin_Check.f; rw [hva])).mono ?_
 rintro e w4 ⟨rfl, hb4⟩
 clear q0 q1 q2
 have H4 := Lib.hid (And.intro (below_step H3.out.1 hb4) (And.intro (H3.out.2.1.below hb4) (H3.out.2.2.below hb4)))
 clear H3 hb4
 have q0 := H4.out.2.2.q0
 have q1 := H4.out.2.2.q1
 have q2 := H4.out.2.2.q2
 go_wp2_with fail
 refine (lin_Check.calls A2 c2 D A3 c3 M b 8 2 w4 H4.out.2.2.rw.rC H4.out.2.2.rw.lC H4.out.2.2.rw.rL H4.out.2.2.rw.lL (by unfold lin_Check.f; rw [hvb])).mono ?_
 rintro e w5 ⟨rfl, hb5⟩
 clear q0 q1 q2
 have H5 := Lib.hid (And.intro (below_step H4.out.1 hb5) (And.intro (H4.out.2.1.below hb5) (H4.out.2.2.below hb5)))
 clear H4 hb5
 go_wp2
 go_ret
 exact ⟨rfl, H5.out.1⟩

/-- What the law asks of the sum. -/
structure AddP (C L : List Int) (a : Int) (D M : List Int) (b : Int) (P Q : List Int) (p : Int) : Prop where
 all : ∀ j : Nat, j < 256 → ∃ k ts va vb vx, chalklineref12_Truths.f k 8 (j : Int) = some ts ∧ lin_Value.f C L a ts = some va ∧ lin_Value.f D M b ts = some vb ∧ lin_Value.f P Q p ts = some vx ∧
  ((va = true ∧ vb = true ∧ vx = true) ∨ (va = true ∧ vb = false) ∨ (va = false ∧ vx = false) ∨ (va = false ∧ vb = true ∧ vx = true))

set_option maxRecDepth 100000 in
set_option maxHeartbeats 4000000 in
theorem addSound_bad (A0 : Option Addr) (c0 : Nat) (C : List Int) (A1 : Option Addr) (c1 : Nat) (L : List Int) (a : Int) (A2 : Option Addr) (c2 : Nat) (D : List Int) (A3 : Option Addr) (c3 : Nat) (M : List Int) (b : Int) (w : World) (h0 : Rw w A0 c0 C A1 c1 L) (h1 : Rw w A2 c2 D A3 c3 M) (hfa : chalklinelaw12_few.f C L a = some true) (hfb : chalklinelaw12_few.f D M b = some true) (hva : lin_Check.val C L a 8 = 0) (hvb : lin_Check.val D M b 8 = 0) (P : List Int) (p : Int) (hx : lin_Add.f C L a D M b = some (P, [], p, 2)) :
  Calls Try.prog 11 #[.agg #[.slice A0 C.length c0, .slice A1 L.length c1, .int .i64 a], .agg #[.slice A2 D.length c2, .slice A3 M.length c3, .int .i64 b]] w fun e w' => e = .returned (.bool true) ∧ Below w.heap.size w w' := by
 have hu24 := Try.underlying24
 have hz0 := below_alloc1 w (.cells #[.slice A0 C.length c0, .slice A1 L.length c1, .int .i64 a] 24)
 have hz1 := below_alloc1 (w.alloc (.cells #[.slice A0 C.length c0, .slice A1 L.length c1, .int .i64 a] 24)) (.cells #[.slice A2 D.length c2, .slice A3 M.length c3, .int .i64 b] 24)
 have hza := (Bx.new h0 a).below hz1
 have hzb := Bx.new (h1.below hz0) b
 rw [World.size_alloc] at hzb
 have H0 : Hid (Below w.heap.size w ((w.alloc (.cells #[.slice A0 C.length c0, .slice A1 L.length c1, .int .i64 a] 24)).alloc (.cells #[.slice A2 D.length c2, .slice A3 M.length c3, .int .i64 b] 24)) ∧ Bx ((w.alloc (.cells #[.slice A0 C.length c0, .slice A1 L.length c1, .int .i64 a] 24)).alloc (.cells #[.slice A2 D.length c2, .slice A3 M.length c3, .int .i64 b] 24)) w.heap.size A0 c0 C A1 c1 L a ∧ Bx ((w.alloc (.cells #[.slice A0 C.length c0, .slice A1 L.length c1, .int .i64 a] 24)).alloc (.cells #[.slice A2 D.length c2, .slice A3 M.length c3, .int .i64 b] 24)) (w.heap.size + 1) A2 c2 D A3 c3 M b) := Lib.hid ⟨below_step hz0 hz1, hza, hzb⟩
 clear hz0 hz1 hza hzb h0 h1
 go_enter Try.func11, Try.ntmps11
 go_wp2_with fail
 refine (chalklinelaw12_live.calls true _ rfl).mono ?_
 rintro e w1 ⟨rfl, hb1⟩
 have H1 := Lib.hid (And.intro (below_step H0.out.1 hb1) (And.intro (H0.out.2.1.below hb1) (H0.out.2.2.below hb1)))
 clear H0 hb1
 have q0 := H1.out.2.1.q0
 have q1 := H1.out.2.1.q1
 have q2 := H1.out.2.1.q2
 go_wp2_with fail
 refine (chalklinelaw12_few.calls A0 c0 C A1 c1 L a true w1 H1.out.2.1.rw.rC H1.out.2.1.rw.lC H1.out.2.1.rw.rL H1.out.2.1.rw.lL hfa).mono ?_
 rintro e w2 ⟨rfl, hb2⟩
 clear q0 q1 q2
 have H2 := Lib.hid (And.intro (below_step H1.out.1 hb2) (And.intro (H1.out.2.1.below hb2) (H1.out.2.2.below hb2)))
 clear H1 hb2
 have q0 := H2.out.2.2.q0
 have q1 := H2.out.2.2.q1
 have q2 := H2.out.2.2.q2
 go_wp2_with fail
 refine (chalklinelaw12_few.calls A2 c2 D A3 c3 M b true w2 H2.out.2.2.rw.rC H2.out.2.2.rw.lC H2.out.2.2.rw.rL H2.out.2.2.rw.lL hfb).mono ?_
 rintro e w3 ⟨rfl, hb3⟩
 clear q0 q1 q2
 have H3 := Lib.hid (And.intro (below_step H2.out.1 hb3) (And.intro (H2.out.2.1.below hb3) (H2.out.2.2.below hb3)))
 clear H2 hb3
 have q0 := H3.out.2.1.q0
 have q1 := H3.out.2.1.q1
 have q2 := H3.out.2.1.q2
 go_wp2_with fail
 refine (lin_Check.calls A0 c0 C A1 c1 L a 8 0 w3 H3.out.2.1.rw.rC H3.out.2.1.rw.lC H3.out.2.1.rw.rL H3.out.2.1.rw.lL (by unfold lin_Check.f; rw [hva])).mono ?_
 rintro e w4 ⟨rfl, hb4⟩
 clear q0 q1 q2
 have H4 := Lib.hid (And.intro (below_step H3.out.1 hb4) (And.intro (H3.out.2.1.below hb4) (H3.out.2.2.below hb4)))
 clear H3 hb4
 have q0 := H4.out.2.2.q0
 have q1 := H4.out.2.2.q1
 have q2 := H4.out.2.2.q2
 go_wp2_with fail
 refine (lin_Check.calls A2 c2 D A3 c3 M b 8 0 w4 H4.out.2.2.rw.rC H4.out.2.2.rw.lC H4.out.2.2.rw.rL H4.out.2.2.rw.lL (by unfold lin_Check.f; rw [hvb])).mono ?_
 rintro e w5 ⟨rfl, hb5⟩
 clear q0 q1 q2
 have H5 := Lib.hid (And.intro (below_step H4.out.1 hb5) (And.intro (H4.out.2.1.below hb5) (H4.out.2.2.below hb5)))
 clear H4 hb5
 have q0 := H5.out.2.1.q0
 have q1 := H5.out.2.1.q1
 have q2 := H5.out.2.1.q2
 have p0 := H5.out.2.2.q0
 have p1 := H5.out.2.2.q1
 have p2 := H5.out.2.2.q2
 go_wp2_with fail
 refine (lin_Add.calls A0 c0 C A1 c1 L a A2 c2 D A3 c3 M b P ([] : List Int) p 2 w5 H5.out.2.1.rw.rC H5.out.2.1.rw.lC H5.out.2.1.rw.rL H5.out.2.1.rw.lL H5.out.2.2.rw.rC H5.out.2.2.rw.lC H5.out.2.2.rw.rL H5.out.2.2.rw.lL hx).mono ?_
 rintro e w6 ⟨v0, v1, rfl, hx0, hx1, hb6⟩
 clear q0 q1 q2
 clear p0 p1 p2
 obtain ⟨E0, m0, rfl, j0, r0⟩ := Kd.R_reads hx0
 obtain ⟨E1, m1, rfl, j1, r1⟩ := Kd.R_reads hx1
 clear hx0 hx1
 have hbx := Bx.new (Rw.mk r0 r1 j0 j1) p
 have hb7 := below_step hb6 (below_alloc1 w6 (.cells #[.slice E0 P.length m0, .slice E1 ([] : List Int).length m1, .int .i64 p] 24))
 have H7 := Lib.hid (And.intro (below_step H5.out.1 hb7) (And.intro (H5.out.2.1.below hb7) (And.intro (H5.out.2.2.below hb7) hbx)))
 clear H5 hb6 hb7 hbx r0 r1 j0 j1
 have x1 := H7.out.2.2.2.q1
 go_wp2
 go_ret
 exact ⟨rfl, H7.out.1⟩

set_option maxRecDepth 100000 in
set_option maxHeartbeats 4000000 in
theorem addSound_walk (A0 : Option Addr) (c0 : Nat) (C : List Int) (A1 : Option Addr) (c1 : Nat) (L : List Int) (a : Int) (A2 : Option Addr) (c2 : Nat) (D : List Int) (A3 : Option Addr) (c3 : Nat) (M : List Int) (b : Int) (w : World) (h0 : Rw w A0 c0 C A1 c1 L) (h1 : Rw w A2 c2 D A3 c3 M) (hfa : chalklinelaw12_few.f C L a = some true) (hfb : chalklinelaw12_few.f D M b = some true) (hva : lin_Check.val C L a 8 = 0) (hvb : lin_Check.val D M b 8 = 0) (P Q : List Int) (p : Int) (hx : lin_Add.f C L a D M b = some (P, Q, p, 0)) (hP : AddP C L a D M b P Q p) :
  Calls Try.prog 11 #[.agg #[.slice A0 C.length c0, .slice A1 L.length c1, .int .i64 a], .agg #[.slice A2 D.length c2, .slice A3 M.length c3, .int .i64 b]] w fun e w' => e = .returned (.bool true) ∧ Below w.heap.size w w' := by
 have HP := Lib.hid hP
 clear hP
 have hu24 := Try.underlying24
 have hz0 := below_alloc1 w (.cells #[.slice A0 C.length c0, .slice A1 L.length c1, .int .i64 a] 24)
 have hz1 := below_alloc1 (w.alloc (.cells #[.slice A0 C.length c0, .slice A1 L.length c1, .int .i64 a] 24)) (.cells #[.slice A2 D.length c2, .slice A3 M.length c3, .int .i64 b] 24)
 have hza := (Bx.new h0 a).below hz1
 have hzb := Bx.new (h1.below hz0) b
 rw [World.size_alloc] at hzb
 have H0 : Hid (Below w.heap.size w ((w.alloc (.cells #[.slice A0 C.length c0, .slice A1 L.length c1, .int .i64 a] 24)).alloc (.cells #[.slice A2 D.length c2, .slice A3 M.length c3, .int .i64 b] 24)) ∧ Bx ((w.alloc (.cells #[.slice A0 C.length c0, .slice A1 L.length c1, .int .i64 a] 24)).alloc (.cells #[.slice A2 D.length c2, .slice A3 M.length c3, .int .i64 b] 24)) w.heap.size A0 c0 C A1 c1 L a ∧ Bx ((w.alloc (.cells #[.slice A0 C.length c0, .slice A1 L.length c1, .int .i64 a] 24)).alloc (.cells #[.slice A2 D.length c2, .slice A3 M.length c3, .int .i64 b] 24)) (w.heap.size + 1) A2 c2 D A3 c3 M b) := Lib.hid ⟨below_step hz0 hz1, hza, hzb⟩
 clear hz0 hz1 hza hzb h0 h1
 go_enter Try.func11, Try.ntmps11
 go_wp2_with fail
 refine (chalklinelaw12_live.calls true _ rfl).mono ?_
 rintro e w1 ⟨rfl, hb1⟩
 have H1 := Lib.hid (And.intro (below_step H0.out.1 hb1) (And.intro (H0.out.2.1.below hb1) (H0.out.2.2.below hb1)))
 clear H0 hb1
 have q0 := H1.out.2.1.q0
 have q1 := H1.out.2.1.q1
 have q2 := H1.out.2.1.q2
 go_wp2_with fail
 refine (chalklinelaw12_few.calls A0 c0 C A1 c1 L a true w1 H1.out.2.1.rw.rC H1.out.2.1.rw.lC H1.out.2.1.rw.rL H1.out.2.1.rw.lL hfa).mono ?_
 rintro e w2 ⟨rfl, hb2⟩
 clear q0 q1 q2
 have H2 := Lib.hid (And.intro (below_step H1.out.1 hb2) (And.intro (H1.out.2.1.below hb2) (H1.out.2.2.below hb2)))
 clear H1 hb2
 have q0 := H2.out.2.2.q0
 have q1 := H2.out.2.2.q1
 have q2 := H2.out.2.2.q2
 go_wp2_with fail
 refine (chalklinelaw12_few.calls A2 c2 D A3 c3 M b true w2 H2.out.2.2.rw.rC H2.out.2.2.rw.lC H2.out.2.2.rw.rL H2.out.2.2.rw.lL hfb).mono ?_
 rintro e w3 ⟨rfl, hb3⟩
 clear q0 q1 q2
 have H3 := Lib.hid (And.intro (below_step H2.out.1 hb3) (And.intro (H2.out.2.1.below hb3) (H2.out.2.2.below hb3)))
 clear H2 hb3
 have q0 := H3.out.2.1.q0
 have q1 := H3.out.2.1.q1
 have q2 := H3.out.2.1.q2
 go_wp2_with fail
 refine (lin_Check.calls A0 c0 C A1 c1 L a 8 0 w3 H3.out.2.1.rw.rC H3.out.2.1.rw.lC H3.out.2.1.rw.rL H3.out.2.1.rw.lL (by unfold lin_Check.f; rw [hva])).mono ?_
 rintro e w4 ⟨rfl, hb4⟩
 clear q0 q1 q2
 have H4 := Lib.hid (And.intro (below_step H3.out.1 hb4) (And.intro (H3.out.2.1.below hb4) (H3.out.2.2.below hb4)))
 clear H3 hb4
 have q0 := H4.out.2.2.q0
 have q1 := H4.out.2.2.q1
 have q2 := H4.out.2.2.q2
 go_wp2_with fail
 refine (lin_Check.calls A2 c2 D A3 c3 M b 8 0 w4 H4.out.2.2.rw.rC H4.out.2.2.rw.lC H4.out.2.2.rw.rL H4.out.2.2.rw.lL (by unfold lin_Check.f; rw [hvb])).mono ?_
 rintro e w5 ⟨rfl, hb5⟩
 clear q0 q1 q2
 have H5 := Lib.hid (And.intro (below_step H4.out.1 hb5) (And.intro (H4.out.2.1.below hb5) (H4.out.2.2.below hb5)))
 clear H4 hb5
 have q0 := H5.out.2.1.q0
 have q1 := H5.out.2.1.q1
 have q2 := H5.out.2.1.q2
 have p0 := H5.out.2.2.q0
 have p1 := H5.out.2.2.q1
 have p2 := H5.out.2.2.q2
 go_wp2_with fail
 refine (lin_Add.calls A0 c0 C A1 c1 L a A2 c2 D A3 c3 M b P Q p 0 w5 H5.out.2.1.rw.rC H5.out.2.1.rw.lC H5.out.2.1.rw.rL H5.out.2.1.rw.lL H5.out.2.2.rw.rC H5.out.2.2.rw.lC H5.out.2.2.rw.rL H5.out.2.2.rw.lL hx).mono ?_
 rintro e w6 ⟨v0, v1, rfl, hx0, hx1, hb6⟩
 clear q0 q1 q2
 clear p0 p1 p2
 obtain ⟨E0, m0, rfl, j0, r0⟩ := Kd.R_reads hx0
 obtain ⟨E1, m1, rfl, j1, r1⟩ := Kd.R_reads hx1
 clear hx0 hx1
 have hbx := Bx.new (Rw.mk r0 r1 j0 j1) p
 have hb7 := below_step hb6 (below_alloc1 w6 (.cells #[.slice E0 P.length m0, .slice E1 Q.length m1, .int .i64 p] 24))
 have H7 := Lib.hid (And.intro (below_step H5.out.1 hb7) (And.intro (H5.out.2.1.below hb7) (And.intro (H5.out.2.2.below hb7) hbx)))
 clear H5 hb6 hb7 hbx r0 r1 j0 j1
 go_wp2
 generalize w6.alloc (.cells #[.slice E0 P.length m0, .slice E1 Q.length m1, .int .i64 p] 24) = wl at H7 ⊢
 generalize w6.heap.size = gx at H7 ⊢
 clear hfa hfb hva hvb hx
 go_loopg [7] 256 (fun gg s7 wr => ∃ k : Nat, k ≤ 256 ∧ 256 - k ≤ gg ∧ s7 = .int .i64 (k : Int) ∧ Hid (Below w.heap.size w wr ∧ Bx wr w.heap.size A0 c0 C A1 c1 L a ∧ Bx wr (w.heap.size + 1) A2 c2 D A3 c3 M b ∧ Bx wr gx E0 m0 P E1 m1 Q p))
 case atStart => exact ⟨0, by omega, by omega, rfl, H7⟩
 case round =>
  clear H7
  obtain ⟨k, hk, hg, rfl, HR⟩ := hrel
  by_cases hlt : k < 256
  ·
   have h1 : (k : Int) < 256 := by omega
   obtain ⟨kk, ts, va, vb, vx, ht, ea, eb, ex, hcase⟩ := HP.out.all k hlt
   have HE := Lib.hid (And.intro ea (And.intro eb ex))
   have HC := Lib.hid hcase
   clear ea eb ex hcase
   go_wp2_with fail
   refine (chalklineref12_Truths.calls kk 8 (k : Int) ts wr ht).mono ?_
   rintro e z0 ⟨v0, rfl, hx0, hb⟩
   obtain ⟨T0, n0, rfl, jt, rt⟩ := Kd.R_reads hx0
   have HZ := Lib.hid (And.intro (below_step HR.out.1 hb) (And.intro (HR.out.2.1.below hb) (And.intro (HR.out.2.2.1.below hb) (HR.out.2.2.2.below hb))))
   have HT := Lib.hid (And.intro rt jt)
   clear hx0 hb HR ht rt jt
   have Ka := Lib.hid (fun (W : World) (hb : Below z0.heap.size z0 W) => lin_Value.calls A0 c0 C A1 c1 L a T0 n0 ts va W (Kd.C_below HZ.out.2.1.rw.rC hb) HZ.out.2.1.rw.lC (Kd.C_below HZ.out.2.1.rw.rL hb) HZ.out.2.1.rw.lL (Kd.C_below HT.out.1 hb) HT.out.2 HE.out.1)
   have Kb := Lib.hid (fun (W : World) (hb : Below z0.heap.size z0 W) => lin_Value.calls A2 c2 D A3 c3 M b T0 n0 ts vb W (Kd.C_below HZ.out.2.2.1.rw.rC hb) HZ.out.2.2.1.rw.lC (Kd.C_below HZ.out.2.2.1.rw.rL hb) HZ.out.2.2.1.rw.lL (Kd.C_below HT.out.1 hb) HT.out.2 HE.out.2.1)
   have Kx := Lib.hid (fun (W : World) (hb : Below z0.heap.size z0 W) => lin_Value.calls E0 m0 P E1 m1 Q p T0 n0 ts vx W (Kd.C_below HZ.out.2.2.2.rw.rC hb) HZ.out.2.2.2.rw.lC (Kd.C_below HZ.out.2.2.2.rw.rL hb) HZ.out.2.2.2.rw.lL (Kd.C_below HT.out.1 hb) HT.out.2 HE.out.2.2)
   clear HE HT
   rcases HC.out with ⟨rfl, rfl, rfl⟩ | ⟨rfl, rfl⟩ | ⟨rfl, rfl⟩ | ⟨rfl, rfl, rfl⟩
   ·
    skip
    have q0 := (HZ.out.2.1.below (Below.refl z0.heap.size z0)).q0
    have q1 := (HZ.out.2.1.below (Below.refl z0.heap.size z0)).q1
    have q2 := (HZ.out.2.1.below (Below.refl z0.heap.size z0)).q2
    go_wp2_with fail
    refine (Ka.out _ (Below.refl z0.heap.size z0)).mono ?_
    rintro e z1 ⟨rfl, hb⟩
    have HB1 : Hid (Below z0.heap.size z0 z1) := Lib.hid (below_step (Below.refl z0.heap.size z0) hb)
    clear hb q0 q1 q2
    have q0 := (HZ.out.2.2.1.below HB1.out).q0
    have q1 := (HZ.out.2.2.1.below HB1.out).q1
    have q2 := (HZ.out.2.2.1.below HB1.out).q2
    go_wp2_with fail
    refine (Kb.out _ HB1.out).mono ?_
    rintro e z2 ⟨rfl, hb⟩
    have HB2 : Hid (Below z0.heap.size z0 z2) := Lib.hid (below_step HB1.out hb)
    clear hb q0 q1 q2
    have q0 := (HZ.out.2.2.2.below HB2.out).q0
    have q1 := (HZ.out.2.2.2.below HB2.out).q1
    have q2 := (HZ.out.2.2.2.below HB2.out).q2
    go_wp2_with fail
    refine (Kx.out _ HB2.out).mono ?_
    rintro e z3 ⟨rfl, hb⟩
    have HB3 : Hid (Below z0.heap.size z0 z3) := Lib.hid (below_step HB2.out hb)
    clear hb q0 q1 q2
    have q0 := (HZ.out.2.2.2.below HB3.out).q0
    have q1 := (HZ.out.2.2.2.below HB3.out).q1
    have q2 := (HZ.out.2.2.2.below HB3.out).q2
    go_wp2_with fail
    refine (Kx.out _ HB3.out).mono ?_
    rintro e z4 ⟨rfl, hb⟩
    have HB4 : Hid (Below z0.heap.size z0 z4) := Lib.hid (below_step HB3.out hb)
    clear hb q0 q1 q2
    have q0 := (HZ.out.2.1.below HB4.out).q0
    have q1 := (HZ.out.2.1.below HB4.out).q1
    have q2 := (HZ.out.2.1.below HB4.out).q2
    go_wp2_with fail
    refine (Ka.out _ HB4.out).mono ?_
    rintro e z5 ⟨rfl, hb⟩
    have HB5 : Hid (Below z0.heap.size z0 z5) := Lib.hid (below_step HB4.out hb)
    clear hb q0 q1 q2
    have HN := Lib.hid (And.intro (below_step HZ.out.1 HB5.out) (And.intro (HZ.out.2.1.below HB5.out) (And.intro (HZ.out.2.2.1.below HB5.out) (HZ.out.2.2.2.below HB5.out))))
    clear HZ Ka Kb Kx HC HB1 HB2 HB3 HB4 HB5
    go_wp2
    go_roundg (256 - (k + 1))
    case measure => omega
    case rel => exact ⟨k + 1, by omega, by omega, by go_num, HN⟩
   ·
    cases vx with
    | false =>
     have q0 := (HZ.out.2.1.below (Below.refl z0.heap.size z0)).q0
     have q1 := (HZ.out.2.1.below (Below.refl z0.heap.size z0)).q1
     have q2 := (HZ.out.2.1.below (Below.refl z0.heap.size z0)).q2
     go_wp2_with fail
     refine (Ka.out _ (Below.refl z0.heap.size z0)).mono ?_
     rintro e z1 ⟨rfl, hb⟩
     have HB1 : Hid (Below z0.heap.size z0 z1) := Lib.hid (below_step (Below.refl z0.heap.size z0) hb)
     clear hb q0 q1 q2
     have q0 := (HZ.out.2.2.1.below HB1.out).q0
     have q1 := (HZ.out.2.2.1.below HB1.out).q1
     have q2 := (HZ.out.2.2.1.below HB1.out).q2
     go_wp2_with fail
     refine (Kb.out _ HB1.out).mono ?_
     rintro e z2 ⟨rfl, hb⟩
     have HB2 : Hid (Below z0.heap.size z0 z2) := Lib.hid (below_step HB1.out hb)
     clear hb q0 q1 q2
     have q0 := (HZ.out.2.2.2.below HB2.out).q0
     have q1 := (HZ.out.2.2.2.below HB2.out).q1
     have q2 := (HZ.out.2.2.2.below HB2.out).q2
     go_wp2_with fail
     refine (Kx.out _ HB2.out).mono ?_
     rintro e z3 ⟨rfl, hb⟩
     have HB3 : Hid (Below z0.heap.size z0 z3) := Lib.hid (below_step HB2.out hb)
     clear hb q0 q1 q2
     have HN := Lib.hid (And.intro (below_step HZ.out.1 HB3.out) (And.intro (HZ.out.2.1.below HB3.out) (And.intro (HZ.out.2.2.1.below HB3.out) (HZ.out.2.2.2.below HB3.out))))
     clear HZ Ka Kb Kx HC HB1 HB2 HB3
     go_wp2
     go_roundg (256 - (k + 1))
     case measure => omega
     case rel => exact ⟨k + 1, by omega, by omega, by go_num, HN⟩
    | true =>
     have q0 := (HZ.out.2.1.below (Below.refl z0.heap.size z0)).q0
     have q1 := (HZ.out.2.1.below (Below.refl z0.heap.size z0)).q1
     have q2 := (HZ.out.2.1.below (Below.refl z0.heap.size z0)).q2
     go_wp2_with fail
     refine (Ka.out _ (Below.refl z0.heap.size z0)).mono ?_
     rintro e z1 ⟨rfl, hb⟩
     have HB1 : Hid (Below z0.heap.size z0 z1) := Lib.hid (below_step (Below.refl z0.heap.size z0) hb)
     clear hb q0 q1 q2
     have q0 := (HZ.out.2.2.1.below HB1.out).q0
     have q1 := (HZ.out.2.2.1.below HB1.out).q1
     have q2 := (HZ.out.2.2.1.below HB1.out).q2
     go_wp2_with fail
     refine (Kb.out _ HB1.out).mono ?_
     rintro e z2 ⟨rfl, hb⟩
     have HB2 : Hid (Below z0.heap.size z0 z2) := Lib.hid (below_step HB1.out hb)
     clear hb q0 q1 q2
     have q0 := (HZ.out.2.2.2.below HB2.out).q0
     have q1 := (HZ.out.2.2.2.below HB2.out).q1
     have q2 := (HZ.out.2.2.2.below HB2.out).q2
     go_wp2_with fail
     refine (Kx.out _ HB2.out).mono ?_
     rintro e z3 ⟨rfl, hb⟩
     have HB3 : Hid (Below z0.heap.size z0 z3) := Lib.hid (below_step HB2.out hb)
     clear hb q0 q1 q2
     have q0 := (HZ.out.2.1.below HB3.out).q0
     have q1 := (HZ.out.2.1.below HB3.out).q1
     have q2 := (HZ.out.2.1.below HB3.out).q2
     go_wp2_with fail
     refine (Ka.out _ HB3.out).mono ?_
     rintro e z4 ⟨rfl, hb⟩
     have HB4 : Hid (Below z0.heap.size z0 z4) := Lib.hid (below_step HB3.out hb)
     clear hb q0 q1 q2
     have HN := Lib.hid (And.intro (below_step HZ.out.1 HB4.out) (And.intro (HZ.out.2.1.below HB4.out) (And.intro (HZ.out.2.2.1.below HB4.out) (HZ.out.2.2.2.below HB4.out))))
     clear HZ Ka Kb Kx HC HB1 HB2 HB3 HB4
     go_wp2
     go_roundg (256 - (k + 1))
     case measure => omega
     case rel => exact ⟨k + 1, by omega, by omega, by go_num, HN⟩
   ·
    skip
    have q0 := (HZ.out.2.1.below (Below.refl z0.heap.size z0)).q0
    have q1 := (HZ.out.2.1.below (Below.refl z0.heap.size z0)).q1
    have q2 := (HZ.out.2.1.below (Below.refl z0.heap.size z0)).q2
    go_wp2_with fail
    refine (Ka.out _ (Below.refl z0.heap.size z0)).mono ?_
    rintro e z1 ⟨rfl, hb⟩
    have HB1 : Hid (Below z0.heap.size z0 z1) := Lib.hid (below_step (Below.refl z0.heap.size z0) hb)
    clear hb q0 q1 q2
    have q0 := (HZ.out.2.2.2.below HB1.out).q0
    have q1 := (HZ.out.2.2.2.below HB1.out).q1
    have q2 := (HZ.out.2.2.2.below HB1.out).q2
    go_wp2_with fail
    refine (Kx.out _ HB1.out).mono ?_
    rintro e z2 ⟨rfl, hb⟩
    have HB2 : Hid (Below z0.heap.size z0 z2) := Lib.hid (below_step HB1.out hb)
    clear hb q0 q1 q2
    have HN := Lib.hid (And.intro (below_step HZ.out.1 HB2.out) (And.intro (HZ.out.2.1.below HB2.out) (And.intro (HZ.out.2.2.1.below HB2.out) (HZ.out.2.2.2.below HB2.out))))
    clear HZ Ka Kb Kx HC HB1 HB2
    go_wp2
    go_roundg (256 - (k + 1))
    case measure => omega
    case rel => exact ⟨k + 1, by omega, by omega, by go_num, HN⟩
   ·
    skip
    have q0 := (HZ.out.2.1.below (Below.refl z0.heap.size z0)).q0
    have q1 := (HZ.out.2.1.below (Below.refl z0.heap.size z0)).q1
    have q2 := (HZ.out.2.1.below (Below.refl z0.heap.size z0)).q2
    go_wp2_with fail
    refine (Ka.out _ (Below.refl z0.heap.size z0)).mono ?_
    rintro e z1 ⟨rfl, hb⟩
    have HB1 : Hid (Below z0.heap.size z0 z1) := Lib.hid (below_step (Below.refl z0.heap.size z0) hb)
    clear hb q0 q1 q2
    have q0 := (HZ.out.2.2.2.below HB1.out).q0
    have q1 := (HZ.out.2.2.2.below HB1.out).q1
    have q2 := (HZ.out.2.2.2.below HB1.out).q2
    go_wp2_with fail
    refine (Kx.out _ HB1.out).mono ?_
    rintro e z2 ⟨rfl, hb⟩
    have HB2 : Hid (Below z0.heap.size z0 z2) := Lib.hid (below_step HB1.out hb)
    clear hb q0 q1 q2
    have q0 := (HZ.out.2.1.below HB2.out).q0
    have q1 := (HZ.out.2.1.below HB2.out).q1
    have q2 := (HZ.out.2.1.below HB2.out).q2
    go_wp2_with fail
    refine (Ka.out _ HB2.out).mono ?_
    rintro e z3 ⟨rfl, hb⟩
    have HB3 : Hid (Below z0.heap.size z0 z3) := Lib.hid (below_step HB2.out hb)
    clear hb q0 q1 q2
    have q0 := (HZ.out.2.2.1.below HB3.out).q0
    have q1 := (HZ.out.2.2.1.below HB3.out).q1
    have q2 := (HZ.out.2.2.1.below HB3.out).q2
    go_wp2_with fail
    refine (Kb.out _ HB3.out).mono ?_
    rintro e z4 ⟨rfl, hb⟩
    have HB4 : Hid (Below z0.heap.size z0 z4) := Lib.hid (below_step HB3.out hb)
    clear hb q0 q1 q2
    have HN := Lib.hid (And.intro (below_step HZ.out.1 HB4.out) (And.intro (HZ.out.2.1.below HB4.out) (And.intro (HZ.out.2.2.1.below HB4.out) (HZ.out.2.2.2.below HB4.out))))
    clear HZ Ka Kb Kx HC HB1 HB2 HB3 HB4
    go_wp2
    go_roundg (256 - (k + 1))
    case measure => omega
    case rel => exact ⟨k + 1, by omega, by omega, by go_num, HN⟩
  ·
   have h1 : decide ((k : Int) < 256) = false := decide_eq_false (by omega)
   go_wp2
   go_ret
   exact ⟨rfl, HR.out.1⟩

end Go.Proofs.Ytmcljhjmmipagaa.PL
