/- The law FlatNormal answers true. -/
import Derived.Test.YtphegiohkggddaaDoorPlainG
namespace Go.Proofs.YtphegiohkggddaaDoor.PF
open Go.RowKit Go.Proofs.YtphegiohkggddaaDoorW.PrintWords Go.Proofs.YtphegiohkggddaaDoorW.PrintLast Go.Proofs.YtphegiohkggddaaDoorW.PrintMore
set_option linter.unusedVariables false
set_option linter.unusedSimpArgs false

set_option maxHeartbeats 4000000 in
theorem normal_walk (t : S24) (A0 : Option Addr) (c0 : Nat) (w : World) (hC : k24.C w A0 t.f3.length t.f3) (hc0 : t.f3.length ≤ c0) (hL : Laid w)
    (kf : Nat) (b : Bool) (hfew : chalklinelaw11_few.f kf t.f0 t.f1 t.f2 t.f3 [] = some b) (hcase : check_val 65536 t = 0 → made_fit t = true ∧ Norm (made_val t)) :
    Calls Tryd.prog 6 #[.agg #[.int .i64 t.f0, .int .i64 t.f1, .int .i64 t.f2, .slice A0 t.f3.length c0]] w fun e w' => e = .returned (.bool true) ∧ Below w.heap.size w w' := by
  have hu24 := Tryd.underlying24
  have hb0 := (Below.refl w.heap.size w).alloc (Nat.le_refl _) (.cells #[.int .i64 t.f0, .int .i64 t.f1, .int .i64 t.f2, .slice A0 t.f3.length c0] 24)
  have hx0 : TBox (w.alloc (.cells #[.int .i64 t.f0, .int .i64 t.f1, .int .i64 t.f2, .slice A0 t.f3.length c0] 24)) w.heap.size t A0 c0 := World.alloc_heap_new w _
  have HB0 := Lib.hid hb0
  have HX0 := Lib.hid hx0
  have HL := Lib.hid (hL.below hb0)
  have HC := Lib.hid hC
  have HCASE := Lib.hid hcase
  have HL0 := Lib.hid hL
  clear hb0 hx0 hL hC hcase
  go_enter Tryd.func6, Tryd.ntmps6
  go_wp2_with fail
  refine (live_walk _ HL.out).mono ?_
  rintro e w2 ⟨rfl, hb2⟩
  have HX2 := Lib.hid (HX0.out.below hb2)
  have HB2 := Lib.hid (below_step HB0.out hb2)
  clear hb2 HB0 HX0 HL
  have e0 := HX2.out.e0
  have e1 := HX2.out.e1
  have e2 := HX2.out.e2
  have e3 := HX2.out.e3
  go_wp2_with fail
  refine (chalklinelaw11_few.calls kf t.f0 t.f1 t.f2 A0 c0 t.f3 none 0 [] b w2 (Kd.C_below HC.out HB2.out) hc0 (Kd.C_nil _ _) (Nat.le_refl _) hfew).mono ?_
  rintro e w3 ⟨rfl, hb3⟩
  have HX3 := Lib.hid (HX2.out.below hb3)
  have HB3 := Lib.hid (below_step HB2.out hb3)
  clear hb3 HX2 HB2 e0 e1 e2 e3 hfew
  cases b with
  | false =>
    go_wp2
    go_ret
    exact ⟨rfl, HB3.out⟩
  | true =>
    have e0 := HX3.out.e0
    have e1 := HX3.out.e1
    have e2 := HX3.out.e2
    have e3 := HX3.out.e3
    have k := Check_calls t 65536 A0 c0 w3 (Kd.C_below HC.out HB3.out) hc0
    by_cases hc : check_val 65536 t = 0
    · obtain ⟨h1, h2⟩ := HCASE.out hc
      rw [hc] at k
      have K := Lib.hid k
      have hsv : simple_val t = made_val t := by unfold simple_val; rw [if_pos hc]
      clear k hc HCASE
      go_wp2_with fail
      refine K.out.mono ?_
      rintro e w4 ⟨rfl, hb4⟩
      have HX4 := Lib.hid (HX3.out.below hb4)
      have HB4 := Lib.hid (below_step HB3.out hb4)
      clear hb4 HX3 HB3 e0 e1 e2 e3 K
      have e0 := HX4.out.e0
      have e1 := HX4.out.e1
      have e2 := HX4.out.e2
      have e3 := HX4.out.e3
      have k := Simple_C t (made_val t) A0 c0 w4 (Kd.C_below HC.out HB4.out) hc0 (HL0.out.below HB4.out) h1 hsv
      generalize made_val t = x at k h2
      have K := Lib.hid k
      have H2 := Lib.hid h2
      clear k hsv h1 h2
      go_wp2_with fail
      refine K.out.mono ?_
      rintro e w5 ⟨A2, c2, rfl, hc2, hC2, hb5⟩
      have HB5 := Lib.hid ((below_step HB4.out hb5).trans (((Below.refl w5.heap.size w5).alloc (Nat.le_refl _) (.cells #[.int .i64 x.f0, .int .i64 x.f1, .int .i64 x.f2, .slice A2 x.f3.length c2] 24)).mono (below_step HB4.out hb5).size))
      have HC5 := Lib.hid (Kd.C_below hC2 ((Below.refl w5.heap.size w5).alloc (Nat.le_refl _) (.cells #[.int .i64 x.f0, .int .i64 x.f1, .int .i64 x.f2, .slice A2 x.f3.length c2] 24)))
      have hbig := hC2.2.1
      have HC2 := Lib.hid hc2
      clear hb5 HX4 HB4 e0 e1 e2 e3 K hC2 hc2
      rcases H2.out with ⟨f1, f2⟩ | hp
      · have hk1 : (x.f0 == 1) = true := beq_iff_eq.2 f1
        have hl0 : ((x.f3.length : Int) == 0) = true := by rw [f2]; rfl
        clear f1 f2 H2
        go_wp2
        go_ret
        exact ⟨rfl, HB5.out⟩
      · have hk1 : (x.f0 == 1) = false := beq_eq_false_iff_ne.2 (plain_not1 hp)
        have kp := plain_at x A2 c2 _ HC5.out HC2.out hp
        have KP := Lib.hid kp
        clear kp hp H2
        go_wp2_with fail
        refine KP.out.mono ?_
        rintro e w6 ⟨rfl, hb6⟩
        go_wp2
        go_ret
        exact ⟨rfl, below_step HB5.out hb6⟩
    · have hcb : (check_val 65536 t != 0) = true := bne_iff_ne.2 hc
      generalize check_val 65536 t = v at k hcb
      have K := Lib.hid k
      clear k hc HCASE
      go_wp2_with fail
      refine K.out.mono ?_
      rintro e w4 ⟨rfl, hb4⟩
      have HB4 := Lib.hid (below_step HB3.out hb4)
      clear hb4 HX3 HB3 e0 e1 e2 e3 K
      go_wp2
      go_ret
      exact ⟨rfl, HB4.out⟩

end Go.Proofs.YtphegiohkggddaaDoor.PF
