/- The law FlatPreserves answers true. -/
import Derived.Test.YtphegiohkggddaaDoorValuesG
namespace Go.Proofs.YtphegiohkggddaaDoor.PF
open Go.RowKit Go.Proofs.YtphegiohkggddaaDoorW.PrintWords Go.Proofs.YtphegiohkggddaaDoorW.PrintLast Go.Proofs.YtphegiohkggddaaDoorW.PrintMore
set_option linter.unusedVariables false
set_option linter.unusedSimpArgs false

set_option maxHeartbeats 4000000 in
theorem preserves_walk (t : S24) (A : List Bool) (A0 : Option Addr) (c0 : Nat) (A1 : Option Addr) (c1 : Nat) (w : World) (hC : k24.C w A0 t.f3.length t.f3) (hc0 : t.f3.length ≤ c0) (hA : Kd.C Kd.bool w A1 A.length A) (hc1 : A.length ≤ c1) (hL : Laid w) (hf : fitB t = true)
    (kf : Nat) (b : Bool) (hfew : chalklinelaw11_few.f kf t.f0 t.f1 t.f2 t.f3 A = some b) (hcase : check_val 65536 t = 0 → made_fit t = true ∧ check_val 65536 (made_val t) = 0 ∧ fitB (made_val t) = true ∧ flat_val A (made_val t) = flat_val A t) :
    Calls Tryd.prog 5 #[.agg #[.int .i64 t.f0, .int .i64 t.f1, .int .i64 t.f2, .slice A0 t.f3.length c0], .slice A1 A.length c1] w fun e w' => e = .returned (.bool true) ∧ Below w.heap.size w w' := by
  have hu24 := Tryd.underlying24
  have hb0 := (Below.refl w.heap.size w).alloc (Nat.le_refl _) (.cells #[.int .i64 t.f0, .int .i64 t.f1, .int .i64 t.f2, .slice A0 t.f3.length c0] 24)
  have hx0 : TBox (w.alloc (.cells #[.int .i64 t.f0, .int .i64 t.f1, .int .i64 t.f2, .slice A0 t.f3.length c0] 24)) w.heap.size t A0 c0 := World.alloc_heap_new w _
  have HB0 := Lib.hid hb0
  have HX0 := Lib.hid hx0
  have HL := Lib.hid (hL.below hb0)
  have HC := Lib.hid hC
  have HA := Lib.hid hA
  have HCASE := Lib.hid hcase
  have HL0 := Lib.hid hL
  clear hb0 hx0 hL hC hA hcase
  go_enter Tryd.func5, Tryd.ntmps5
  go_wp2_with fail
  refine (live_walk _ HL.out).mono ?_
  rintro e w2 ⟨rfl, hb2⟩
  have HX2 := Lib.hid (HX0.out.below hb2)
  have HB2 := Lib.hid (below_step HB0.out hb2)
  clear hb2 HB0 HX0 HL
  have e0 := HX2.out.e0
  have e1 := HX2.out.e1
  have e2 := HX2.out.e2
  have e3 := HX2.out.e3
  go_wp2_with fail
  refine (chalklinelaw11_few.calls kf t.f0 t.f1 t.f2 A0 c0 t.f3 A1 c1 A b w2 (Kd.C_below HC.out HB2.out) hc0 (Kd.C_below HA.out HB2.out) hc1 hfew).mono ?_
  rintro e w3 ⟨rfl, hb3⟩
  have HX3 := Lib.hid (HX2.out.below hb3)
  have HB3 := Lib.hid (below_step HB2.out hb3)
  clear hb3 HX2 HB2 e0 e1 e2 e3 hfew
  cases b with
  | false =>
    go_wp2
    go_ret
    exact ⟨rfl, HB3.out⟩
  | true =>
    have e0 := HX3.out.e0
    have e1 := HX3.out.e1
    have e2 := HX3.out.e2
    have e3 := HX3.out.e3
    have k := Check_calls t 65536 A0 c0 w3 (Kd.C_below HC.out HB3.out) hc0
    by_cases hc : check_val 65536 t = 0
    · obtain ⟨h1, h2, h3, h4⟩ := HCASE.out hc
      rw [hc] at k
      have K := Lib.hid k
      have hsv : simple_val t = made_val t := by unfold simple_val; rw [if_pos hc]
      clear k hc HCASE
      go_wp2_with fail
      refine K.out.mono ?_
      rintro e w4 ⟨rfl, hb4⟩
      have HX4 := Lib.hid (HX3.out.below hb4)
      have HB4 := Lib.hid (below_step HB3.out hb4)
      clear hb4 HX3 HB3 e0 e1 e2 e3 K
      have e0 := HX4.out.e0
      have e1 := HX4.out.e1
      have e2 := HX4.out.e2
      have e3 := HX4.out.e3
      have k := Simple_C t (made_val t) A0 c0 w4 (Kd.C_below HC.out HB4.out) hc0 (HL0.out.below HB4.out) h1 hsv
      generalize made_val t = x at k h2 h3 h4
      have K := Lib.hid k
      have H2 := Lib.hid h2
      have H3 := Lib.hid h3
      have H4 := Lib.hid h4
      have HF := Lib.hid hf
      clear k hsv h1 h2 h3 h4 hf
      go_wp2_with fail
      refine K.out.mono ?_
      rintro e w5 ⟨A2, c2, rfl, hc2, hC2, hb5⟩
      have HX5 := Lib.hid ((HX4.out.below hb5).below ((Below.refl w5.heap.size w5).alloc (Nat.le_refl _) (.cells #[.int .i64 x.f0, .int .i64 x.f1, .int .i64 x.f2, .slice A2 x.f3.length c2] 24)))
      have HB5 := Lib.hid ((below_step HB4.out hb5).trans (((Below.refl w5.heap.size w5).alloc (Nat.le_refl _) (.cells #[.int .i64 x.f0, .int .i64 x.f1, .int .i64 x.f2, .slice A2 x.f3.length c2] 24)).mono (below_step HB4.out hb5).size))
      have HY5 : Hid (TBox (w5.alloc (.cells #[.int .i64 x.f0, .int .i64 x.f1, .int .i64 x.f2, .slice A2 x.f3.length c2] 24)) w5.heap.size x A2 c2) := Lib.hid (World.alloc_heap_new w5 _)
      have HC5 := Lib.hid (Kd.C_below hC2 ((Below.refl w5.heap.size w5).alloc (Nat.le_refl _) (.cells #[.int .i64 x.f0, .int .i64 x.f1, .int .i64 x.f2, .slice A2 x.f3.length c2] 24)))
      clear hb5 HX4 HB4 e0 e1 e2 e3 K hC2
      go_wp2
      generalize hw6 : w5.alloc (.cells #[.int .i64 x.f0, .int .i64 x.f1, .int .i64 x.f2, .slice A2 x.f3.length c2] 24) = w6 at HX5 HB5 HY5 HC5
      have k1 : ∀ W, Below w6.heap.size w6 W → Calls Tryd.prog 17 #[.agg #[.int .i64 x.f0, .int .i64 x.f1, .int .i64 x.f2, .slice A2 x.f3.length c2], .int .i64 65536] W fun e w' => e = .returned (.int .i64 0) ∧ Below W.heap.size W w' :=
        fun W hW => H2.out ▸ Check_calls x 65536 A2 c2 W (Kd.C_below HC5.out hW) hc2
      have k2 : ∀ W, Below w6.heap.size w6 W → Calls Tryd.prog 12 #[.agg #[.int .i64 x.f0, .int .i64 x.f1, .int .i64 x.f2, .slice A2 x.f3.length c2], .slice A1 A.length c1] W fun e w' => e = .returned (.bool (flat_val A t)) ∧ Below W.heap.size W w' :=
        fun W hW => H4.out ▸ value_at A x A2 c2 A1 c1 W (Kd.C_below HC5.out hW) hc2 (Kd.C_below (Kd.C_below HA.out HB5.out) hW) hc1 H3.out
      have k3 : ∀ W, Below w6.heap.size w6 W → Calls Tryd.prog 12 #[.agg #[.int .i64 t.f0, .int .i64 t.f1, .int .i64 t.f2, .slice A0 t.f3.length c0], .slice A1 A.length c1] W fun e w' => e = .returned (.bool (flat_val A t)) ∧ Below W.heap.size W w' :=
        fun W hW => value_at A t A0 c0 A1 c1 W (Kd.C_below (Kd.C_below HC.out HB5.out) hW) hc0 (Kd.C_below (Kd.C_below HA.out HB5.out) hW) hc1 HF.out
      generalize flat_val A t = r at k2 k3 H4
      have K1 := Lib.hid k1
      have K2 := Lib.hid k2
      have K3 := Lib.hid k3
      clear k1 k2 k3 H2 H3 H4
      have hes := HX5.out.es
      have hey := HY5.out.es
      try simp only [hw6]
      go_region_held3 (fun W => (W.cell? ⟨w.heap.size, 0, none⟩ = some (.int .i64 t.f0) ∧ W.cell? ⟨w.heap.size, 1, none⟩ = some (.int .i64 t.f1) ∧ W.cell? ⟨w.heap.size, 2, none⟩ = some (.int .i64 t.f2) ∧ W.cell? ⟨w.heap.size, 3, none⟩ = some (.slice A0 t.f3.length c0)) ∧ (W.cell? ⟨w5.heap.size, 0, none⟩ = some (.int .i64 x.f0) ∧ W.cell? ⟨w5.heap.size, 1, none⟩ = some (.int .i64 x.f1) ∧ W.cell? ⟨w5.heap.size, 2, none⟩ = some (.int .i64 x.f2) ∧ W.cell? ⟨w5.heap.size, 3, none⟩ = some (.slice A2 x.f3.length c2))) (first | exact ⟨(HX5.out.below HB9.out).es, (HY5.out.below HB9.out).es⟩ | exact ⟨(HX5.out.below HB8.out).es, (HY5.out.below HB8.out).es⟩ | exact ⟨(HX5.out.below HB7.out).es, (HY5.out.below HB7.out).es⟩ | exact ⟨hes, hey⟩ | go_keep)
        (first
          | (go_at_call 17; refine (K1.out _ (by repeat (first | exact Below.refl _ _ | apply pw_below_drewN | apply below_drew1))).mono ?_; clear K1; rintro e w7 ⟨rfl, hb7⟩; have HB7 : Hid (Below w6.heap.size w6 w7) := Lib.hid (below_step (by repeat (first | exact Below.refl _ _ | apply pw_below_drewN | apply below_drew1)) hb7); clear hb7)
          | (go_at_call 12; refine (K2.out _ (by repeat (first | exact HB7.out | apply pw_below_drewN | apply below_drew1))).mono ?_; clear K2; rintro e w8 ⟨rfl, hb8⟩; have HB8 : Hid (Below w6.heap.size w6 w8) := Lib.hid (below_step (by repeat (first | exact HB7.out | apply pw_below_drewN | apply below_drew1)) hb8); clear hb8)
          | (go_at_call 12; refine (K3.out _ (by repeat (first | exact HB8.out | apply pw_below_drewN | apply below_drew1))).mono ?_; clear K3; rintro e w9 ⟨rfl, hb9⟩; have HB9 : Hid (Below w6.heap.size w6 w9) := Lib.hid (below_step (by repeat (first | exact HB8.out | apply pw_below_drewN | apply below_drew1)) hb9); clear hb9))
      go_wp2
      go_ret
      exact ⟨by simp, below_step HB5.out HB9.out⟩
    · have hcb : (check_val 65536 t != 0) = true := bne_iff_ne.2 hc
      generalize check_val 65536 t = v at k hcb
      have K := Lib.hid k
      clear k hc HCASE
      go_wp2_with fail
      refine K.out.mono ?_
      rintro e w4 ⟨rfl, hb4⟩
      have HB4 := Lib.hid (below_step HB3.out hb4)
      clear hb4 HX3 HB3 e0 e1 e2 e3 K
      go_wp2
      go_ret
      exact ⟨rfl, HB4.out⟩

end Go.Proofs.YtphegiohkggddaaDoor.PF
