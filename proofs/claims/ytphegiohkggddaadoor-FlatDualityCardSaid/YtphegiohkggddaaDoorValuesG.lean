/- The law FlatValues answers true. -/
import Derived.Test.YtphegiohkggddaaDoorLiveG
import Derived.Test.YtphegiohkggddaaDoorPFa
namespace Go.Proofs.YtphegiohkggddaaDoor.PF
open Go.RowKit Go.Proofs.YtphegiohkggddaaDoorW.PrintWords Go.Proofs.YtphegiohkggddaaDoorW.PrintLast Go.Proofs.YtphegiohkggddaaDoorW.PrintMore
set_option linter.unusedVariables false
set_option linter.unusedSimpArgs false

/-- A tree's box. -/
def TBox (W : World) (B : Nat) (t : S24) (A : Option Addr) (c : Nat) : Prop := W.heap[B]? = some (.cells #[.int .i64 t.f0, .int .i64 t.f1, .int .i64 t.f2, .slice A t.f3.length c] 24 (0, 0))
theorem TBox.e0 {W B t A c} (h : TBox W B t A c) : W.cell? ⟨B, 0, none⟩ = some (.int .i64 t.f0) := blk_cell h 0
theorem TBox.e1 {W B t A c} (h : TBox W B t A c) : W.cell? ⟨B, 1, none⟩ = some (.int .i64 t.f1) := blk_cell h 1
theorem TBox.e2 {W B t A c} (h : TBox W B t A c) : W.cell? ⟨B, 2, none⟩ = some (.int .i64 t.f2) := blk_cell h 2
theorem TBox.e3 {W B t A c} (h : TBox W B t A c) : W.cell? ⟨B, 3, none⟩ = some (.slice A t.f3.length c) := blk_cell h 3
theorem TBox.es {W B t A c} (h : TBox W B t A c) : W.cell? ⟨B, 0, none⟩ = some (.int .i64 t.f0) ∧ W.cell? ⟨B, 1, none⟩ = some (.int .i64 t.f1) ∧ W.cell? ⟨B, 2, none⟩ = some (.int .i64 t.f2) ∧ W.cell? ⟨B, 3, none⟩ = some (.slice A t.f3.length c) := ⟨h.e0, h.e1, h.e2, h.e3⟩
theorem TBox.below {W W' B t A c} (h : TBox W B t A c) (hb : Below W.heap.size W W') : TBox W' B t A c := (hb.block _ (Array.getElem?_eq_some_iff.1 h).1).trans h
theorem TBox.lt {W B t A c} (h : TBox W B t A c) : B < W.heap.size := (Array.getElem?_eq_some_iff.1 h).1

set_option maxHeartbeats 4000000 in
theorem values_walk (t : S24) (A : List Bool) (A0 : Option Addr) (c0 : Nat) (A1 : Option Addr) (c1 : Nat) (w : World) (hC : k24.C w A0 t.f3.length t.f3) (hc0 : t.f3.length ≤ c0) (hA : Kd.C Kd.bool w A1 A.length A) (hc1 : A.length ≤ c1) (hL : Laid w) (hf : fitB t = true)
    (kf : Nat) (b : Bool) (hfew : chalklinelaw11_few.f kf t.f0 t.f1 t.f2 t.f3 A = some b) (kv : Nat) (hval : chalklineref11_Value.f kv t.f0 t.f1 t.f2 t.f3 A = some (flat_val A t)) :
    Calls Tryd.prog 3 #[.agg #[.int .i64 t.f0, .int .i64 t.f1, .int .i64 t.f2, .slice A0 t.f3.length c0], .slice A1 A.length c1] w fun e w' => e = .returned (.bool true) ∧ Below w.heap.size w w' := by
  have hu24 := Tryd.underlying24
  have hb0 := (Below.refl w.heap.size w).alloc (Nat.le_refl _) (.cells #[.int .i64 t.f0, .int .i64 t.f1, .int .i64 t.f2, .slice A0 t.f3.length c0] 24)
  have hx0 : TBox (w.alloc (.cells #[.int .i64 t.f0, .int .i64 t.f1, .int .i64 t.f2, .slice A0 t.f3.length c0] 24)) w.heap.size t A0 c0 := World.alloc_heap_new w _
  have hs0 : w.heap.size < (w.alloc (.cells #[.int .i64 t.f0, .int .i64 t.f1, .int .i64 t.f2, .slice A0 t.f3.length c0] 24)).heap.size := by simp
  have HB0 := Lib.hid hb0
  have HX0 := Lib.hid hx0
  have HL := Lib.hid (hL.below hb0)
  have HC := Lib.hid hC
  have HA := Lib.hid hA
  clear hb0 hx0 hL hC hA
  go_enter Tryd.func3, Tryd.ntmps3
  go_wp2_with fail
  refine (live_walk _ HL.out).mono ?_
  rintro e w2 ⟨rfl, hb2⟩
  have HX2 := Lib.hid (HX0.out.below hb2)
  have HB2 := Lib.hid (below_step HB0.out hb2)
  clear hb2 HB0 HX0 HL hs0
  have e0 := HX2.out.e0
  have e1 := HX2.out.e1
  have e2 := HX2.out.e2
  have e3 := HX2.out.e3
  go_wp2_with fail
  refine (chalklinelaw11_few.calls kf t.f0 t.f1 t.f2 A0 c0 t.f3 A1 c1 A b w2 (Kd.C_below HC.out HB2.out) hc0 (Kd.C_below HA.out HB2.out) hc1 hfew).mono ?_
  rintro e w3 ⟨rfl, hb3⟩
  have HX3 := Lib.hid (HX2.out.below hb3)
  have HB3 := Lib.hid (below_step HB2.out hb3)
  clear hb3 HX2 HB2 e0 e1 e2 e3
  cases b with
  | false =>
    go_wp2
    go_ret
    exact ⟨rfl, HB3.out⟩
  | true =>
    have e0 := HX3.out.e0
    have e1 := HX3.out.e1
    have e2 := HX3.out.e2
    have e3 := HX3.out.e3
    have k1 : ∀ W, Below w3.heap.size w3 W → Calls Tryd.prog 12 #[.agg #[.int .i64 t.f0, .int .i64 t.f1, .int .i64 t.f2, .slice A0 t.f3.length c0], .slice A1 A.length c1] W fun e w' => e = .returned (.bool (flat_val A t)) ∧ Below W.heap.size W w' :=
      fun W hW => value_at A t A0 c0 A1 c1 W (Kd.C_below (Kd.C_below HC.out HB3.out) hW) hc0 (Kd.C_below (Kd.C_below HA.out HB3.out) hW) hc1 hf
    have k2 : ∀ W, Below w3.heap.size w3 W → Calls Tryd.prog 13 #[.agg #[.int .i64 t.f0, .int .i64 t.f1, .int .i64 t.f2, .slice A0 t.f3.length c0], .slice A1 A.length c1] W fun e w' => e = .returned (.bool (flat_val A t)) ∧ Below W.heap.size W w' :=
      fun W hW => chalklineref11_Value.calls kv t.f0 t.f1 t.f2 A0 c0 t.f3 A1 c1 A _ W (Kd.C_below (Kd.C_below HC.out HB3.out) hW) hc0 (Kd.C_below (Kd.C_below HA.out HB3.out) hW) hc1 hval
    generalize flat_val A t = r at k1 k2
    have K1 := Lib.hid k1
    have K2 := Lib.hid k2
    have HW := Lib.hid (Below.refl w3.heap.size w3)
    clear k1 k2 hval hfew
    go_wp2
    go_region_held3 (fun W => W.cell? ⟨w.heap.size, 0, none⟩ = some (.int .i64 t.f0) ∧ W.cell? ⟨w.heap.size, 1, none⟩ = some (.int .i64 t.f1) ∧ W.cell? ⟨w.heap.size, 2, none⟩ = some (.int .i64 t.f2) ∧ W.cell? ⟨w.heap.size, 3, none⟩ = some (.slice A0 t.f3.length c0)) (first | exact (HX3.out.below HB5.out).es | exact (HX3.out.below HB4.out).es | go_keep)
      (first
        | (go_at_call 12; refine (K1.out _ (by repeat (first | exact Below.refl _ _ | apply pw_below_drewN | apply below_drew1))).mono ?_; rintro e w4 ⟨rfl, hb4⟩; have HB4 : Hid (Below w3.heap.size w3 w4) := Lib.hid (below_step (by repeat (first | exact Below.refl _ _ | apply pw_below_drewN | apply below_drew1)) hb4); clear hb4)
        | (go_at_call 13; refine (K2.out _ (by repeat (first | exact HB4.out | apply pw_below_drewN | apply below_drew1))).mono ?_; rintro e w5 ⟨rfl, hb5⟩; have HB5 : Hid (Below w3.heap.size w3 w5) := Lib.hid (below_step (by repeat (first | exact HB4.out | apply pw_below_drewN | apply below_drew1)) hb5); clear hb5))
    go_wp2
    go_ret
    exact ⟨by simp, below_step HB3.out HB5.out⟩

end Go.Proofs.YtphegiohkggddaaDoor.PF
