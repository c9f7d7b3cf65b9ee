/- flat.Simple answers what 'simple_val' says. -/
import Derived.Test.YtphegiohkggddaaDoorMadeG
namespace Go.Proofs.YtphegiohkggddaaDoor.PF
open Go.RowKit Go.Proofs.YtphegiohkggddaaDoorW.PrintWords Go.Proofs.YtphegiohkggddaaDoorW.PrintLast Go.Proofs.YtphegiohkggddaaDoorW.PrintMore
set_option linter.unusedVariables false
set_option linter.unusedSimpArgs false

/-- What flat.Simple answers. -/
def simple_val (t : S24) : S24 := if check_val 65536 t = 0 then made_val t else z24

set_option maxHeartbeats 4000000 in
theorem Simple_calls (t : S24) (P : Nat → Prop) (A : Option Addr) (c : Nat) (w : World) (hV : Kd.V k24 24 w w.heap.size P (.slice A t.f3.length c) t.f3) (hL : Laid w) (hfit : check_val 65536 t = 0 → made_fit t = true) :
    Calls Tryd.prog 15 #[.agg #[.int .i64 t.f0, .int .i64 t.f1, .int .i64 t.f2, .slice A t.f3.length c]] w fun e w' => ∃ v3 : Value, e = .returned (.agg #[.int .i64 (simple_val t).f0, .int .i64 (simple_val t).f1, .int .i64 (simple_val t).f2, v3]) ∧ Kd.V k24 24 w' w.heap.size (fun k => P k ∨ w.heap.size ≤ k) v3 (simple_val t).f3 ∧ Below w.heap.size w w' := by
  have hu24 := Tryd.underlying24
  generalize hr0 : simple_val t = r
  obtain ⟨w0, hw0⟩ : ∃ w0, (w.alloc (.cells #[.int .i64 t.f0, .int .i64 t.f1, .int .i64 t.f2, .slice A t.f3.length c] 24)).alloc (.cells #[.int .i64 0, .int .i64 0, .int .i64 0, .slice none 0 0] 24) = w0 := ⟨_, rfl⟩
  obtain ⟨hs0, hb0, hL0, hq1, hq2⟩ := made_boxes t.f0 t.f1 t.f2 A t.f3.length c w hL hw0
  have HV := Lib.hid (Kd.V_bound hV)
  have k := Check_calls t 65536 A c w0 (Kd.C_below (Kd.V_reads' hV).2.2 hb0) (Kd.V_reads' hV).2.1
  have HFIT := Lib.hid hfit
  have HR0 := Lib.hid hr0
  have HB0 := Lib.hid hb0
  have HL0 := Lib.hid hL0
  have HQ1 := Lib.hid hq1
  have HQ2 := Lib.hid hq2
  have e0 : w0.cell? ⟨w.heap.size, 0, none⟩ = some (.int .i64 t.f0) := (blk_cell hq1 0).trans rfl
  have e1 : w0.cell? ⟨w.heap.size, 1, none⟩ = some (.int .i64 t.f1) := (blk_cell hq1 1).trans rfl
  have e2 : w0.cell? ⟨w.heap.size, 2, none⟩ = some (.int .i64 t.f2) := (blk_cell hq1 2).trans rfl
  have e3 : w0.cell? ⟨w.heap.size, 3, none⟩ = some (.slice A t.f3.length c) := (blk_cell hq1 3).trans rfl
  clear hV hfit hr0 hb0 hL0 hq1 hq2 hL
  by_cases hc : check_val 65536 t = 0
  · rw [hc] at k
    have hr := HR0.out
    rw [simple_val, if_pos hc] at hr
    have HFM := Lib.hid (HFIT.out hc)
    have HRM := Lib.hid hr
    clear hr HFIT HR0 hc
    have K := Lib.hid k
    clear k
    go_enter Tryd.func15, Tryd.ntmps15
    go_wp2_with fail
    refine K.out.mono ?_
    rintro e w2 ⟨rfl, hb2⟩
    have hs2 := hb2.size
    have HW2 := Lib.hid (below_step HB0.out hb2)
    have hp := (hb2.block _ (by omega)).trans HQ1.out
    have HQ2' := Lib.hid ((hb2.block _ (by omega)).trans HQ2.out)
    have g0 : w2.cell? ⟨w.heap.size, 0, none⟩ = some (.int .i64 t.f0) := (blk_cell hp 0).trans rfl
    have g1 : w2.cell? ⟨w.heap.size, 1, none⟩ = some (.int .i64 t.f1) := (blk_cell hp 1).trans rfl
    have g2 : w2.cell? ⟨w.heap.size, 2, none⟩ = some (.int .i64 t.f2) := (blk_cell hp 2).trans rfl
    have g3 : w2.cell? ⟨w.heap.size, 3, none⟩ = some (.slice A t.f3.length c) := (blk_cell hp 3).trans rfl
    have k2 := made_at t (fun k => P k ∧ k < w.heap.size) A c w2 (Kd.V_map (Kd.V_below HV.out HW2.out) (fun _ hf => hf)) (HL0.out.below hb2) HFM.out
    rw [HRM.out] at k2
    have K2 := Lib.hid k2
    clear k2 hp hb2 e0 e1 e2 e3
    go_wp2_with (first | (go_at_call 31; refine K2.out.mono ?_; rintro e w8 ⟨v8, rfl, hV8, hb8⟩; obtain ⟨A8, c8, hv8⟩ := Kd.V_slice hV8; subst hv8; have hw8 := below_step HW2.out hb8; have q8 := (hb8.block _ (by omega)).trans HQ2'.out; have z0 : w8.cell? ⟨w.heap.size + 1, 0, none⟩ = some (.int .i64 0) := (blk_cell q8 0).trans rfl; have y0 := blk_frozen q8 0; have z1 : w8.cell? ⟨w.heap.size + 1, 1, none⟩ = some (.int .i64 0) := (blk_cell q8 1).trans rfl; have y1 := blk_frozen q8 1; have z2 : w8.cell? ⟨w.heap.size + 1, 2, none⟩ = some (.int .i64 0) := (blk_cell q8 2).trans rfl; have y2 := blk_frozen q8 2; have z3 : w8.cell? ⟨w.heap.size + 1, 3, none⟩ = some (.slice none 0 0) := (blk_cell q8 3).trans rfl; have y3 := blk_frozen q8 3))
    refine bodyPost_ret (results_cell_row rfl _ _ (w.heap.size + 1) 24 #[.int .i64 r.f0, .int .i64 r.f1, .int .i64 r.f2, .slice A8 r.f3.length c8] (0, 0) _ rfl (four_blk _ _ _ _ q8) Tryd.underlying24 rfl (by kernel_rfl)) rfl ?_
    exact ⟨_, rfl, Kd.V_mono (four_V _ _ _ _ (base := w.heap.size) hV8 (fun k hk => hk.elim (fun h => by have := h.2; omega) (fun h => by omega))) (fun k hk => hk.elim (fun h => .inl h.1) (fun h => .inr (by omega))), four_below _ _ _ _ hw8 (by omega)⟩
  · have hr := HR0.out
    rw [simple_val, if_neg hc] at hr
    have hcb : (check_val 65536 t != 0) = true := bne_iff_ne.2 hc
    have HRM := Lib.hid hr
    clear hr HFIT HR0 hc
    generalize check_val 65536 t = x at k hcb
    have K := Lib.hid k
    clear k
    go_enter Tryd.func15, Tryd.ntmps15
    go_wp2_with fail
    refine K.out.mono ?_
    rintro e w2 ⟨rfl, hb2⟩
    have hs2 := hb2.size
    have HW2 := Lib.hid (below_step HB0.out hb2)
    have q8 := (hb2.block _ (by omega)).trans HQ2.out
    have z0 : w2.cell? ⟨w.heap.size + 1, 0, none⟩ = some (.int .i64 0) := (blk_cell q8 0).trans rfl
    have y0 := blk_frozen q8 0
    have z1 : w2.cell? ⟨w.heap.size + 1, 1, none⟩ = some (.int .i64 0) := (blk_cell q8 1).trans rfl
    have y1 := blk_frozen q8 1
    have z2 : w2.cell? ⟨w.heap.size + 1, 2, none⟩ = some (.int .i64 0) := (blk_cell q8 2).trans rfl
    have y2 := blk_frozen q8 2
    have z3 : w2.cell? ⟨w.heap.size + 1, 3, none⟩ = some (.slice none 0 0) := (blk_cell q8 3).trans rfl
    have y3 := blk_frozen q8 3
    have HQ8 := Lib.hid q8
    clear q8 hb2 e0 e1 e2 e3
    go_wp2
    rw [← HRM.out]
    refine bodyPost_ret (results_cell_row rfl _ _ (w.heap.size + 1) 24 #[.int .i64 0, .int .i64 0, .int .i64 0, .slice none 0 0] (0, 0) _ rfl (four_blk _ _ _ _ HQ8.out) Tryd.underlying24 rfl (by kernel_rfl)) rfl ?_
    exact ⟨_, rfl, Kd.V_nil _ _ _ _ _, four_below _ _ _ _ HW2.out (by omega)⟩

end Go.Proofs.YtphegiohkggddaaDoor.PF
