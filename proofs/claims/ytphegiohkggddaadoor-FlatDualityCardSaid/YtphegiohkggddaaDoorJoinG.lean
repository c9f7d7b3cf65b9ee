/- The predicate that join hands over, which reads the table idle. -/
import Derived.Test.YtphegiohkggddaaDoorKnownG
import Derived.Test.YtphegiohkggddaaDoorKeptG
namespace Go.Proofs.YtphegiohkggddaaDoor.PF
open Go.RowKit Go.Proofs.YtphegiohkggddaaDoorW.PrintWords Go.Proofs.YtphegiohkggddaaDoorW.PrintLast Go.Proofs.YtphegiohkggddaaDoorW.PrintMore
set_option linter.unusedVariables false
set_option linter.unusedSimpArgs false

/-- The table idle, at the kinds that join is called with. -/
def Laid (w : World) : Prop := w.cell? ⟨0, 4, none⟩ = some (.int .i64 1) ∧ w.cell? ⟨0, 5, none⟩ = some (.int .i64 0)
theorem Laid.below {w w' : World} (h : Laid w) (hb : Below w.heap.size w w') : Laid w' :=
  ⟨(hb.cell (World.block_lt_of_cell? w _ h.1)).trans h.1, (hb.cell (World.block_lt_of_cell? w _ h.2)).trans h.2⟩
theorem eg54 : ∀ args w, (callFunc 54 args).run Tryd.prog w = .ok (.enter 54 args) w := enters_of Tryd.func54 (by kernel_rfl) rfl
/-- The neutral constant of the kind. -/
def idleV (kd : Int) : Int := if kd = 4 then 1 else 0

set_option maxHeartbeats 2000000 in
theorem off_calls (t : S24) (A : Option Addr) (c : Nat) (w : World) (B : Nat) (kd v : Int) (hB : w.cell? ⟨B, 0, none⟩ = some (.int .i64 kd)) (hk : kd = 4 ∨ kd = 5) (hg : w.cell? ⟨0, kd.toNat, none⟩ = some (.int .i64 v)) :
    Calls Tryd.prog 54 #[.agg #[.int .i64 t.f0, .int .i64 t.f1, .int .i64 t.f2, .slice A t.f3.length c], .pointer (some ⟨B, 0, none⟩)] w fun e w' => e = .returned (.bool (if t.f0 = 1 then t.f1 != v else false)) ∧ Below w.heap.size w w' := by
  have hu24 := Tryd.underlying24
  have hb := (Below.refl w.heap.size w).alloc (Nat.le_refl _) (.cells #[.int .i64 t.f0, .int .i64 t.f1, .int .i64 t.f2, .slice A t.f3.length c] 24)
  have HB := Lib.hid hb
  have hBl := World.block_lt_of_cell? w _ hB
  have hGl := World.block_lt_of_cell? w _ hg
  have k := known_calls t A c (w.alloc (.cells #[.int .i64 t.f0, .int .i64 t.f1, .int .i64 t.f2, .slice A t.f3.length c] 24)).drew
  have hB2 := (hb.cell (p := ⟨B, 0, none⟩) hBl).trans hB
  have hg2 := (hb.cell (p := ⟨0, kd.toNat, none⟩) hGl).trans hg
  have HBL := Lib.hid hBl
  have HGL := Lib.hid hGl
  clear hB hg hb hBl hGl
  by_cases h : t.f0 = 1
  · rw [if_pos h]
    rw [show (t.f0 == 1) = true from beq_iff_eq.2 h] at k
    have K := Lib.hid k
    clear h k
    rcases hk with rfl | rfl
    · have hg3 : (w.alloc (.cells #[.int .i64 t.f0, .int .i64 t.f1, .int .i64 t.f2, .slice A t.f3.length c] 24)).cell? ⟨0, 4, none⟩ = some (.int .i64 v) := hg2
      have HB2 := Lib.hid hB2
      have HG3 := Lib.hid hg3
      clear hg2
      go_enter Tryd.func54, Tryd.ntmps54
      go_wp2
      go_region_held3 (fun w' => w'.cell? ⟨B, 0, none⟩ = some (.int .i64 4) ∧ w'.cell? ⟨0, 4, none⟩ = some (.int .i64 v) ∧ w'.cell? ⟨w.heap.size, 0, none⟩ = some (.int .i64 t.f0) ∧ w'.cell? ⟨w.heap.size, 1, none⟩ = some (.int .i64 t.f1) ∧ w'.cell? ⟨w.heap.size, 2, none⟩ = some (.int .i64 t.f2) ∧ w'.cell? ⟨w.heap.size, 3, none⟩ = some (.slice A t.f3.length c)) (first | exact ⟨r0, r1, r3, r2, r4, r5⟩ | go_keep) (first | (go_at_call 44; refine K.out.mono ?_; rintro e w' ⟨rfl, hb3⟩; have r0 := (hb3.cell (p := ⟨B, 0, none⟩) (by have := HBL.out; first | (simp; done) | (simp; omega))).trans HB2.out; have r1 := (hb3.cell (p := ⟨0, 4, none⟩) (by have := HGL.out; first | (simp; done) | (simp; omega))).trans HG3.out; have r2 : w'.cell? ⟨w.heap.size, 1, none⟩ = some (.int .i64 t.f1) := (hb3.cell (p := ⟨w.heap.size, 1, none⟩) (by simp)).trans (by simp); have r3 : w'.cell? ⟨w.heap.size, 0, none⟩ = some (.int .i64 t.f0) := (hb3.cell (p := ⟨w.heap.size, 0, none⟩) (by simp)).trans (by simp); have r4 : w'.cell? ⟨w.heap.size, 2, none⟩ = some (.int .i64 t.f2) := (hb3.cell (p := ⟨w.heap.size, 2, none⟩) (by simp)).trans (by simp); have r5 : w'.cell? ⟨w.heap.size, 3, none⟩ = some (.slice A t.f3.length c) := (hb3.cell (p := ⟨w.heap.size, 3, none⟩) (by simp)).trans (by simp); have hb4 := HB.out.drew.trans (hb3.mono (by simp)); clear hb3; have H4 := Lib.hid hb4; clear hb4))
      go_wp2
      go_ret
      exact ⟨rfl, H4.out⟩
    · have hg3 : (w.alloc (.cells #[.int .i64 t.f0, .int .i64 t.f1, .int .i64 t.f2, .slice A t.f3.length c] 24)).cell? ⟨0, 5, none⟩ = some (.int .i64 v) := hg2
      have HB2 := Lib.hid hB2
      have HG3 := Lib.hid hg3
      clear hg2
      go_enter Tryd.func54, Tryd.ntmps54
      go_wp2
      go_region_held3 (fun w' => w'.cell? ⟨B, 0, none⟩ = some (.int .i64 5) ∧ w'.cell? ⟨0, 5, none⟩ = some (.int .i64 v) ∧ w'.cell? ⟨w.heap.size, 0, none⟩ = some (.int .i64 t.f0) ∧ w'.cell? ⟨w.heap.size, 1, none⟩ = some (.int .i64 t.f1) ∧ w'.cell? ⟨w.heap.size, 2, none⟩ = some (.int .i64 t.f2) ∧ w'.cell? ⟨w.heap.size, 3, none⟩ = some (.slice A t.f3.length c)) (first | exact ⟨r0, r1, r3, r2, r4, r5⟩ | go_keep) (first | (go_at_call 44; refine K.out.mono ?_; rintro e w' ⟨rfl, hb3⟩; have r0 := (hb3.cell (p := ⟨B, 0, none⟩) (by have := HBL.out; first | (simp; done) | (simp; omega))).trans HB2.out; have r1 := (hb3.cell (p := ⟨0, 5, none⟩) (by have := HGL.out; first | (simp; done) | (simp; omega))).trans HG3.out; have r2 : w'.cell? ⟨w.heap.size, 1, none⟩ = some (.int .i64 t.f1) := (hb3.cell (p := ⟨w.heap.size, 1, none⟩) (by simp)).trans (by simp); have r3 : w'.cell? ⟨w.heap.size, 0, none⟩ = some (.int .i64 t.f0) := (hb3.cell (p := ⟨w.heap.size, 0, none⟩) (by simp)).trans (by simp); have r4 : w'.cell? ⟨w.heap.size, 2, none⟩ = some (.int .i64 t.f2) := (hb3.cell (p := ⟨w.heap.size, 2, none⟩) (by simp)).trans (by simp); have r5 : w'.cell? ⟨w.heap.size, 3, none⟩ = some (.slice A t.f3.length c) := (hb3.cell (p := ⟨w.heap.size, 3, none⟩) (by simp)).trans (by simp); have hb4 := HB.out.drew.trans (hb3.mono (by simp)); clear hb3; have H4 := Lib.hid hb4; clear hb4))
      go_wp2
      go_ret
      exact ⟨rfl, H4.out⟩
  · rw [if_neg h]
    have HE := Lib.hid (show (t.f0 == 1) = false from beq_eq_false_iff_ne.2 h)
    clear h hk hg2 k hB2
    have p0 : (w.alloc (.cells #[.int .i64 t.f0, .int .i64 t.f1, .int .i64 t.f2, .slice A t.f3.length c] 24)).cell? ⟨w.heap.size, 0, none⟩ = some (.int .i64 t.f0) := by simp
    have p1 : (w.alloc (.cells #[.int .i64 t.f0, .int .i64 t.f1, .int .i64 t.f2, .slice A t.f3.length c] 24)).cell? ⟨w.heap.size, 1, none⟩ = some (.int .i64 t.f1) := by simp
    have p2 : (w.alloc (.cells #[.int .i64 t.f0, .int .i64 t.f1, .int .i64 t.f2, .slice A t.f3.length c] 24)).cell? ⟨w.heap.size, 2, none⟩ = some (.int .i64 t.f2) := by simp
    have p3 : (w.alloc (.cells #[.int .i64 t.f0, .int .i64 t.f1, .int .i64 t.f2, .slice A t.f3.length c] 24)).cell? ⟨w.heap.size, 3, none⟩ = some (.slice A t.f3.length c) := by simp
    go_enter Tryd.func54, Tryd.ntmps54
    go_wp2
    refine start_ (n := 11) (S := fun w' => w'.cell? ⟨w.heap.size, 0, none⟩ = some (.int .i64 t.f0) ∧ w'.cell? ⟨w.heap.size, 1, none⟩ = some (.int .i64 t.f1) ∧ w'.cell? ⟨w.heap.size, 2, none⟩ = some (.int .i64 t.f2) ∧ w'.cell? ⟨w.heap.size, 3, none⟩ = some (.slice A t.f3.length c)) (ds := []) #[false, false, false, false, false, false, false, false, false, false, false] (by kernel_rfl) rfl rfl ⟨p0, p1, p2, p3⟩ (fun hHeld => ?_)
    refine take_ (i := 0) (N := some 4) (v := ?_) (a' := ?_) #[true, false, false, false, false, false, false, false, false, false, false] rfl rfl (by kernel_rfl) (fun _ _ _ h => h) (Or.inl ⟨by rfl, ?_⟩) hHeld ?_ ?_
    rotate_left
    · rintro w' ⟨s0, s1, s2, s3⟩
      go_simp
      with_reducible rfl
    rotate_left
    · simp only [Act.put, List.setIfInBounds_toArray, List.set_cons_zero, List.set_cons_succ, i64_w, i32_w]
      rfl
    refine one_ (i := 1) (N := some 5) #[true, true, false, false, false, false, false, false, false, false, false] rfl rfl (by kernel_rfl) (by decide) (fun K hK => ?_)
    refine goes_ Tryd.func44 (by kernel_rfl) rfl #[.agg #[.int .i64 t.f0, .int .i64 t.f1, .int .i64 t.f2, .slice A t.f3.length c]] (by rfl) rfl rfl (by simp only [List.map_toArray, List.map_cons, List.map_nil]; rfl) ?_
    with_reducible refine ((show (t.f0 == 1) = false from HE.out) ▸ known_calls t A c _).mono ?_
    rintro e wa ⟨rfl, hb⟩
    refine ⟨_, rfl, ?_⟩
    have HB1 := Lib.hid (HB.out.drew.trans (hb.mono (by simp)))
    have r0 : wa.cell? ⟨w.heap.size, 0, none⟩ = some (.int .i64 t.f0) := (hb.cell (p := ⟨w.heap.size, 0, none⟩) (by simp)).trans (by simp)
    have r1 : wa.cell? ⟨w.heap.size, 1, none⟩ = some (.int .i64 t.f1) := (hb.cell (p := ⟨w.heap.size, 1, none⟩) (by simp)).trans (by simp)
    have r2 : wa.cell? ⟨w.heap.size, 2, none⟩ = some (.int .i64 t.f2) := (hb.cell (p := ⟨w.heap.size, 2, none⟩) (by simp)).trans (by simp)
    have r3 : wa.cell? ⟨w.heap.size, 3, none⟩ = some (.slice A t.f3.length c) := (hb.cell (p := ⟨w.heap.size, 3, none⟩) (by simp)).trans (by simp)
    clear hb
    refine hK.out _ _ ⟨r0, r1, r2, r3⟩ (fun hHeld => ?_)
    clear hK K
    refine norm_ (a' := ?_) ?_ ?_
    rotate_left
    · show Act.put _ (some 5) _ = _
      simp only [Act.put, List.setIfInBounds_toArray, List.set_cons_zero, List.set_cons_succ, i64_w, i32_w]
      rfl
    refine pure_ (i := 2) (N := some 6) (v := ?_) (a' := ?_) #[true, true, true, false, false, false, false, false, false, false, false] rfl rfl (by kernel_rfl) (fun _ _ _ h => h) (Or.inl ⟨by rfl, ?_⟩) ?_ ?_
    rotate_left
    · intro w'
      go_simp
      with_reducible rfl
    rotate_left
    · simp only [Act.put, List.setIfInBounds_toArray, List.set_cons_zero, List.set_cons_succ, i64_w, i32_w]
      rfl
    refine pure_ (i := 3) (N := some 7) (v := undef) (a' := ?_) #[true, true, true, true, false, false, false, false, false, false, false] rfl rfl (by kernel_rfl) (fun _ _ _ h => h) (Or.inr ⟨by rfl, rfl⟩) ?_ ?_
    rotate_left
    · simp only [Act.put, List.setIfInBounds_toArray, List.set_cons_zero, List.set_cons_succ, i64_w, i32_w]
      rfl
    refine pure_ (i := 4) (N := some 8) (v := undef) (a' := ?_) #[true, true, true, true, true, false, false, false, false, false, false] rfl rfl (by kernel_rfl) (fun _ _ _ h => h) (Or.inr ⟨by rfl, rfl⟩) ?_ ?_
    rotate_left
    · simp only [Act.put, List.setIfInBounds_toArray, List.set_cons_zero, List.set_cons_succ, i64_w, i32_w]
      rfl
    refine pure_ (i := 5) (N := some 9) (v := undef) (a' := ?_) #[true, true, true, true, true, true, false, false, false, false, false] rfl rfl (by kernel_rfl) (fun _ _ _ h => h) (Or.inr ⟨by rfl, rfl⟩) ?_ ?_
    rotate_left
    · simp only [Act.put, List.setIfInBounds_toArray, List.set_cons_zero, List.set_cons_succ, i64_w, i32_w]
      rfl
    refine pure_ (i := 6) (N := some 10) (v := undef) (a' := ?_) #[true, true, true, true, true, true, true, false, false, false, false] rfl rfl (by kernel_rfl) (fun _ _ _ h => h) (Or.inr ⟨by rfl, rfl⟩) ?_ ?_
    rotate_left
    · simp only [Act.put, List.setIfInBounds_toArray, List.set_cons_zero, List.set_cons_succ, i64_w, i32_w]
      rfl
    refine pure_ (i := 7) (N := some 11) (v := undef) (a' := ?_) #[true, true, true, true, true, true, true, true, false, false, false] rfl rfl (by kernel_rfl) (fun _ _ _ h => h) (Or.inr ⟨by rfl, rfl⟩) ?_ ?_
    rotate_left
    · simp only [Act.put, List.setIfInBounds_toArray, List.set_cons_zero, List.set_cons_succ, i64_w, i32_w]
      rfl
    refine pure_ (i := 8) (N := some 12) (v := undef) (a' := ?_) #[true, true, true, true, true, true, true, true, true, false, false] rfl rfl (by kernel_rfl) (fun _ _ _ h => h) (Or.inr ⟨by rfl, rfl⟩) ?_ ?_
    rotate_left
    · simp only [Act.put, List.setIfInBounds_toArray, List.set_cons_zero, List.set_cons_succ, i64_w, i32_w]
      rfl
    refine pure_ (i := 9) (N := some 13) (v := ?_) (a' := ?_) #[true, true, true, true, true, true, true, true, true, true, false] rfl rfl (by kernel_rfl) (fun _ _ _ h => h) (Or.inl ⟨by rfl, ?_⟩) ?_ ?_
    rotate_left
    · intro w'
      go_simp
      with_reducible rfl
    rotate_left
    · simp only [Act.put, List.setIfInBounds_toArray, List.set_cons_zero, List.set_cons_succ, i64_w, i32_w]
      rfl
    refine pure_ (i := 10) (N := some 3) (v := ?_) (a' := ?_) #[true, true, true, true, true, true, true, true, true, true, true] rfl rfl (by kernel_rfl) (fun _ _ _ h => h) (Or.inl ⟨by rfl, ?_⟩) ?_ ?_
    rotate_left
    · intro w'
      go_simp
      with_reducible rfl
    rotate_left
    · simp only [Act.put, List.setIfInBounds_toArray, List.set_cons_zero, List.set_cons_succ, i64_w, i32_w]
      rfl
    refine done_ (by kernel_rfl) ?_
    go_wp2
    go_ret
    exact ⟨rfl, HB1.out⟩

theorem pred_off (B : Nat) (kd : Int) (hk : kd = 4 ∨ kd = 5) (xs : List S24) (w : World) (hB : w.cell? ⟨B, 0, none⟩ = some (.int .i64 kd)) (hL : Laid w) : Pred 54 #[.pointer (some ⟨B, 0, none⟩)] (fun x => if x.f0 = 1 then x.f1 != idleV kd else false) xs w := fun x w1 A c _ hb _ _ => by
  refine off_calls x A c w1 B kd (idleV kd) ((hb.cell (World.block_lt_of_cell? w _ hB)).trans hB) hk ?_
  have h1 := hL.below hb
  rcases hk with rfl | rfl
  · exact h1.1
  · exact h1.2

end Go.Proofs.YtphegiohkggddaaDoor.PF
