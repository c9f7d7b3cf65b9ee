/- slices.Concat of two slices of integers that are read; slices.Grow of the nil slice. -/
import Derived.Test.YtmcljhjmmipagaaNormC
import Derived.Shelf.Spec.SlicesGrow
namespace Go.Proofs
open Go.Shelf
def Try.grow_ren : Go.Shelf.Ren := ⟨fun | 4 => 68 | n => n, fun | 25 => 3 | n => n, fun | n => n⟩
theorem Try.growL : Go.Proofs.Lays8.n4 Try.prog Try.grow_ren := {
 mixed := by kernel_rfl
 f4 := ⟨Try.f68.name, by decide, Try.func68.trans (congrArg some (by kernel_rfl))⟩
 t0 := Try.underlying0
 a0 := Try.isAgg0
 z0 := Try.sizeOf0
 v0 := Try.zeroValue0
 t3 := Try.underlying3
 a3 := Try.isAgg3
 z3 := Try.sizeOf3
 v3 := Try.zeroValue3
 t4 := Try.underlying4
 a4 := Try.isAgg4
 z4 := Try.sizeOf4
 v4 := Try.zeroValue4
 t9 := Try.underlying9
 a9 := Try.isAgg9
 z9 := Try.sizeOf9
 v9 := Try.zeroValue9
 t20 := Try.underlying20
 a20 := Try.isAgg20
 z20 := Try.sizeOf20
 v20 := Try.zeroValue20
 t22 := Try.underlying22
 a22 := Try.isAgg22
 z22 := Try.sizeOf22
 v22 := Try.zeroValue22 }
end Go.Proofs
namespace Go.Proofs.Ytmcljhjmmipagaa.PL
open Go.RowKit Go.Proofs.YtmcljhjmmipagaaW.PrintWords Go.Proofs.YtmcljhjmmipagaaW.PrintLast Go.Proofs.YtmcljhjmmipagaaW.PrintMore
set_option linter.unusedVariables false
set_option linter.unusedSimpArgs false

theorem grow_calls (n : Nat) (hn : n ≤ 1000000) (w : World) : Calls Try.prog 68 #[.slice none 0 0, .int .i64 n] w fun e w' => ∃ v, e = .returned v ∧ w'.ownsRow w.heap.size 3 1 v 0 [] ∧ Below w.heap.size w w' := by
 by_cases h0 : n = 0
 ·
  subst h0
  refine (Any8.slices_Grow_room Try.growL none 0 0 0 w (by omega) (by omega) (by omega) (by omega)).mono ?_
  rintro e w' ⟨rfl, rfl⟩
  exact ⟨_, rfl, own_nil _ _ _ _, Below.refl _ _⟩
 ·
  obtain ⟨i0, hi, hzz⟩ := Option.map_eq_some_iff.1 info3
  simp only [Prod.mk.injEq] at hzz
  obtain ⟨hz0, hz1, hz2⟩ := hzz
  refine (Any8.slices_Grow_grow Try.growL i0 (.int .i64 0) hi hz0 (by omega) none 0 0 n [] w (by omega) (by omega) (by rw [hz2]; omega) (by omega) (by simp) (fun _ => rfl) (by simp)).mono ?_
  rintro e w' ⟨rfl, rfl⟩
  have hb := ((Below.refl w.heap.size w).drew).alloc (o := (.cells (([] : List Value).toArray ++ Builtin.zeroCells (Value.int .i64 0).cells (0 + n - 0) ++ Builtin.zeroCells (Value.int .i64 0).cells (grownCap w (0 + n) 0 3 - (0 + n))) 3)) (by simp)
  refine ⟨_, rfl, ⟨by simp, .inr ⟨w.heap.size, _, _, rfl, Nat.le_refl _, blk_new w.drew _, by omega, ?_, ?_, ?_⟩⟩, hb⟩
  ·
   exact grownCap_le_maxLen w _ _ _ (by unfold maxLen; omega)
  ·
   have hG : 0 + n ≤ grownCap w (0 + n) 0 3 := grownCap_ge w _ _ _
   show _ = grownCap w (0 + n) 0 3 * 1
   show (([] : List Value).toArray ++ Builtin.zeroCells (Value.int .i64 0).cells (0 + n - 0) ++ Builtin.zeroCells (Value.int .i64 0).cells (grownCap w (0 + n) 0 3 - (0 + n))).size = _
   have h1 : (Value.int .i64 0).cells.size = 1 := by decide
   rw [Array.size_append, Array.size_append, size_zeroCells, size_zeroCells, h1]
   simp only [List.size_toArray, List.length_nil]
   omega
  ·
   simp

/-- What lies joined behind k of the two. -/
def joined (xs ys : List Int) (k : Nat) : List Int := if k = 0 then [] else if k = 1 then xs else xs ++ ys

set_option maxRecDepth 100000 in
set_option maxHeartbeats 4000000 in
theorem concat_calls (g : Nat) (A0 : Option Addr) (c0 : Nat) (xs : List Int) (A1 : Option Addr) (c1 : Nat) (ys : List Int) (w : World) (q0 : w.cell? ⟨g, 0, none⟩ = some (.slice A0 xs.length c0)) (q1 : w.cell? ⟨g, 1, none⟩ = some (.slice A1 ys.length c1)) (hg : g < w.heap.size)
  (h0 : Kd.C (Kd.int .i64) w A0 xs.length xs) (h1 : Kd.C (Kd.int .i64) w A1 ys.length ys) (hx : xs.length ≤ 100000) (hy : ys.length ≤ 100000) :
  Calls Try.prog 59 #[.slice (some ⟨g, 0, none⟩) 2 2] w fun e w' => ∃ v, e = .returned v ∧ w'.ownsRow w.heap.size 3 1 v (xs ++ ys).length ((xs ++ ys).map (Value.int .i64)) ∧ Below w.heap.size w w' := by
 have hu22 := Try.underlying22
 have hu80 := Try.underlying80
 have hgrow := grow_calls (xs.length + ys.length) (by omega)
 have HG := Lib.hid hgrow
 have H0 := Lib.hid h0
 have H1 := Lib.hid h1
 clear hgrow h0 h1
 go_enter Try.func59, Try.ntmps59
 go_wp2
 go_loopg [3, 5, 11] 2 (fun gg v3 _ v11 W => ∃ k : Nat, k ≤ 2 ∧ 2 - k ≤ gg ∧ v11 = .int .i64 k ∧ v3 = .int .i64 ((joined xs ys k).length : Int) ∧ w = W)
 case atStart => exact ⟨0, by omega, by omega, rfl, rfl, rfl⟩
 case round =>
  obtain ⟨k, hk, hgg, rfl, rfl, rfl⟩ := hrel
  rcases (show k = 0 ∨ k = 1 ∨ k = 2 by omega) with rfl | rfl | rfl
  ·
   simp only [joined]
   go_wp2
   go_roundg 1
   case measure => omega
   case rel => exact ⟨1, by omega, by omega, by go_num, by simp [joined], rfl⟩
  ·
   simp only [joined]
   go_wp2
   go_roundg 0
   case measure => omega
   case rel => exact ⟨2, by omega, by omega, by go_num, by simp [joined], rfl⟩
  ·
   simp only [joined]
   go_wp2_with fail
   rw [← Int.natCast_add]
   refine (HG.out w).mono ?_
   rintro e w2 ⟨v, rfl, hown, hb⟩
   have HO := Aside0.mk (And.intro hown hb)
   clear hown hb HG
   go_wp2
   go_loopg [6, 8, 27] 2 (fun gg v6 _ v27 W => ∃ k : Nat, k ≤ 2 ∧ 2 - k ≤ gg ∧ v27 = .int .i64 k ∧ Aside0 (W.ownsRow w.heap.size 3 1 v6 (joined xs ys k).length ((joined xs ys k).map (Value.int .i64)) ∧ Below w.heap.size w W))
   case atStart => exact ⟨0, by omega, by omega, rfl, HO⟩
   case round =>
    clear HO
    obtain ⟨k, hk, hgg, rfl, HO⟩ := hrel
    have q0 := (HO.out.2.cell (p := ⟨g, 0, none⟩) hg).trans q0
    have q1 := (HO.out.2.cell (p := ⟨g, 1, none⟩) hg).trans q1
    rcases (show k = 0 ∨ k = 1 ∨ k = 2 by omega) with rfl | rfl | rfl
    ·
     simp only [joined] at HO
     go_wp2_with (first | ((with_reducible refine gate_builtin (b := .append) (xs := #[.tmp 31, .tmp 32]) rfl ?_); at_builtin; refine Kd.R_append_row (Value.int .i64) 0 (h1 := fun _ => rfl) (w0 := w) w.heap.size rfl (.tmp 31) (.tmp 32) 22 3 (.int .i64 0) 8 rfl Try.underlying22 info3 rfl (by decide) _ [] xs A0 xs.length c0 (fun _ => True) rfl rfl (fun _ _ => trivial) (R_own HO.out.1 (fun _ _ => trivial)) (Kd.C_below H0.out HO.out.2) HO.out.2 HO.out.2.size (by first | omega | (simp; omega)) ?_; intro v1 w3 hR3 hb3 hg3 hat3; have H3 := Aside0.mk (And.intro (own_R hR3) hb3); clear hR3 hb3 hg3 hat3 HO))
     go_roundg 1
     case measure => omega
     case rel => exact ⟨1, by omega, by omega, by go_num, by simpa [joined] using H3⟩
    ·
     simp only [joined] at HO
     go_wp2_with (first | ((with_reducible refine gate_builtin (b := .append) (xs := #[.tmp 31, .tmp 32]) rfl ?_); at_builtin; refine Kd.R_append_row (Value.int .i64) 0 (h1 := fun _ => rfl) (w0 := w) w.heap.size rfl (.tmp 31) (.tmp 32) 22 3 (.int .i64 0) 8 rfl Try.underlying22 info3 rfl (by decide) _ xs ys A1 ys.length c1 (fun _ => True) rfl rfl (fun _ _ => trivial) (R_own HO.out.1 (fun _ _ => trivial)) (Kd.C_below H1.out HO.out.2) HO.out.2 HO.out.2.size (by first | omega | (simp; omega)) ?_; intro v1 w3 hR3 hb3 hg3 hat3; have H3 := Aside0.mk (And.intro (own_R hR3) hb3); clear hR3 hb3 hg3 hat3 HO))
     go_roundg 0
     case measure => omega
     case rel => exact ⟨2, by omega, by omega, by go_num, by simpa [joined] using H3⟩
    ·
     go_wp2
     go_ret
     exact ⟨_, rfl, by simpa [joined] using HO.out.1, HO.out.2⟩

end Go.Proofs.Ytmcljhjmmipagaa.PL
