/- lin.Add answers what 'lin_Add.val' says, for slices that read as lists; the conditions stand in each statement. -/
import Derived.Test.YtmcljhjmmipagaaConcatG
namespace Go.Proofs.Ytmcljhjmmipagaa.PL
open Go.RowKit Go.Proofs.YtmcljhjmmipagaaW.PrintWords Go.Proofs.YtmcljhjmmipagaaW.PrintLast Go.Proofs.YtmcljhjmmipagaaW.PrintMore
set_option linter.unusedVariables false
set_option linter.unusedSimpArgs false

/-- What lin.Add answers. -/
def lin_Add.val (C L : List Int) (least : Int) (D M : List Int) (bound : Int) : List Int × List Int × Int × Int :=
 if lin_Check.val C L least 65536 = 0 then
  (if lin_Check.val D M bound 65536 = 0 then
   (if 4096 < (L ++ M).length then ([], [], 0, 2) else if withinB (least + bound) then (C ++ D, L ++ M, least + bound, 0) else ([], [], 0, 2))
  else ([], [], 0, lin_Check.val D M bound 65536))
 else ([], [], 0, lin_Check.val C L least 65536)
def lin_Add.f (C L : List Int) (least : Int) (D M : List Int) (bound : Int) : Option (List Int × List Int × Int × Int) := some (lin_Add.val C L least D M bound)

/-- The blocks that lie before the sum is built. -/
structure AddF (A0_0 : Option Addr) (c0_0 : Nat) (l0_0 : List Int) (A0_1 : Option Addr) (c0_1 : Nat) (l0_1 : List Int) (a0_2 : Int) (A1_0 : Option Addr) (c1_0 : Nat) (l1_0 : List Int) (A1_1 : Option Addr) (c1_1 : Nat) (l1_1 : List Int) (a1_2 : Int) (w W : World) : Prop where
 b0 : W.heap[w.heap.size]? = some (.cells #[.slice A0_0 l0_0.length c0_0, .slice A0_1 l0_1.length c0_1, .int .i64 a0_2] 24 (0, 0))
 b1 : W.heap[w.heap.size + 1]? = some (.cells #[.slice A1_0 l1_0.length c1_0, .slice A1_1 l1_1.length c1_1, .int .i64 a1_2] 24 (0, 0))
 res : W.heap[w.heap.size + 2]? = some (.cells #[.slice none 0 0, .slice none 0 0, .int .i64 0] 24 (0, 0))
 sl : W.heap[w.heap.size + 3]? = some (.cells #[.slice A0_0 l0_0.length c0_0, .slice A0_1 l0_1.length c0_1, .int .i64 a0_2, .slice A1_0 l1_0.length c1_0, .slice A1_1 l1_1.length c1_1, .int .i64 a1_2] 24 (0, 0))
 below : Below w.heap.size w W
 big : w.heap.size + 3 < W.heap.size
theorem AddF.next {A0_0 : Option Addr} {c0_0 : Nat} {l0_0 : List Int} {A0_1 : Option Addr} {c0_1 : Nat} {l0_1 : List Int} {a0_2 : Int} {A1_0 : Option Addr} {c1_0 : Nat} {l1_0 : List Int} {A1_1 : Option Addr} {c1_1 : Nat} {l1_1 : List Int} {a1_2 : Int} {w W W1 : World} (h : AddF A0_0 c0_0 l0_0 A0_1 c0_1 l0_1 a0_2 A1_0 c1_0 l1_0 A1_1 c1_1 l1_1 a1_2 w W) (hb : Below W.heap.size W W1) : AddF A0_0 c0_0 l0_0 A0_1 c0_1 l0_1 a0_2 A1_0 c1_0 l1_0 A1_1 c1_1 l1_1 a1_2 w W1 where
 b0 := (hb.block _ (by have := h.big; omega)).trans h.b0
 b1 := (hb.block _ (by have := h.big; omega)).trans h.b1
 res := (hb.block _ (by have := h.big; omega)).trans h.res
 sl := (hb.block _ h.big).trans h.sl
 below := h.below.trans (hb.mono (by have := h.big; omega))
 big := Nat.lt_of_lt_of_le h.big hb.size

theorem AddF.held {A0_0 : Option Addr} {c0_0 : Nat} {l0_0 : List Int} {A0_1 : Option Addr} {c0_1 : Nat} {l0_1 : List Int} {a0_2 : Int} {A1_0 : Option Addr} {c1_0 : Nat} {l1_0 : List Int} {A1_1 : Option Addr} {c1_1 : Nat} {l1_1 : List Int} {a1_2 : Int} {w W : World} (h : AddF A0_0 c0_0 l0_0 A0_1 c0_1 l0_1 a0_2 A1_0 c1_0 l1_0 A1_1 c1_1 l1_1 a1_2 w W) : W.cell? ⟨w.heap.size, 0, none⟩ = some (.slice A0_0 l0_0.length c0_0) ∧ W.cell? ⟨w.heap.size, 1, none⟩ = some (.slice A0_1 l0_1.length c0_1) ∧ W.cell? ⟨w.heap.size, 2, none⟩ = some (.int .i64 a0_2) ∧ W.cell? ⟨w.heap.size + 1, 0, none⟩ = some (.slice A1_0 l1_0.length c1_0) ∧ W.cell? ⟨w.heap.size + 1, 1, none⟩ = some (.slice A1_1 l1_1.length c1_1) ∧ W.cell? ⟨w.heap.size + 1, 2, none⟩ = some (.int .i64 a1_2) :=
 ⟨(blk_cell h.b0 0).trans rfl, (blk_cell h.b0 1).trans rfl, (blk_cell h.b0 2).trans rfl, (blk_cell h.b1 0).trans rfl, (blk_cell h.b1 1).trans rfl, (blk_cell h.b1 2).trans rfl⟩

set_option maxRecDepth 100000 in
set_option maxHeartbeats 8000000 in
theorem add_walk (A0_0 : Option Addr) (c0_0 : Nat) (l0_0 : List Int) (A0_1 : Option Addr) (c0_1 : Nat) (l0_1 : List Int) (a0_2 : Int) (A1_0 : Option Addr) (c1_0 : Nat) (l1_0 : List Int) (A1_1 : Option Addr) (c1_1 : Nat) (l1_1 : List Int) (a1_2 : Int) (w : World) (hr0_0 : Kd.C (Kd.int .i64) w A0_0 l0_0.length l0_0) (hc0_0 : l0_0.length ≤ c0_0) (hr0_1 : Kd.C (Kd.int .i64) w A0_1 l0_1.length l0_1) (hc0_1 : l0_1.length ≤ c0_1) (hr1_0 : Kd.C (Kd.int .i64) w A1_0 l1_0.length l1_0) (hc1_0 : l1_0.length ≤ c1_0) (hr1_1 : Kd.C (Kd.int .i64) w A1_1 l1_1.length l1_1) (hc1_1 : l1_1.length ≤ c1_1) (r : List Int × List Int × Int × Int) (hr : lin_Add.val l0_0 l0_1 a0_2 l1_0 l1_1 a1_2 = r) :
  Calls Try.prog 27 #[.agg #[.slice A0_0 l0_0.length c0_0, .slice A0_1 l0_1.length c0_1, .int .i64 a0_2], .agg #[.slice A1_0 l1_0.length c1_0, .slice A1_1 l1_1.length c1_1, .int .i64 a1_2]] w fun e w' => ∃ v0_ v1_ : Value, e = .returned (.tuple #[.agg #[v0_, v1_, .int .i64 r.2.2.1], .int .i64 r.2.2.2]) ∧ w'.ownsRow w.heap.size 3 1 v0_ r.1.length (r.1.map (Value.int .i64)) ∧ w'.ownsRow w.heap.size 3 1 v1_ r.2.1.length (r.2.1.map (Value.int .i64)) ∧ (∀ k, v0_.ownBlock = some k → v1_.ownBlock ≠ some k) ∧ Below w.heap.size w w' := by
 have hu24 := Try.underlying24
 have hu22 := Try.underlying22
 have hu75 := Try.underlying75
 have hu80 := Try.underlying80
 have k1 := fun W h1 h2 => lin_right.calls A0_0 c0_0 l0_0 A0_1 c0_1 l0_1 a0_2 W h1 hc0_0 h2 hc0_1
 have k2 := fun W h1 h2 => lin_right.calls A1_0 c1_0 l1_0 A1_1 c1_1 l1_1 a1_2 W h1 hc1_0 h2 hc1_1
 have HK1 := Lib.hid k1
 have HK2 := Lib.hid k2
 have H0 := Lib.hid (And.intro hr0_0 hr0_1)
 have H1 := Lib.hid (And.intro hr1_0 hr1_1)
 have HR := Lib.hid hr
 have HB := Lib.hid (Below.refl w.heap.size w)
 clear hr0_0 hr0_1 hr1_0 hr1_1 hr k1 k2
 have HF := Aside0.mk (show AddF A0_0 c0_0 l0_0 A0_1 c0_1 l0_1 a0_2 A1_0 c1_0 l1_0 A1_1 c1_1 l1_1 a1_2 w ((((w.alloc (.cells #[.slice A0_0 l0_0.length c0_0, .slice A0_1 l0_1.length c0_1, .int .i64 a0_2] 24)).alloc (.cells #[.slice A1_0 l1_0.length c1_0, .slice A1_1 l1_1.length c1_1, .int .i64 a1_2] 24)).alloc (.cells #[.slice none 0 0, .slice none 0 0, .int .i64 0] 24)).alloc (.cells #[.slice A0_0 l0_0.length c0_0, .slice A0_1 l0_1.length c0_1, .int .i64 a0_2, .slice A1_0 l1_0.length c1_0, .slice A1_1 l1_1.length c1_1, .int .i64 a1_2] 24)) from
  ⟨blk_alloc (blk_alloc (blk_alloc (blk_new w _) _) _) _, blk_alloc (blk_alloc (by simpa using blk_new (w.alloc (.cells #[.slice A0_0 l0_0.length c0_0, .slice A0_1 l0_1.length c0_1, .int .i64 a0_2] 24)) (.cells #[.slice A1_0 l1_0.length c1_0, .slice A1_1 l1_1.length c1_1, .int .i64 a1_2] 24)) _) _,
   blk_alloc (by simpa using blk_new ((w.alloc (.cells #[.slice A0_0 l0_0.length c0_0, .slice A0_1 l0_1.length c0_1, .int .i64 a0_2] 24)).alloc (.cells #[.slice A1_0 l1_0.length c1_0, .slice A1_1 l1_1.length c1_1, .int .i64 a1_2] 24)) (.cells #[.slice none 0 0, .slice none 0 0, .int .i64 0] 24)) _, by simpa using blk_new (((w.alloc (.cells #[.slice A0_0 l0_0.length c0_0, .slice A0_1 l0_1.length c0_1, .int .i64 a0_2] 24)).alloc (.cells #[.slice A1_0 l1_0.length c1_0, .slice A1_1 l1_1.length c1_1, .int .i64 a1_2] 24)).alloc (.cells #[.slice none 0 0, .slice none 0 0, .int .i64 0] 24)) (.cells #[.slice A0_0 l0_0.length c0_0, .slice A0_1 l0_1.length c0_1, .int .i64 a0_2, .slice A1_0 l1_0.length c1_0, .slice A1_1 l1_1.length c1_1, .int .i64 a1_2] 24),
   ((((Below.refl w.heap.size w).alloc (Nat.le_refl _) _).alloc (by simp) _).alloc (by simp; omega) _).alloc (by simp; omega) _, by simp⟩)
 go_enter Try.func27, Try.ntmps27
 go_wp2
 go_loopg [7, 8, 14] 2 (fun gg _ _ v14 W => ∃ k : Nat, k ≤ 2 ∧ 2 - k ≤ gg ∧ v14 = .int .i64 k ∧ Aside0 (1 ≤ k → lin_Check.val l0_0 l0_1 a0_2 65536 = 0) ∧ Aside0 (2 ≤ k → lin_Check.val l1_0 l1_1 a1_2 65536 = 0) ∧ Aside0 (AddF A0_0 c0_0 l0_0 A0_1 c0_1 l0_1 a0_2 A1_0 c1_0 l1_0 A1_1 c1_1 l1_1 a1_2 w W))
 case atStart => exact ⟨0, by omega, by omega, rfl, ⟨by omega⟩, ⟨by omega⟩, HF⟩
 case round =>
  clear HF
  obtain ⟨k, hk, hgg, rfl, HE0, HE1, HF⟩ := hrel
  rcases (show k = 0 ∨ k = 1 ∨ k = 2 by omega) with rfl | rfl | rfl
  ·
   have p0 : wr.cell? ⟨w.heap.size + 3, 0, none⟩ = some (.slice A0_0 l0_0.length c0_0) := (blk_cell HF.out.sl 0).trans rfl
   have p1 : wr.cell? ⟨w.heap.size + 3, 1, none⟩ = some (.slice A0_1 l0_1.length c0_1) := (blk_cell HF.out.sl 1).trans rfl
   have p2 : wr.cell? ⟨w.heap.size + 3, 2, none⟩ = some (.int .i64 a0_2) := (blk_cell HF.out.sl 2).trans rfl
   have HF2 := Aside0.mk (HF.out.next ((Below.refl _ _).alloc (Nat.le_refl _) (.cells #[.slice A0_0 l0_0.length c0_0, .slice A0_1 l0_1.length c0_1, .int .i64 a0_2] 24)))
   have hright := HK1.out _ (Kd.C_below H0.out.1 HF2.out.below) (Kd.C_below H0.out.2 HF2.out.below)
   clear HF
   generalize hE : lin_Check.val l0_0 l0_1 a0_2 65536 = E at hright
   have HE := Lib.hid hE
   clear hE
   go_wp2_with fail
   refine hright.mono ?_
   rintro e w1 ⟨rfl, hb1⟩
   clear hright p0 p1 p2
   have HF3 := Aside0.mk (HF2.out.next hb1)
   clear HF2 hb1
   by_cases h0 : E = 0
   ·
    have e1 : decide (E = 0) = true := by simpa using h0
    go_wp2
    go_roundg 1
    case measure => omega
    case rel => exact ⟨1, by omega, by omega, by go_num, ⟨fun _ => by rw [HE.out, h0]⟩, ⟨by omega⟩, HF3⟩
   ·
    have e1 : decide (E = 0) = false := by simpa using h0
    have q0 : w1.cell? ⟨w.heap.size + 2, 0, none⟩ = some (.slice none 0 0) := (blk_cell HF3.out.res 0).trans rfl
    have q1 : w1.cell? ⟨w.heap.size + 2, 1, none⟩ = some (.slice none 0 0) := (blk_cell HF3.out.res 1).trans rfl
    have q2 : w1.cell? ⟨w.heap.size + 2, 2, none⟩ = some (.int .i64 0) := (blk_cell HF3.out.res 2).trans rfl
    have f0 := blk_frozen HF3.out.res 0
    have f1 := blk_frozen HF3.out.res 1
    have f2 := blk_frozen HF3.out.res 2
    obtain rfl : ([], [], 0, E) = r := by
     rw [← HR.out, lin_Add.val, if_neg (by rw [HE.out]; exact h0), HE.out]
    go_wp2
    have h3 := blk_set (blk_set (blk_set HF3.out.res 0 (.slice none 0 0)) 1 (.slice none 0 0)) 2 (.int .i64 0)
    refine bodyPost_ret (results_ct rfl _ _ (w.heap.size + 2) 24 #[.slice none 0 0, .slice none 0 0, .int .i64 0] (0, 0) _ rfl h3 hu24 rfl (by kernel_rfl)) rfl ⟨.slice none 0 0, .slice none 0 0, rfl, own_nil _ _ _ _, own_nil _ _ _ _, fun k hk => by simp [Value.ownBlock] at hk, ?_⟩
    exact ((HF3.out.below.setCell (p := ⟨w.heap.size + 2, 0, none⟩) (by simp) _).setCell (p := ⟨w.heap.size + 2, 1, none⟩) (by simp) _).setCell (p := ⟨w.heap.size + 2, 2, none⟩) (by simp) _
  ·
   have p0 : wr.cell? ⟨w.heap.size + 3, 3, none⟩ = some (.slice A1_0 l1_0.length c1_0) := (blk_cell HF.out.sl 3).trans rfl
   have p1 : wr.cell? ⟨w.heap.size + 3, 4, none⟩ = some (.slice A1_1 l1_1.length c1_1) := (blk_cell HF.out.sl 4).trans rfl
   have p2 : wr.cell? ⟨w.heap.size + 3, 5, none⟩ = some (.int .i64 a1_2) := (blk_cell HF.out.sl 5).trans rfl
   have HF2 := Aside0.mk (HF.out.next ((Below.refl _ _).alloc (Nat.le_refl _) (.cells #[.slice A1_0 l1_0.length c1_0, .slice A1_1 l1_1.length c1_1, .int .i64 a1_2] 24)))
   have hright := HK2.out _ (Kd.C_below H1.out.1 HF2.out.below) (Kd.C_below H1.out.2 HF2.out.below)
   clear HF
   generalize hE : lin_Check.val l1_0 l1_1 a1_2 65536 = E at hright
   have HE := Lib.hid hE
   clear hE
   go_wp2_with fail
   refine hright.mono ?_
   rintro e w1 ⟨rfl, hb1⟩
   clear hright p0 p1 p2
   have HF3 := Aside0.mk (HF2.out.next hb1)
   clear HF2 hb1
   by_cases h0 : E = 0
   ·
    have e1 : decide (E = 0) = true := by simpa using h0
    go_wp2
    go_roundg 0
    case measure => omega
    case rel => exact ⟨2, by omega, by omega, by go_num, ⟨fun _ => HE0.out (by omega)⟩, ⟨fun _ => by rw [HE.out, h0]⟩, HF3⟩
   ·
    have e1 : decide (E = 0) = false := by simpa using h0
    have q0 : w1.cell? ⟨w.heap.size + 2, 0, none⟩ = some (.slice none 0 0) := (blk_cell HF3.out.res 0).trans rfl
    have q1 : w1.cell? ⟨w.heap.size + 2, 1, none⟩ = some (.slice none 0 0) := (blk_cell HF3.out.res 1).trans rfl
    have q2 : w1.cell? ⟨w.heap.size + 2, 2, none⟩ = some (.int .i64 0) := (blk_cell HF3.out.res 2).trans rfl
    have f0 := blk_frozen HF3.out.res 0
    have f1 := blk_frozen HF3.out.res 1
    have f2 := blk_frozen HF3.out.res 2
    obtain rfl : ([], [], 0, E) = r := by
     rw [← HR.out, lin_Add.val, if_pos (HE0.out (by omega)), if_neg (by rw [HE.out]; exact h0), HE.out]
    go_wp2
    have h3 := blk_set (blk_set (blk_set HF3.out.res 0 (.slice none 0 0)) 1 (.slice none 0 0)) 2 (.int .i64 0)
    refine bodyPost_ret (results_ct rfl _ _ (w.heap.size + 2) 24 #[.slice none 0 0, .slice none 0 0, .int .i64 0] (0, 0) _ rfl h3 hu24 rfl (by kernel_rfl)) rfl ⟨.slice none 0 0, .slice none 0 0, rfl, own_nil _ _ _ _, own_nil _ _ _ _, fun k hk => by simp [Value.ownBlock] at hk, ?_⟩
    exact ((HF3.out.below.setCell (p := ⟨w.heap.size + 2, 0, none⟩) (by simp) _).setCell (p := ⟨w.heap.size + 2, 1, none⟩) (by simp) _).setCell (p := ⟨w.heap.size + 2, 2, none⟩) (by simp) _
  ·
   clear HK1 HK2
   have hv0 := HE0.out (by omega)
   have hv1 := HE1.out (by omega)
   clear HE0 HE1
   go_wp2
   have HV := Lib.hid (And.intro (val_zero hv0).2.2.2.2 (And.intro (val_zero hv0).1 (And.intro (val_zero hv1).2.2.2.2 (val_zero hv1).1)))
   have hw0 : -1099511627776 ≤ a0_2 ∧ a0_2 ≤ 1099511627776 := by have := (val_zero hv0).2.1; simpa [withinB] using this
   have hw1 : -1099511627776 ≤ a1_2 ∧ a1_2 ≤ 1099511627776 := by have := (val_zero hv1).2.1; simpa [withinB] using this
   have hsum : IntKind.i64.wrap (a0_2 + a1_2) = a0_2 + a1_2 := by rw [i64_w]; unfold wrap64; omega
   have HS := Aside0.mk (HF.out.next (Below.refl _ _).drew)
   have hH := HS.out.held
   clear HF
   refine start_ (n := 20) (S := fun w' => w'.cell? ⟨w.heap.size, 0, none⟩ = some (.slice A0_0 l0_0.length c0_0) ∧ w'.cell? ⟨w.heap.size, 1, none⟩ = some (.slice A0_1 l0_1.length c0_1) ∧ w'.cell? ⟨w.heap.size, 2, none⟩ = some (.int .i64 a0_2) ∧ w'.cell? ⟨w.heap.size + 1, 0, none⟩ = some (.slice A1_0 l1_0.length c1_0) ∧ w'.cell? ⟨w.heap.size + 1, 1, none⟩ = some (.slice A1_1 l1_1.length c1_1) ∧ w'.cell? ⟨w.heap.size + 1, 2, none⟩ = some (.int .i64 a1_2)) (ds := [19]) #[false, false, false, false, false, false, false, false, false, false, false, false, false, false, false, false, false, false, false, false] (by kernel_rfl) rfl rfl hH (fun hHeld => ?_)
   clear hH
   generalize wr.drew = u0 at HS hHeld ⊢
   refine pure_ (i := 0) (N := some 25) (v := ?_) (a' := ?_) (bl 20 1) rfl rfl (by kernel_rfl) (fun _ _ _ h => h) (Or.inl ⟨by rfl, ?_⟩) ?_ ?_; rotate_left; · (intro w'; go_simp; with_reducible rfl)
   rotate_left; · (simp only [Act.put, List.setIfInBounds_toArray, List.set_cons_zero, List.set_cons_succ, i64_w, i32_w]; rfl)
   refine pure_ (i := 2) (N := some 27) (v := ?_) (a' := ?_) (bl 20 5) rfl rfl (by kernel_rfl) (fun _ _ _ h => h) (Or.inl ⟨by rfl, ?_⟩) ?_ ?_; rotate_left; · (intro w'; go_simp; with_reducible rfl)
   rotate_left; · (simp only [Act.put, List.setIfInBounds_toArray, List.set_cons_zero, List.set_cons_succ, i64_w, i32_w]; rfl)
   refine pure_ (i := 6) (N := some 31) (v := ?_) (a' := ?_) (bl 20 69) rfl rfl (by kernel_rfl) (fun _ _ _ h => h) (Or.inl ⟨by rfl, ?_⟩) ?_ ?_; rotate_left; · (intro w'; go_simp; with_reducible rfl)
   rotate_left; · (simp only [Act.put, List.setIfInBounds_toArray, List.set_cons_zero, List.set_cons_succ, i64_w, i32_w]; rfl)
   refine pure_ (i := 8) (N := some 33) (v := ?_) (a' := ?_) (bl 20 325) rfl rfl (by kernel_rfl) (fun _ _ _ h => h) (Or.inl ⟨by rfl, ?_⟩) ?_ ?_; rotate_left; · (intro w'; go_simp; with_reducible rfl)
   rotate_left; · (simp only [Act.put, List.setIfInBounds_toArray, List.set_cons_zero, List.set_cons_succ, i64_w, i32_w]; rfl)
   refine pure_ (i := 12) (N := some 37) (v := ?_) (a' := ?_) (bl 20 4421) rfl rfl (by kernel_rfl) (fun _ _ _ h => h) (Or.inl ⟨by rfl, ?_⟩) ?_ ?_; rotate_left; · (intro w'; go_simp; with_reducible rfl)
   rotate_left; · (simp only [Act.put, List.setIfInBounds_toArray, List.set_cons_zero, List.set_cons_succ, i64_w, i32_w]; rfl)
   refine pure_ (i := 14) (N := some 39) (v := ?_) (a' := ?_) (bl 20 20805) rfl rfl (by kernel_rfl) (fun _ _ _ h => h) (Or.inl ⟨by rfl, ?_⟩) ?_ ?_; rotate_left; · (intro w'; go_simp; with_reducible rfl)
   rotate_left; · (simp only [Act.put, List.setIfInBounds_toArray, List.set_cons_zero, List.set_cons_succ, i64_w, i32_w]; rfl)
   refine take_ (i := 1) (N := some 26) (v := ?_) (a' := ?_) (bl 20 20807) rfl rfl (by kernel_rfl) (fun _ _ _ h => h) (Or.inl ⟨by rfl, ?_⟩) hHeld ?_ ?_; rotate_left; · (rintro w' ⟨s0, s1, s2, s3, s4, s5⟩; go_simp; with_reducible rfl)
   rotate_left; · (simp only [Act.put, List.setIfInBounds_toArray, List.set_cons_zero, List.set_cons_succ, i64_w, i32_w]; rfl)
   refine take_ (i := 3) (N := some 28) (v := ?_) (a' := ?_) (bl 20 20815) rfl rfl (by kernel_rfl) (fun _ _ _ h => h) (Or.inl ⟨by rfl, ?_⟩) hHeld ?_ ?_; rotate_left; · (rintro w' ⟨s0, s1, s2, s3, s4, s5⟩; go_simp; with_reducible rfl)
   rotate_left; · (simp only [Act.put, List.setIfInBounds_toArray, List.set_cons_zero, List.set_cons_succ, i64_w, i32_w]; rfl)
   refine take_ (i := 7) (N := some 32) (v := ?_) (a' := ?_) (bl 20 20943) rfl rfl (by kernel_rfl) (fun _ _ _ h => h) (Or.inl ⟨by rfl, ?_⟩) hHeld ?_ ?_; rotate_left; · (rintro w' ⟨s0, s1, s2, s3, s4, s5⟩; go_simp; with_reducible rfl)
   rotate_left; · (simp only [Act.put, List.setIfInBounds_toArray, List.set_cons_zero, List.set_cons_succ, i64_w, i32_w]; rfl)
   refine take_ (i := 9) (N := some 34) (v := ?_) (a' := ?_) (bl 20 21455) rfl rfl (by kernel_rfl) (fun _ _ _ h => h) (Or.inl ⟨by rfl, ?_⟩) hHeld ?_ ?_; rotate_left; · (rintro w' ⟨s0, s1, s2, s3, s4, s5⟩; go_simp; with_reducible rfl)
   rotate_left; · (simp only [Act.put, List.setIfInBounds_toArray, List.set_cons_zero, List.set_cons_succ, i64_w, i32_w]; rfl)
   refine take_ (i := 13) (N := some 38) (v := ?_) (a' := ?_) (bl 20 29647) rfl rfl (by kernel_rfl) (fun _ _ _ h => h) (Or.inl ⟨by rfl, ?_⟩) hHeld ?_ ?_; rotate_left; · (rintro w' ⟨s0, s1, s2, s3, s4, s5⟩; go_simp; with_reducible rfl)
   rotate_left; · (simp only [Act.put, List.setIfInBounds_toArray, List.set_cons_zero, List.set_cons_succ, i64_w, i32_w]; rfl)
   refine take_ (i := 15) (N := some 40) (v := ?_) (a' := ?_) (bl 20 62415) rfl rfl (by kernel_rfl) (fun _ _ _ h => h) (Or.inl ⟨by rfl, ?_⟩) hHeld ?_ ?_; rotate_left; · (rintro w' ⟨s0, s1, s2, s3, s4, s5⟩; go_simp; with_reducible rfl)
   rotate_left; · (simp only [Act.put, List.setIfInBounds_toArray, List.set_cons_zero, List.set_cons_succ, i64_w, i32_w]; rfl)
   refine pure_ (i := 16) (N := some 41) (v := ?_) (a' := ?_) (bl 20 127951) rfl rfl (by kernel_rfl) (fun _ _ _ h => h) (Or.inl ⟨by rfl, ?_⟩) ?_ ?_; rotate_left; · (intro w'; go_simp; with_reducible rfl)
   rotate_left; · (simp only [Act.put, List.setIfInBounds_toArray, List.set_cons_zero, List.set_cons_succ, i64_w, i32_w]; rfl)
   refine join_ (σ := Nat × (Option Addr × Nat) × Nat × (Option Addr × Nat) × Nat) 1 (bl 20 524287) (fun s => [(29, .slice (some ⟨s.1, 0, none⟩) 2 2), (30, (.slice s.2.1.1 (l0_0 ++ l1_0).length s.2.1.2)), (35, .slice (some ⟨s.2.2.1, 0, none⟩) 2 2), (36, (.slice s.2.2.2.1.1 (l0_1 ++ l1_1).length s.2.2.2.1.2)), (9, .pointer (some ⟨s.2.2.2.2, 0, none⟩)), (42, .agg #[.slice s.2.1.1 (l0_0.length + l1_0.length) s.2.1.2, .slice s.2.2.2.1.1 (l0_1.length + l1_1.length) s.2.2.2.1.2, .int .i64 (a0_2 + a1_2)])]) (fun s W => AddF A0_0 c0_0 l0_0 A0_1 c0_1 l0_1 a0_2 A1_0 c1_0 l1_0 A1_1 c1_1 l1_1 a1_2 w W ∧ W.ownsRow w.heap.size 3 1 (.slice s.2.1.1 (l0_0 ++ l1_0).length s.2.1.2) (l0_0 ++ l1_0).length ((l0_0 ++ l1_0).map (Value.int .i64)) ∧ W.ownsRow w.heap.size 3 1 (.slice s.2.2.2.1.1 (l0_1 ++ l1_1).length s.2.2.2.1.2) (l0_1 ++ l1_1).length ((l0_1 ++ l1_1).map (Value.int .i64)) ∧ (∀ k, Value.ownBlock (.slice s.2.1.1 (l0_0 ++ l1_0).length s.2.1.2) = some k → Value.ownBlock (.slice s.2.2.2.1.1 (l0_1 ++ l1_1).length s.2.2.2.1.2) ≠ some k) ∧ W.heap[s.2.2.2.2]? = some (.cells #[.slice none 0 0, .slice none 0 0, .int .i64 0] 24 (0, 0)) ∧ w.heap.size + 3 < s.2.2.2.2) ?cont (fun hJ => ?_)
   case cont =>
    rintro ⟨g4, ⟨B5, d5⟩, g10, ⟨B11, d11⟩, g18⟩ W ⟨hS, h5, h11, hne, h18, hg18⟩
    simp only [putAll, Act.put, List.setIfInBounds_toArray, List.set_cons_zero, List.set_cons_succ] at hS h5 h11 hne h18 hg18 ⊢
    clear HS hHeld
    have s0 := (blk_cell h18 0).trans rfl
    have s1 := (blk_cell h18 1).trans rfl
    have s2 := (blk_cell h18 2).trans rfl
    have f0 := blk_frozen h18 0
    have f1 := blk_frozen h18 1
    have f2 := blk_frozen h18 2
    have HX := Lib.hid (And.intro hS (And.intro h5 (And.intro h11 (And.intro hne h18))))
    clear hS h5 h11 hne h18
    refine last_ (i := 19) (N := none) (bl 20 1048575) rfl rfl (by kernel_rfl) (by decide) (fun K hK => ?_)
    refine skip_ (w1 := ?_) (by rfl) rfl ?_ ?_
    rotate_left
    ·
     go_simp
     rfl
    refine hK.out _ _ ?_
    clear hK K s0 s1 s2 f0 f1 f2
    refine done_ (by kernel_rfl) ?_
    have hfar : ∀ k, k ≠ g18 → (((W.setCell ⟨g18, 0, none⟩ (Value.slice B5 (l0_0.length + l1_0.length) d5)).setCell ⟨g18, 1, none⟩ (Value.slice B11 (l0_1.length + l1_1.length) d11)).setCell ⟨g18, 2, none⟩ (.int .i64 (a0_2 + a1_2))).heap[k]? = W.heap[k]? := fun k hk => ((Below.heap_setCell _ ⟨g18, 2, none⟩ _ k hk).trans (Below.heap_setCell _ ⟨g18, 1, none⟩ _ k hk)).trans (Below.heap_setCell _ ⟨g18, 0, none⟩ _ k hk)
    have hg := blk_set (blk_set (blk_set HX.out.2.2.2.2 0 (Value.slice B5 (l0_0.length + l1_0.length) d5)) 1 (Value.slice B11 (l0_1.length + l1_1.length) d11)) 2 (.int .i64 (a0_2 + a1_2))
    have hres := (hfar (w.heap.size + 2) (by omega)).trans HX.out.1.res
    have hn : ∀ {v : Value} {xs : List Value} {n : Nat}, W.ownsRow w.heap.size 3 1 v n xs → ∀ k, v.ownBlock = some k → (((W.setCell ⟨g18, 0, none⟩ (Value.slice B5 (l0_0.length + l1_0.length) d5)).setCell ⟨g18, 1, none⟩ (Value.slice B11 (l0_1.length + l1_1.length) d11)).setCell ⟨g18, 2, none⟩ (.int .i64 (a0_2 + a1_2))).heap[k]? = W.heap[k]? := fun h k hk => hfar k (fun e => by obtain ⟨cells, hc⟩ := own_typed h k hk; rw [e, HX.out.2.2.2.2] at hc; simp at hc)
    have ho5 := own_move HX.out.2.1 (hn HX.out.2.1)
    have ho11 := own_move HX.out.2.2.1 (hn HX.out.2.2.1)
    have hbl : Below w.heap.size w (((W.setCell ⟨g18, 0, none⟩ (Value.slice B5 (l0_0.length + l1_0.length) d5)).setCell ⟨g18, 1, none⟩ (Value.slice B11 (l0_1.length + l1_1.length) d11)).setCell ⟨g18, 2, none⟩ (.int .i64 (a0_2 + a1_2))) := ((HX.out.1.below.setCell (p := ⟨g18, 0, none⟩) (by show w.heap.size ≤ g18; omega) _).setCell (p := ⟨g18, 1, none⟩) (by show w.heap.size ≤ g18; omega) _).setCell (p := ⟨g18, 2, none⟩) (by show w.heap.size ≤ g18; omega) _
    have HY := Aside0.mk (And.intro hg (And.intro hres (And.intro ho5 (And.intro ho11 (And.intro hbl HX.out.2.2.2.1)))))
    clear hfar hg hres hn ho5 ho11 hbl HX H0 H1
    generalize (((W.setCell ⟨g18, 0, none⟩ (Value.slice B5 (l0_0.length + l1_0.length) d5)).setCell ⟨g18, 1, none⟩ (Value.slice B11 (l0_1.length + l1_1.length) d11)).setCell ⟨g18, 2, none⟩ (.int .i64 (a0_2 + a1_2))) = X at HY ⊢
    simp only [List.length_append, List.setIfInBounds_toArray, List.set_cons_zero, List.set_cons_succ] at HY
    have s0 := (blk_cell HY.out.1 0).trans rfl
    have s1 := (blk_cell HY.out.1 1).trans rfl
    have s2 := (blk_cell HY.out.1 2).trans rfl
    have r0 := (blk_cell HY.out.2.1 0).trans rfl
    have r1 := (blk_cell HY.out.2.1 1).trans rfl
    have r2 := (blk_cell HY.out.2.1 2).trans rfl
    have f0 := blk_frozen HY.out.2.1 0
    have f1 := blk_frozen HY.out.2.1 1
    have f2 := blk_frozen HY.out.2.1 2
    have hwith := fun W => within_calls (a0_2 + a1_2) W
    by_cases hlen : (4096 : Int) < (l0_1.length : Int) + (l1_1.length : Int)
    ·
     have hlen' : decide ((4096 : Int) < (l0_1.length : Int) + (l1_1.length : Int)) = true := by simpa using hlen
     obtain rfl : ([], [], 0, 2) = r := by rw [← HR.out, lin_Add.val, if_pos hv0, if_pos hv1, if_pos (by rw [List.length_append]; omega)]
     go_wp2
     have h3 := blk_set (blk_set (blk_set HY.out.2.1 0 (.slice none 0 0)) 1 (.slice none 0 0)) 2 (.int .i64 0)
     refine bodyPost_ret (results_ct rfl _ _ (w.heap.size + 2) 24 #[.slice none 0 0, .slice none 0 0, .int .i64 0] (0, 0) _ rfl h3 hu24 rfl (by kernel_rfl)) rfl ⟨.slice none 0 0, .slice none 0 0, rfl, own_nil _ _ _ _, own_nil _ _ _ _, fun k hk => by simp [Value.ownBlock] at hk, ?_⟩
     exact ((HY.out.2.2.2.2.1.setCell (p := ⟨w.heap.size + 2, 0, none⟩) (by simp) _).setCell (p := ⟨w.heap.size + 2, 1, none⟩) (by simp) _).setCell (p := ⟨w.heap.size + 2, 2, none⟩) (by simp) _
    ·
     have hlen' : decide ((4096 : Int) < (l0_1.length : Int) + (l1_1.length : Int)) = false := by simpa using hlen
     by_cases hin : withinB (a0_2 + a1_2) = true
     ·
      obtain rfl : (l0_0 ++ l1_0, l0_1 ++ l1_1, a0_2 + a1_2, 0) = r := by rw [← HR.out, lin_Add.val, if_pos hv0, if_pos hv1, if_neg (by rw [List.length_append]; omega), if_pos hin]
      rw [hin] at hwith
      go_wp2_with fail
      refine (hwith _).mono ?_
      rintro e w6 ⟨rfl, rfl⟩
      clear hwith
      go_wp2
      have h3 := blk_set (blk_set (blk_set HY.out.2.1 0 (Value.slice B5 (l0_0.length + l1_0.length) d5)) 1 (Value.slice B11 (l0_1.length + l1_1.length) d11)) 2 (.int .i64 (a0_2 + a1_2))
      have hn : ∀ {v : Value} {xs : List Value} {n : Nat}, X.ownsRow w.heap.size 3 1 v n xs → ∀ k, v.ownBlock = some k → (((X.setCell ⟨w.heap.size + 2, 0, none⟩ (Value.slice B5 (l0_0.length + l1_0.length) d5)).setCell ⟨w.heap.size + 2, 1, none⟩ (Value.slice B11 (l0_1.length + l1_1.length) d11)).setCell ⟨w.heap.size + 2, 2, none⟩ (.int .i64 (a0_2 + a1_2))).heap[k]? = X.heap[k]? := fun h k hk => by
       have hk2 : k ≠ w.heap.size + 2 := fun e => by obtain ⟨cells, hc⟩ := own_typed h k hk; rw [e, HY.out.2.1] at hc; simp at hc
       exact ((Below.heap_setCell _ ⟨w.heap.size + 2, 2, none⟩ _ k hk2).trans (Below.heap_setCell _ ⟨w.heap.size + 2, 1, none⟩ _ k hk2)).trans (Below.heap_setCell _ ⟨w.heap.size + 2, 0, none⟩ _ k hk2)
      refine bodyPost_ret (results_ct rfl _ _ (w.heap.size + 2) 24 #[(Value.slice B5 (l0_0.length + l1_0.length) d5), (Value.slice B11 (l0_1.length + l1_1.length) d11), (.int .i64 (a0_2 + a1_2))] (0, 0) _ rfl h3 hu24 rfl (by kernel_rfl)) rfl ⟨(Value.slice B5 (l0_0.length + l1_0.length) d5), (Value.slice B11 (l0_1.length + l1_1.length) d11), rfl, ?_, ?_, ?_, ?_⟩
      ·
       simpa only [List.length_append, List.map_append] using own_move HY.out.2.2.1 (hn HY.out.2.2.1)
      ·
       simpa only [List.length_append, List.map_append] using own_move HY.out.2.2.2.1 (hn HY.out.2.2.2.1)
      ·
       simpa only [List.length_append] using HY.out.2.2.2.2.2
      ·
       exact ((HY.out.2.2.2.2.1.setCell (p := ⟨w.heap.size + 2, 0, none⟩) (by simp) _).setCell (p := ⟨w.heap.size + 2, 1, none⟩) (by simp) _).setCell (p := ⟨w.heap.size + 2, 2, none⟩) (by simp) _
     ·
      obtain rfl : ([], [], 0, 2) = r := by rw [← HR.out, lin_Add.val, if_pos hv0, if_pos hv1, if_neg (by rw [List.length_append]; omega), if_neg hin]
      rw [show withinB (a0_2 + a1_2) = false by simpa using hin] at hwith
      go_wp2_with fail
      refine (hwith _).mono ?_
      rintro e w6 ⟨rfl, rfl⟩
      clear hwith
      go_wp2
      have h3 := blk_set (blk_set (blk_set HY.out.2.1 0 (.slice none 0 0)) 1 (.slice none 0 0)) 2 (.int .i64 0)
      refine bodyPost_ret (results_ct rfl _ _ (w.heap.size + 2) 24 #[.slice none 0 0, .slice none 0 0, .int .i64 0] (0, 0) _ rfl h3 hu24 rfl (by kernel_rfl)) rfl ⟨.slice none 0 0, .slice none 0 0, rfl, own_nil _ _ _ _, own_nil _ _ _ _, fun k hk => by simp [Value.ownBlock] at hk, ?_⟩
      exact ((HY.out.2.2.2.2.1.setCell (p := ⟨w.heap.size + 2, 0, none⟩) (by simp) _).setCell (p := ⟨w.heap.size + 2, 1, none⟩) (by simp) _).setCell (p := ⟨w.heap.size + 2, 2, none⟩) (by simp) _
   have HJ := Lib.hid hJ
   clear hJ
   refine three_ (i := 4) (j := 10) (k := 18) (Ni := some 29) (Nj := some 35) (Nk := some 9) (bl 20 127967) (bl 20 128975) (bl 20 390095) rfl rfl rfl rfl rfl rfl (by kernel_rfl) (by decide) (by decide) (by decide) (fun K hK => ?_) (fun K hK => ?_) (fun K hK => ?_)
   ·
    -- 4
    refine value_ (w1 := ?_) (v := ?_) (by rfl) rfl ?_ ?_
    rotate_left 2
    ·
     go_simp
     constructor
     ·
      rfl
     ·
      rfl
    have hb := (Below.refl u0.heap.size u0).alloc (Nat.le_refl _) (.cells #[.slice A0_0 l0_0.length c0_0, .slice A1_0 l1_0.length c1_0] 22)
    have HT := Aside0.mk (HS.out.next hb)
    clear HS
    have HS := HT
    clear HT
    have N4 := Aside0.mk (blk_new u0 (.cells #[.slice A0_0 l0_0.length c0_0, .slice A1_0 l1_0.length c1_0] 22))
    clear hb
    refine hK.out _ _ HS.out.held (fun hHeld => ?_)
    clear hK K
    generalize World.alloc u0 (.cells #[.slice A0_0 l0_0.length c0_0, .slice A1_0 l1_0.length c1_0] 22) = u1 at HS hHeld N4  ⊢
    generalize u0.heap.size = g4 at N4 ⊢
    refine norm_ (a' := ?_) ?_ ?_
    rotate_left
    ·
     show Act.put _ (some 29) _ = _
     simp only [Act.put, List.setIfInBounds_toArray, List.set_cons_zero, List.set_cons_succ, i64_w, i32_w]
     rfl
    refine three_ (i := 5) (j := 10) (k := 18) (Ni := some 30) (Nj := some 35) (Nk := some 9) (bl 20 127999) (bl 20 128991) (bl 20 390111) rfl rfl rfl rfl rfl rfl (by kernel_rfl) (by decide) (by decide) (by decide) (fun K hK => ?_) (fun K hK => ?_) (fun K hK => ?_)
    ·
     -- 5
     have hcat := concat_calls g4 A0_0 c0_0 l0_0 A1_0 c1_0 l1_0 u1 ((blk_cell N4.out 0).trans rfl) ((blk_cell N4.out 1).trans rfl) (blk_lt N4.out) (Kd.C_below H0.out.1 HS.out.below) (Kd.C_below H1.out.1 HS.out.below) (by have := HV.out; omega) (by have := HV.out; omega)
     refine goes_ Try.func59 (by kernel_rfl) rfl #[.slice (some ⟨g4, 0, none⟩) 2 2] (by rfl) rfl rfl (by (try simp only [List.map_toArray, List.map_cons, List.map_nil]); first | done | rfl) ?_
     refine hcat.mono ?_
     rintro e u2 ⟨v, rfl, hown, hb⟩
     clear hcat
     obtain ⟨B5, d5, rfl, _, _⟩ := Kd.R_reads (R_own hown (ok := fun _ => True) (fun _ _ => trivial))
     have hgr := HS.out.big
     have HT := Aside0.mk (HS.out.next hb)
     clear HS
     have HS := HT
     clear HT
     have M4 := Aside0.mk ((hb.block _ (blk_lt N4.out)).trans N4.out)
     clear N4
     have N4 := M4
     clear M4
     have N5 := Aside0.mk (own_weaken hown (show w.heap.size ≤ u1.heap.size by omega))
     clear hown hb hgr
     refine ⟨_, rfl, hK.out _ _ HS.out.held (fun hHeld => ?_)⟩
     clear hK K
     refine norm_ (a' := ?_) ?_ ?_
     rotate_left
     ·
      show Act.put _ (some 30) _ = _
      simp only [Act.put, List.setIfInBounds_toArray, List.set_cons_zero, List.set_cons_succ, i64_w, i32_w]
      rfl
     refine two_ (i := 10) (j := 18) (Ni := some 35) (Nj := some 9) (bl 20 129023) (bl 20 390143) rfl rfl rfl rfl (by kernel_rfl) (by decide) (by decide) (fun K hK => ?_) (fun K hK => ?_)
     ·
      -- 10
      refine value_ (w1 := ?_) (v := ?_) (by rfl) rfl ?_ ?_
      rotate_left 2
      ·
       go_simp
       constructor
       ·
        rfl
       ·
        rfl
      have hb := (Below.refl u2.heap.size u2).alloc (Nat.le_refl _) (.cells #[.slice A0_1 l0_1.length c0_1, .slice A1_1 l1_1.length c1_1] 22)
      have HT := Aside0.mk (HS.out.next hb)
      clear HS
      have HS := HT
      clear HT
      have M4 := Aside0.mk ((hb.block _ (blk_lt N4.out)).trans N4.out)
      clear N4
      have N4 := M4
      clear M4
      have M5 := Aside0.mk (own_move N5.out (fun k hk => hb.block k (ownBlock_lt N5.out k hk)))
      clear N5
      have N5 := M5
      clear M5
      have N10 := Aside0.mk (blk_new u2 (.cells #[.slice A0_1 l0_1.length c0_1, .slice A1_1 l1_1.length c1_1] 22))
      clear hb
      refine hK.out _ _ HS.out.held (fun hHeld => ?_)
      clear hK K
      generalize World.alloc u2 (.cells #[.slice A0_1 l0_1.length c0_1, .slice A1_1 l1_1.length c1_1] 22) = u3 at HS hHeld N10 N4 N5 ⊢
      generalize u2.heap.size = g10 at N10 ⊢
      refine norm_ (a' := ?_) ?_ ?_
      rotate_left
      ·
       show Act.put _ (some 35) _ = _
       simp only [Act.put, List.setIfInBounds_toArray, List.set_cons_zero, List.set_cons_succ, i64_w, i32_w]
       rfl
      refine two_ (i := 11) (j := 18) (Ni := some 36) (Nj := some 9) (bl 20 131071) (bl 20 391167) rfl rfl rfl rfl (by kernel_rfl) (by decide) (by decide) (fun K hK => ?_) (fun K hK => ?_)
      ·
       -- 11
       have hcat := concat_calls g10 A0_1 c0_1 l0_1 A1_1 c1_1 l1_1 u3 ((blk_cell N10.out 0).trans rfl) ((blk_cell N10.out 1).trans rfl) (blk_lt N10.out) (Kd.C_below H0.out.2 HS.out.below) (Kd.C_below H1.out.2 HS.out.below) (by have := HV.out; omega) (by have := HV.out; omega)
       refine goes_ Try.func59 (by kernel_rfl) rfl #[.slice (some ⟨g10, 0, none⟩) 2 2] (by rfl) rfl rfl (by (try simp only [List.map_toArray, List.map_cons, List.map_nil]); first | done | rfl) ?_
       refine hcat.mono ?_
       rintro e u4 ⟨v, rfl, hown, hb⟩
       clear hcat
       obtain ⟨B11, d11, rfl, _, _⟩ := Kd.R_reads (R_own hown (ok := fun _ => True) (fun _ _ => trivial))
       have hgr := HS.out.big
       have NE := Aside0.mk (show ∀ k, (Value.slice B5 (l0_0 ++ l1_0).length d5).ownBlock = some k → (Value.slice B11 (l0_1 ++ l1_1).length d11).ownBlock ≠ some k from fun k hk hl => by have h1 := ownBlock_lt N5.out k hk; have h2 := own_base hown k hl; omega)
       have HT := Aside0.mk (HS.out.next hb)
       clear HS
       have HS := HT
       clear HT
       have M4 := Aside0.mk ((hb.block _ (blk_lt N4.out)).trans N4.out)
       clear N4
       have N4 := M4
       clear M4
       have M5 := Aside0.mk (own_move N5.out (fun k hk => hb.block k (ownBlock_lt N5.out k hk)))
       clear N5
       have N5 := M5
       clear M5
       have M10 := Aside0.mk ((hb.block _ (blk_lt N10.out)).trans N10.out)
       clear N10
       have N10 := M10
       clear M10
       have N11 := Aside0.mk (own_weaken hown (show w.heap.size ≤ u3.heap.size by omega))
       clear hown hb hgr
       refine ⟨_, rfl, hK.out _ _ HS.out.held (fun hHeld => ?_)⟩
       clear hK K
       refine norm_ (a' := ?_) ?_ ?_
       rotate_left
       ·
        show Act.put _ (some 36) _ = _
        simp only [Act.put, List.setIfInBounds_toArray, List.set_cons_zero, List.set_cons_succ, i64_w, i32_w]
        rfl
       refine pure_ (i := 17) (N := some 42) (v := ?_) (a' := ?_) (bl 20 262143) rfl rfl (by kernel_rfl) (fun _ _ _ h => h) (Or.inl ⟨by rfl, ?_⟩) ?_ ?_; rotate_left; · (intro w'; go_simp; with_reducible rfl)
       rotate_left; · (simp only [Act.put, List.setIfInBounds_toArray, List.set_cons_zero, List.set_cons_succ, i64_w, i32_w]; rfl)
       refine one_ (i := 18) (N := some 9) (bl 20 524287) rfl rfl (by kernel_rfl) (by decide) (fun K hK => ?_)
       refine value_ (w1 := ?_) (v := ?_) (by rfl) rfl ?_ ?_
       rotate_left 2
       ·
        go_simp
        constructor
        ·
         rfl
        ·
         rfl
       have hb := (Below.refl u4.heap.size u4).alloc (Nat.le_refl _) (.cells #[.slice none 0 0, .slice none 0 0, .int .i64 0] 24)
       have NG := Aside0.mk HS.out.big
       have HT := Aside0.mk (HS.out.next hb)
       clear HS
       have HS := HT
       clear HT
       have M4 := Aside0.mk ((hb.block _ (blk_lt N4.out)).trans N4.out)
       clear N4
       have N4 := M4
       clear M4
       have M5 := Aside0.mk (own_move N5.out (fun k hk => hb.block k (ownBlock_lt N5.out k hk)))
       clear N5
       have N5 := M5
       clear M5
       have M10 := Aside0.mk ((hb.block _ (blk_lt N10.out)).trans N10.out)
       clear N10
       have N10 := M10
       clear M10
       have M11 := Aside0.mk (own_move N11.out (fun k hk => hb.block k (ownBlock_lt N11.out k hk)))
       clear N11
       have N11 := M11
       clear M11
       have N18 := Aside0.mk (blk_new u4 (.cells #[.slice none 0 0, .slice none 0 0, .int .i64 0] 24))
       clear hb
       refine hK.out _ _ HS.out.held (fun hHeld => ?_)
       clear hK K
       generalize World.alloc u4 (.cells #[.slice none 0 0, .slice none 0 0, .int .i64 0] 24) = u5 at HS hHeld N18 N4 N5 N10 N11 ⊢
       generalize u4.heap.size = g18 at N18 NG ⊢
       refine norm_ (a' := ?_) ?_ ?_
       rotate_left
       ·
        show Act.put _ (some 9) _ = _
        simp only [Act.put, List.setIfInBounds_toArray, List.set_cons_zero, List.set_cons_succ, i64_w, i32_w]
        rfl
       have hh := HJ.out (g4, (B5, d5), g10, (B11, d11), g18) _ ⟨HS.out, N5.out, N11.out, NE.out, N18.out, NG.out⟩
       simp only [putAll, Act.put, List.setIfInBounds_toArray, List.set_cons_zero, List.set_cons_succ] at hh
       exact hh
      ·
       -- 18
       refine value_ (w1 := ?_) (v := ?_) (by rfl) rfl ?_ ?_
       rotate_left 2
       ·
        go_simp
        constructor
        ·
         rfl
        ·
         rfl
       have hb := (Below.refl u3.heap.size u3).alloc (Nat.le_refl _) (.cells #[.slice none 0 0, .slice none 0 0, .int .i64 0] 24)
       have NG := Aside0.mk HS.out.big
       have HT := Aside0.mk (HS.out.next hb)
       clear HS
       have HS := HT
       clear HT
       have M4 := Aside0.mk ((hb.block _ (blk_lt N4.out)).trans N4.out)
       clear N4
       have N4 := M4
       clear M4
       have M5 := Aside0.mk (own_move N5.out (fun k hk => hb.block k (ownBlock_lt N5.out k hk)))
       clear N5
       have N5 := M5
       clear M5
       have M10 := Aside0.mk ((hb.block _ (blk_lt N10.out)).trans N10.out)
       clear N10
       have N10 := M10
       clear M10
       have N18 := Aside0.mk (blk_new u3 (.cells #[.slice none 0 0, .slice none 0 0, .int .i64 0] 24))
       clear hb
       refine hK.out _ _ HS.out.held (fun hHeld => ?_)
       clear hK K
       generalize World.alloc u3 (.cells #[.slice none 0 0, .slice none 0 0, .int .i64 0] 24) = u4 at HS hHeld N18 N4 N5 N10 ⊢
       generalize u3.heap.size = g18 at N18 NG ⊢
       refine norm_ (a' := ?_) ?_ ?_
       rotate_left
       ·
        show Act.put _ (some 9) _ = _
        simp only [Act.put, List.setIfInBounds_toArray, List.set_cons_zero, List.set_cons_succ, i64_w, i32_w]
        rfl
       refine one_ (i := 11) (N := some 36) (bl 20 393215) rfl rfl (by kernel_rfl) (by decide) (fun K hK => ?_)
       have hcat := concat_calls g10 A0_1 c0_1 l0_1 A1_1 c1_1 l1_1 u4 ((blk_cell N10.out 0).trans rfl) ((blk_cell N10.out 1).trans rfl) (blk_lt N10.out) (Kd.C_below H0.out.2 HS.out.below) (Kd.C_below H1.out.2 HS.out.below) (by have := HV.out; omega) (by have := HV.out; omega)
       refine goes_ Try.func59 (by kernel_rfl) rfl #[.slice (some ⟨g10, 0, none⟩) 2 2] (by rfl) rfl rfl (by (try simp only [List.map_toArray, List.map_cons, List.map_nil]); first | done | rfl) ?_
       refine hcat.mono ?_
       rintro e u5 ⟨v, rfl, hown, hb⟩
       clear hcat
       obtain ⟨B11, d11, rfl, _, _⟩ := Kd.R_reads (R_own hown (ok := fun _ => True) (fun _ _ => trivial))
       have hgr := HS.out.big
       have NE := Aside0.mk (show ∀ k, (Value.slice B5 (l0_0 ++ l1_0).length d5).ownBlock = some k → (Value.slice B11 (l0_1 ++ l1_1).length d11).ownBlock ≠ some k from fun k hk hl => by have h1 := ownBlock_lt N5.out k hk; have h2 := own_base hown k hl; omega)
       have HT := Aside0.mk (HS.out.next hb)
       clear HS
       have HS := HT
       clear HT
       have M4 := Aside0.mk ((hb.block _ (blk_lt N4.out)).trans N4.out)
       clear N4
       have N4 := M4
       clear M4
       have M5 := Aside0.mk (own_move N5.out (fun k hk => hb.block k (ownBlock_lt N5.out k hk)))
       clear N5
       have N5 := M5
       clear M5
       have M10 := Aside0.mk ((hb.block _ (blk_lt N10.out)).trans N10.out)
       clear N10
       have N10 := M10
       clear M10
       have M18 := Aside0.mk ((hb.block _ (blk_lt N18.out)).trans N18.out)
       clear N18
       have N18 := M18
       clear M18
       have N11 := Aside0.mk (own_weaken hown (show w.heap.size ≤ u4.heap.size by omega))
       clear hown hb hgr
       refine ⟨_, rfl, hK.out _ _ HS.out.held (fun hHeld => ?_)⟩
       clear hK K
       refine norm_ (a' := ?_) ?_ ?_
       rotate_left
       ·
        show Act.put _ (some 36) _ = _
        simp only [Act.put, List.setIfInBounds_toArray, List.set_cons_zero, List.set_cons_succ, i64_w, i32_w]
        rfl
       refine pure_ (i := 17) (N := some 42) (v := ?_) (a' := ?_) (bl 20 524287) rfl rfl (by kernel_rfl) (fun _ _ _ h => h) (Or.inl ⟨by rfl, ?_⟩) ?_ ?_; rotate_left; · (intro w'; go_simp; with_reducible rfl)
       rotate_left; · (simp only [Act.put, List.setIfInBounds_toArray, List.set_cons_zero, List.set_cons_succ, i64_w, i32_w]; rfl)
       have hh := HJ.out (g4, (B5, d5), g10, (B11, d11), g18) _ ⟨HS.out, N5.out, N11.out, NE.out, N18.out, NG.out⟩
       simp only [putAll, Act.put, List.setIfInBounds_toArray, List.set_cons_zero, List.set_cons_succ] at hh
       exact hh
     ·
      -- 18
      refine value_ (w1 := ?_) (v := ?_) (by rfl) rfl ?_ ?_
      rotate_left 2
      ·
       go_simp
       constructor
       ·
        rfl
       ·
        rfl
      have hb := (Below.refl u2.heap.size u2).alloc (Nat.le_refl _) (.cells #[.slice none 0 0, .slice none 0 0, .int .i64 0] 24)
      have NG := Aside0.mk HS.out.big
      have HT := Aside0.mk (HS.out.next hb)
      clear HS
      have HS := HT
      clear HT
      have M4 := Aside0.mk ((hb.block _ (blk_lt N4.out)).trans N4.out)
      clear N4
      have N4 := M4
      clear M4
      have M5 := Aside0.mk (own_move N5.out (fun k hk => hb.block k (ownBlock_lt N5.out k hk)))
      clear N5
      have N5 := M5
      clear M5
      have N18 := Aside0.mk (blk_new u2 (.cells #[.slice none 0 0, .slice none 0 0, .int .i64 0] 24))
      clear hb
      refine hK.out _ _ HS.out.held (fun hHeld => ?_)
      clear hK K
      generalize World.alloc u2 (.cells #[.slice none 0 0, .slice none 0 0, .int .i64 0] 24) = u3 at HS hHeld N18 N4 N5 ⊢
      generalize u2.heap.size = g18 at N18 NG ⊢
      refine norm_ (a' := ?_) ?_ ?_
      rotate_left
      ·
       show Act.put _ (some 9) _ = _
       simp only [Act.put, List.setIfInBounds_toArray, List.set_cons_zero, List.set_cons_succ, i64_w, i32_w]
       rfl
      refine one_ (i := 10) (N := some 35) (bl 20 391167) rfl rfl (by kernel_rfl) (by decide) (fun K hK => ?_)
      refine value_ (w1 := ?_) (v := ?_) (by rfl) rfl ?_ ?_
      rotate_left 2
      ·
       go_simp
       constructor
       ·
        rfl
       ·
        rfl
      have hb := (Below.refl u3.heap.size u3).alloc (Nat.le_refl _) (.cells #[.slice A0_1 l0_1.length c0_1, .slice A1_1 l1_1.length c1_1] 22)
      have HT := Aside0.mk (HS.out.next hb)
      clear HS
      have HS := HT
      clear HT
      have M4 := Aside0.mk ((hb.block _ (blk_lt N4.out)).trans N4.out)
      clear N4
      have N4 := M4
      clear M4
      have M5 := Aside0.mk (own_move N5.out (fun k hk => hb.block k (ownBlock_lt N5.out k hk)))
      clear N5
      have N5 := M5
      clear M5
      have M18 := Aside0.mk ((hb.block _ (blk_lt N18.out)).trans N18.out)
      clear N18
      have N18 := M18
      clear M18
      have N10 := Aside0.mk (blk_new u3 (.cells #[.slice A0_1 l0_1.length c0_1, .slice A1_1 l1_1.length c1_1] 22))
      clear hb
      refine hK.out _ _ HS.out.held (fun hHeld => ?_)
      clear hK K
      generalize World.alloc u3 (.cells #[.slice A0_1 l0_1.length c0_1, .slice A1_1 l1_1.length c1_1] 22) = u4 at HS hHeld N10 N4 N5 N18 ⊢
      generalize u3.heap.size = g10 at N10 ⊢
      refine norm_ (a' := ?_) ?_ ?_
      rotate_left
      ·
       show Act.put _ (some 35) _ = _
       simp only [Act.put, List.setIfInBounds_toArray, List.set_cons_zero, List.set_cons_succ, i64_w, i32_w]
       rfl
      refine one_ (i := 11) (N := some 36) (bl 20 393215) rfl rfl (by kernel_rfl) (by decide) (fun K hK => ?_)
      have hcat := concat_calls g10 A0_1 c0_1 l0_1 A1_1 c1_1 l1_1 u4 ((blk_cell N10.out 0).trans rfl) ((blk_cell N10.out 1).trans rfl) (blk_lt N10.out) (Kd.C_below H0.out.2 HS.out.below) (Kd.C_below H1.out.2 HS.out.below) (by have := HV.out; omega) (by have := HV.out; omega)
      refine goes_ Try.func59 (by kernel_rfl) rfl #[.slice (some ⟨g10, 0, none⟩) 2 2] (by rfl) rfl rfl (by (try simp only [List.map_toArray, List.map_cons, List.map_nil]); first | done | rfl) ?_
      refine hcat.mono ?_
      rintro e u5 ⟨v, rfl, hown, hb⟩
      clear hcat
      obtain ⟨B11, d11, rfl, _, _⟩ := Kd.R_reads (R_own hown (ok := fun _ => True) (fun _ _ => trivial))
      have hgr := HS.out.big
      have NE := Aside0.mk (show ∀ k, (Value.slice B5 (l0_0 ++ l1_0).length d5).ownBlock = some k → (Value.slice B11 (l0_1 ++ l1_1).length d11).ownBlock ≠ some k from fun k hk hl => by have h1 := ownBlock_lt N5.out k hk; have h2 := own_base hown k hl; omega)
      have HT := Aside0.mk (HS.out.next hb)
      clear HS
      have HS := HT
      clear HT
      have M4 := Aside0.mk ((hb.block _ (blk_lt N4.out)).trans N4.out)
      clear N4
      have N4 := M4
      clear M4
      have M5 := Aside0.mk (own_move N5.out (fun k hk => hb.block k (ownBlock_lt N5.out k hk)))
      clear N5
      have N5 := M5
      clear M5
      have M18 := Aside0.mk ((hb.block _ (blk_lt N18.out)).trans N18.out)
      clear N18
      have N18 := M18
      clear M18
      have M10 := Aside0.mk ((hb.block _ (blk_lt N10.out)).trans N10.out)
      clear N10
      have N10 := M10
      clear M10
      have N11 := Aside0.mk (own_weaken hown (show w.heap.size ≤ u4.heap.size by omega))
      clear hown hb hgr
      refine ⟨_, rfl, hK.out _ _ HS.out.held (fun hHeld => ?_)⟩
      clear hK K
      refine norm_ (a' := ?_) ?_ ?_
      rotate_left
      ·
       show Act.put _ (some 36) _ = _
       simp only [Act.put, List.setIfInBounds_toArray, List.set_cons_zero, List.set_cons_succ, i64_w, i32_w]
       rfl
      refine pure_ (i := 17) (N := some 42) (v := ?_) (a' := ?_) (bl 20 524287) rfl rfl (by kernel_rfl) (fun _ _ _ h => h) (Or.inl ⟨by rfl, ?_⟩) ?_ ?_; rotate_left; · (intro w'; go_simp; with_reducible rfl)
      rotate_left; · (simp only [Act.put, List.setIfInBounds_toArray, List.set_cons_zero, List.set_cons_succ, i64_w, i32_w]; rfl)
      have hh := HJ.out (g4, (B5, d5), g10, (B11, d11), g18) _ ⟨HS.out, N5.out, N11.out, NE.out, N18.out, NG.out⟩
      simp only [putAll, Act.put, List.setIfInBounds_toArray, List.set_cons_zero, List.set_cons_succ] at hh
      exact hh
    ·
     -- 10
     refine value_ (w1 := ?_) (v := ?_) (by rfl) rfl ?_ ?_
     rotate_left 2
     ·
      go_simp
      constructor
      ·
       rfl
      ·
       rfl
     have hb := (Below.refl u1.heap.size u1).alloc (Nat.le_refl _) (.cells #[.slice A0_1 l0_1.length c0_1, .slice A1_1 l1_1.length c1_1] 22)
     have HT := Aside0.mk (HS.out.next hb)
     clear HS
     have HS := HT
     clear HT
     have M4 := Aside0.mk ((hb.block _ (blk_lt N4.out)).trans N4.out)
     clear N4
     have N4 := M4
     clear M4
     have N10 := Aside0.mk (blk_new u1 (.cells #[.slice A0_1 l0_1.length c0_1, .slice A1_1 l1_1.length c1_1] 22))
     clear hb
     refine hK.out _ _ HS.out.held (fun hHeld => ?_)
     clear hK K
     generalize World.alloc u1 (.cells #[.slice A0_1 l0_1.length c0_1, .slice A1_1 l1_1.length c1_1] 22) = u2 at HS hHeld N10 N4 ⊢
     generalize u1.heap.size = g10 at N10 ⊢
     refine norm_ (a' := ?_) ?_ ?_
     rotate_left
     ·
      show Act.put _ (some 35) _ = _
      simp only [Act.put, List.setIfInBounds_toArray, List.set_cons_zero, List.set_cons_succ, i64_w, i32_w]
      rfl
     refine two_ (i := 5) (j := 18) (Ni := some 30) (Nj := some 9) (bl 20 129023) (bl 20 391135) rfl rfl rfl rfl (by kernel_rfl) (by decide) (by decide) (fun K hK => ?_) (fun K hK => ?_)
     ·
      -- 5
      have hcat := concat_calls g4 A0_0 c0_0 l0_0 A1_0 c1_0 l1_0 u2 ((blk_cell N4.out 0).trans rfl) ((blk_cell N4.out 1).trans rfl) (blk_lt N4.out) (Kd.C_below H0.out.1 HS.out.below) (Kd.C_below H1.out.1 HS.out.below) (by have := HV.out; omega) (by have := HV.out; omega)
      refine goes_ Try.func59 (by kernel_rfl) rfl #[.slice (some ⟨g4, 0, none⟩) 2 2] (by rfl) rfl rfl (by (try simp only [List.map_toArray, List.map_cons, List.map_nil]); first | done | rfl) ?_
      refine hcat.mono ?_
      rintro e u3 ⟨v, rfl, hown, hb⟩
      clear hcat
      obtain ⟨B5, d5, rfl, _, _⟩ := Kd.R_reads (R_own hown (ok := fun _ => True) (fun _ _ => trivial))
      have hgr := HS.out.big
      have HT := Aside0.mk (HS.out.next hb)
      clear HS
      have HS := HT
      clear HT
      have M4 := Aside0.mk ((hb.block _ (blk_lt N4.out)).trans N4.out)
      clear N4
      have N4 := M4
      clear M4
      have M10 := Aside0.mk ((hb.block _ (blk_lt N10.out)).trans N10.out)
      clear N10
      have N10 := M10
      clear M10
      have N5 := Aside0.mk (own_weaken hown (show w.heap.size ≤ u2.heap.size by omega))
      clear hown hb hgr
      refine ⟨_, rfl, hK.out _ _ HS.out.held (fun hHeld => ?_)⟩
      clear hK K
      refine norm_ (a' := ?_) ?_ ?_
      rotate_left
      ·
       show Act.put _ (some 30) _ = _
       simp only [Act.put, List.setIfInBounds_toArray, List.set_cons_zero, List.set_cons_succ, i64_w, i32_w]
       rfl
      refine two_ (i := 11) (j := 18) (Ni := some 36) (Nj := some 9) (bl 20 131071) (bl 20 391167) rfl rfl rfl rfl (by kernel_rfl) (by decide) (by decide) (fun K hK => ?_) (fun K hK => ?_)
      ·
       -- 11
       have hcat := concat_calls g10 A0_1 c0_1 l0_1 A1_1 c1_1 l1_1 u3 ((blk_cell N10.out 0).trans rfl) ((blk_cell N10.out 1).trans rfl) (blk_lt N10.out) (Kd.C_below H0.out.2 HS.out.below) (Kd.C_below H1.out.2 HS.out.below) (by have := HV.out; omega) (by have := HV.out; omega)
       refine goes_ Try.func59 (by kernel_rfl) rfl #[.slice (some ⟨g10, 0, none⟩) 2 2] (by rfl) rfl rfl (by (try simp only [List.map_toArray, List.map_cons, List.map_nil]); first | done | rfl) ?_
       refine hcat.mono ?_
       rintro e u4 ⟨v, rfl, hown, hb⟩
       clear hcat
       obtain ⟨B11, d11, rfl, _, _⟩ := Kd.R_reads (R_own hown (ok := fun _ => True) (fun _ _ => trivial))
       have hgr := HS.out.big
       have NE := Aside0.mk (show ∀ k, (Value.slice B5 (l0_0 ++ l1_0).length d5).ownBlock = some k → (Value.slice B11 (l0_1 ++ l1_1).length d11).ownBlock ≠ some k from fun k hk hl => by have h1 := ownBlock_lt N5.out k hk; have h2 := own_base hown k hl; omega)
       have HT := Aside0.mk (HS.out.next hb)
       clear HS
       have HS := HT
       clear HT
       have M4 := Aside0.mk ((hb.block _ (blk_lt N4.out)).trans N4.out)
       clear N4
       have N4 := M4
       clear M4
       have M10 := Aside0.mk ((hb.block _ (blk_lt N10.out)).trans N10.out)
       clear N10
       have N10 := M10
       clear M10
       have M5 := Aside0.mk (own_move N5.out (fun k hk => hb.block k (ownBlock_lt N5.out k hk)))
       clear N5
       have N5 := M5
       clear M5
       have N11 := Aside0.mk (own_weaken hown (show w.heap.size ≤ u3.heap.size by omega))
       clear hown hb hgr
       refine ⟨_, rfl, hK.out _ _ HS.out.held (fun hHeld => ?_)⟩
       clear hK K
       refine norm_ (a' := ?_) ?_ ?_
       rotate_left
       ·
        show Act.put _ (some 36) _ = _
        simp only [Act.put, List.setIfInBounds_toArray, List.set_cons_zero, List.set_cons_succ, i64_w, i32_w]
        rfl
       refine pure_ (i := 17) (N := some 42) (v := ?_) (a' := ?_) (bl 20 262143) rfl rfl (by kernel_rfl) (fun _ _ _ h => h) (Or.inl ⟨by rfl, ?_⟩) ?_ ?_; rotate_left; · (intro w'; go_simp; with_reducible rfl)
       rotate_left; · (simp only [Act.put, List.setIfInBounds_toArray, List.set_cons_zero, List.set_cons_succ, i64_w, i32_w]; rfl)
       refine one_ (i := 18) (N := some 9) (bl 20 524287) rfl rfl (by kernel_rfl) (by decide) (fun K hK => ?_)
       refine value_ (w1 := ?_) (v := ?_) (by rfl) rfl ?_ ?_
       rotate_left 2
       ·
        go_simp
        constructor
        ·
         rfl
        ·
         rfl
       have hb := (Below.refl u4.heap.size u4).alloc (Nat.le_refl _) (.cells #[.slice none 0 0, .slice none 0 0, .int .i64 0] 24)
       have NG := Aside0.mk HS.out.big
       have HT := Aside0.mk (HS.out.next hb)
       clear HS
       have HS := HT
       clear HT
       have M4 := Aside0.mk ((hb.block _ (blk_lt N4.out)).trans N4.out)
       clear N4
       have N4 := M4
       clear M4
       have M10 := Aside0.mk ((hb.block _ (blk_lt N10.out)).trans N10.out)
       clear N10
       have N10 := M10
       clear M10
       have M5 := Aside0.mk (own_move N5.out (fun k hk => hb.block k (ownBlock_lt N5.out k hk)))
       clear N5
       have N5 := M5
       clear M5
       have M11 := Aside0.mk (own_move N11.out (fun k hk => hb.block k (ownBlock_lt N11.out k hk)))
       clear N11
       have N11 := M11
       clear M11
       have N18 := Aside0.mk (blk_new u4 (.cells #[.slice none 0 0, .slice none 0 0, .int .i64 0] 24))
       clear hb
       refine hK.out _ _ HS.out.held (fun hHeld => ?_)
       clear hK K
       generalize World.alloc u4 (.cells #[.slice none 0 0, .slice none 0 0, .int .i64 0] 24) = u5 at HS hHeld N18 N4 N10 N5 N11 ⊢
       generalize u4.heap.size = g18 at N18 NG ⊢
       refine norm_ (a' := ?_) ?_ ?_
       rotate_left
       ·
        show Act.put _ (some 9) _ = _
        simp only [Act.put, List.setIfInBounds_toArray, List.set_cons_zero, List.set_cons_succ, i64_w, i32_w]
        rfl
       have hh := HJ.out (g4, (B5, d5), g10, (B11, d11), g18) _ ⟨HS.out, N5.out, N11.out, NE.out, N18.out, NG.out⟩
       simp only [putAll, Act.put, List.setIfInBounds_toArray, List.set_cons_zero, List.set_cons_succ] at hh
       exact hh
      ·
       -- 18
       refine value_ (w1 := ?_) (v := ?_) (by rfl) rfl ?_ ?_
       rotate_left 2
       ·
        go_simp
        constructor
        ·
         rfl
        ·
         rfl
       have hb := (Below.refl u3.heap.size u3).alloc (Nat.le_refl _) (.cells #[.slice none 0 0, .slice none 0 0, .int .i64 0] 24)
       have NG := Aside0.mk HS.out.big
       have HT := Aside0.mk (HS.out.next hb)
       clear HS
       have HS := HT
       clear HT
       have M4 := Aside0.mk ((hb.block _ (blk_lt N4.out)).trans N4.out)
       clear N4
       have N4 := M4
       clear M4
       have M10 := Aside0.mk ((hb.block _ (blk_lt N10.out)).trans N10.out)
       clear N10
       have N10 := M10
       clear M10
       have M5 := Aside0.mk (own_move N5.out (fun k hk => hb.block k (ownBlock_lt N5.out k hk)))
       clear N5
       have N5 := M5
       clear M5
       have N18 := Aside0.mk (blk_new u3 (.cells #[.slice none 0 0, .slice none 0 0, .int .i64 0] 24))
       clear hb
       refine hK.out _ _ HS.out.held (fun hHeld => ?_)
       clear hK K
       generalize World.alloc u3 (.cells #[.slice none 0 0, .slice none 0 0, .int .i64 0] 24) = u4 at HS hHeld N18 N4 N10 N5 ⊢
       generalize u3.heap.size = g18 at N18 NG ⊢
       refine norm_ (a' := ?_) ?_ ?_
       rotate_left
       ·
        show Act.put _ (some 9) _ = _
        simp only [Act.put, List.setIfInBounds_toArray, List.set_cons_zero, List.set_cons_succ, i64_w, i32_w]
        rfl
       refine one_ (i := 11) (N := some 36) (bl 20 393215) rfl rfl (by kernel_rfl) (by decide) (fun K hK => ?_)
       have hcat := concat_calls g10 A0_1 c0_1 l0_1 A1_1 c1_1 l1_1 u4 ((blk_cell N10.out 0).trans rfl) ((blk_cell N10.out 1).trans rfl) (blk_lt N10.out) (Kd.C_below H0.out.2 HS.out.below) (Kd.C_below H1.out.2 HS.out.below) (by have := HV.out; omega) (by have := HV.out; omega)
       refine goes_ Try.func59 (by kernel_rfl) rfl #[.slice (some ⟨g10, 0, none⟩) 2 2] (by rfl) rfl rfl (by (try simp only [List.map_toArray, List.map_cons, List.map_nil]); first | done | rfl) ?_
       refine hcat.mono ?_
       rintro e u5 ⟨v, rfl, hown, hb⟩
       clear hcat
       obtain ⟨B11, d11, rfl, _, _⟩ := Kd.R_reads (R_own hown (ok := fun _ => True) (fun _ _ => trivial))
       have hgr := HS.out.big
       have NE := Aside0.mk (show ∀ k, (Value.slice B5 (l0_0 ++ l1_0).length d5).ownBlock = some k → (Value.slice B11 (l0_1 ++ l1_1).length d11).ownBlock ≠ some k from fun k hk hl => by have h1 := ownBlock_lt N5.out k hk; have h2 := own_base hown k hl; omega)
       have HT := Aside0.mk (HS.out.next hb)
       clear HS
       have HS := HT
       clear HT
       have M4 := Aside0.mk ((hb.block _ (blk_lt N4.out)).trans N4.out)
       clear N4
       have N4 := M4
       clear M4
       have M10 := Aside0.mk ((hb.block _ (blk_lt N10.out)).trans N10.out)
       clear N10
       have N10 := M10
       clear M10
       have M5 := Aside0.mk (own_move N5.out (fun k hk => hb.block k (ownBlock_lt N5.out k hk)))
       clear N5
       have N5 := M5
       clear M5
       have M18 := Aside0.mk ((hb.block _ (blk_lt N18.out)).trans N18.out)
       clear N18
       have N18 := M18
       clear M18
       have N11 := Aside0.mk (own_weaken hown (show w.heap.size ≤ u4.heap.size by omega))
       clear hown hb hgr
       refine ⟨_, rfl, hK.out _ _ HS.out.held (fun hHeld => ?_)⟩
       clear hK K
       refine norm_ (a' := ?_) ?_ ?_
       rotate_left
       ·
        show Act.put _ (some 36) _ = _
        simp only [Act.put, List.setIfInBounds_toArray, List.set_cons_zero, List.set_cons_succ, i64_w, i32_w]
        rfl
       refine pure_ (i := 17) (N := some 42) (v := ?_) (a' := ?_) (bl 20 524287) rfl rfl (by kernel_rfl) (fun _ _ _ h => h) (Or.inl ⟨by rfl, ?_⟩) ?_ ?_; rotate_left; · (intro w'; go_simp; with_reducible rfl)
       rotate_left; · (simp only [Act.put, List.setIfInBounds_toArray, List.set_cons_zero, List.set_cons_succ, i64_w, i32_w]; rfl)
       have hh := HJ.out (g4, (B5, d5), g10, (B11, d11), g18) _ ⟨HS.out, N5.out, N11.out, NE.out, N18.out, NG.out⟩
       simp only [putAll, Act.put, List.setIfInBounds_toArray, List.set_cons_zero, List.set_cons_succ] at hh
       exact hh
     ·
      -- 18
      refine value_ (w1 := ?_) (v := ?_) (by rfl) rfl ?_ ?_
      rotate_left 2
      ·
       go_simp
       constructor
       ·
        rfl
       ·
        rfl
      have hb := (Below.refl u2.heap.size u2).alloc (Nat.le_refl _) (.cells #[.slice none 0 0, .slice none 0 0, .int .i64 0] 24)
      have NG := Aside0.mk HS.out.big
      have HT := Aside0.mk (HS.out.next hb)
      clear HS
      have HS := HT
      clear HT
      have M4 := Aside0.mk ((hb.block _ (blk_lt N4.out)).trans N4.out)
      clear N4
      have N4 := M4
      clear M4
      have M10 := Aside0.mk ((hb.block _ (blk_lt N10.out)).trans N10.out)
      clear N10
      have N10 := M10
      clear M10
      have N18 := Aside0.mk (blk_new u2 (.cells #[.slice none 0 0, .slice none 0 0, .int .i64 0] 24))
      clear hb
      refine hK.out _ _ HS.out.held (fun hHeld => ?_)
      clear hK K
      generalize World.alloc u2 (.cells #[.slice none 0 0, .slice none 0 0, .int .i64 0] 24) = u3 at HS hHeld N18 N4 N10 ⊢
      generalize u2.heap.size = g18 at N18 NG ⊢
      refine norm_ (a' := ?_) ?_ ?_
      rotate_left
      ·
       show Act.put _ (some 9) _ = _
       simp only [Act.put, List.setIfInBounds_toArray, List.set_cons_zero, List.set_cons_succ, i64_w, i32_w]
       rfl
      refine one_ (i := 5) (N := some 30) (bl 20 391167) rfl rfl (by kernel_rfl) (by decide) (fun K hK => ?_)
      have hcat := concat_calls g4 A0_0 c0_0 l0_0 A1_0 c1_0 l1_0 u3 ((blk_cell N4.out 0).trans rfl) ((blk_cell N4.out 1).trans rfl) (blk_lt N4.out) (Kd.C_below H0.out.1 HS.out.below) (Kd.C_below H1.out.1 HS.out.below) (by have := HV.out; omega) (by have := HV.out; omega)
      refine goes_ Try.func59 (by kernel_rfl) rfl #[.slice (some ⟨g4, 0, none⟩) 2 2] (by rfl) rfl rfl (by (try simp only [List.map_toArray, List.map_cons, List.map_nil]); first | done | rfl) ?_
      refine hcat.mono ?_
      rintro e u4 ⟨v, rfl, hown, hb⟩
      clear hcat
      obtain ⟨B5, d5, rfl, _, _⟩ := Kd.R_reads (R_own hown (ok := fun _ => True) (fun _ _ => trivial))
      have hgr := HS.out.big
      have HT := Aside0.mk (HS.out.next hb)
      clear HS
      have HS := HT
      clear HT
      have M4 := Aside0.mk ((hb.block _ (blk_lt N4.out)).trans N4.out)
      clear N4
      have N4 := M4
      clear M4
      have M10 := Aside0.mk ((hb.block _ (blk_lt N10.out)).trans N10.out)
      clear N10
      have N10 := M10
      clear M10
      have M18 := Aside0.mk ((hb.block _ (blk_lt N18.out)).trans N18.out)
      clear N18
      have N18 := M18
      clear M18
      have N5 := Aside0.mk (own_weaken hown (show w.heap.size ≤ u3.heap.size by omega))
      clear hown hb hgr
      refine ⟨_, rfl, hK.out _ _ HS.out.held (fun hHeld => ?_)⟩
      clear hK K
      refine norm_ (a' := ?_) ?_ ?_
      rotate_left
      ·
       show Act.put _ (some 30) _ = _
       simp only [Act.put, List.setIfInBounds_toArray, List.set_cons_zero, List.set_cons_succ, i64_w, i32_w]
       rfl
      refine one_ (i := 11) (N := some 36) (bl 20 393215) rfl rfl (by kernel_rfl) (by decide) (fun K hK => ?_)
      have hcat := concat_calls g10 A0_1 c0_1 l0_1 A1_1 c1_1 l1_1 u4 ((blk_cell N10.out 0).trans rfl) ((blk_cell N10.out 1).trans rfl) (blk_lt N10.out) (Kd.C_below H0.out.2 HS.out.below) (Kd.C_below H1.out.2 HS.out.below) (by have := HV.out; omega) (by have := HV.out; omega)
      refine goes_ Try.func59 (by kernel_rfl) rfl #[.slice (some ⟨g10, 0, none⟩) 2 2] (by rfl) rfl rfl (by (try simp only [List.map_toArray, List.map_cons, List.map_nil]); first | done | rfl) ?_
      refine hcat.mono ?_
      rintro e u5 ⟨v, rfl, hown, hb⟩
      clear hcat
      obtain ⟨B11, d11, rfl, _, _⟩ := Kd.R_reads (R_own hown (ok := fun _ => True) (fun _ _ => trivial))
      have hgr := HS.out.big
      have NE := Aside0.mk (show ∀ k, (Value.slice B5 (l0_0 ++ l1_0).length d5).ownBlock = some k → (Value.slice B11 (l0_1 ++ l1_1).length d11).ownBlock ≠ some k from fun k hk hl => by have h1 := ownBlock_lt N5.out k hk; have h2 := own_base hown k hl; omega)
      have HT := Aside0.mk (HS.out.next hb)
      clear HS
      have HS := HT
      clear HT
      have M4 := Aside0.mk ((hb.block _ (blk_lt N4.out)).trans N4.out)
      clear N4
      have N4 := M4
      clear M4
      have M10 := Aside0.mk ((hb.block _ (blk_lt N10.out)).trans N10.out)
      clear N10
      have N10 := M10
      clear M10
      have M18 := Aside0.mk ((hb.block _ (blk_lt N18.out)).trans N18.out)
      clear N18
      have N18 := M18
      clear M18
      have M5 := Aside0.mk (own_move N5.out (fun k hk => hb.block k (ownBlock_lt N5.out k hk)))
      clear N5
      have N5 := M5
      clear M5
      have N11 := Aside0.mk (own_weaken hown (show w.heap.size ≤ u4.heap.size by omega))
      clear hown hb hgr
      refine ⟨_, rfl, hK.out _ _ HS.out.held (fun hHeld => ?_)⟩
      clear hK K
      refine norm_ (a' := ?_) ?_ ?_
      rotate_left
      ·
       show Act.put _ (some 36) _ = _
       simp only [Act.put, List.setIfInBounds_toArray, List.set_cons_zero, List.set_cons_succ, i64_w, i32_w]
       rfl
      refine pure_ (i := 17) (N := some 42) (v := ?_) (a' := ?_) (bl 20 524287) rfl rfl (by kernel_rfl) (fun _ _ _ h => h) (Or.inl ⟨by rfl, ?_⟩) ?_ ?_; rotate_left; · (intro w'; go_simp; with_reducible rfl)
      rotate_left; · (simp only [Act.put, List.setIfInBounds_toArray, List.set_cons_zero, List.set_cons_succ, i64_w, i32_w]; rfl)
      have hh := HJ.out (g4, (B5, d5), g10, (B11, d11), g18) _ ⟨HS.out, N5.out, N11.out, NE.out, N18.out, NG.out⟩
      simp only [putAll, Act.put, List.setIfInBounds_toArray, List.set_cons_zero, List.set_cons_succ] at hh
      exact hh
    ·
     -- 18
     refine value_ (w1 := ?_) (v := ?_) (by rfl) rfl ?_ ?_
     rotate_left 2
     ·
      go_simp
      constructor
      ·
       rfl
      ·
       rfl
     have hb := (Below.refl u1.heap.size u1).alloc (Nat.le_refl _) (.cells #[.slice none 0 0, .slice none 0 0, .int .i64 0] 24)
     have NG := Aside0.mk HS.out.big
     have HT := Aside0.mk (HS.out.next hb)
     clear HS
     have HS := HT
     clear HT
     have M4 := Aside0.mk ((hb.block _ (blk_lt N4.out)).trans N4.out)
     clear N4
     have N4 := M4
     clear M4
     have N18 := Aside0.mk (blk_new u1 (.cells #[.slice none 0 0, .slice none 0 0, .int .i64 0] 24))
     clear hb
     refine hK.out _ _ HS.out.held (fun hHeld => ?_)
     clear hK K
     generalize World.alloc u1 (.cells #[.slice none 0 0, .slice none 0 0, .int .i64 0] 24) = u2 at HS hHeld N18 N4 ⊢
     generalize u1.heap.size = g18 at N18 NG ⊢
     refine norm_ (a' := ?_) ?_ ?_
     rotate_left
     ·
      show Act.put _ (some 9) _ = _
      simp only [Act.put, List.setIfInBounds_toArray, List.set_cons_zero, List.set_cons_succ, i64_w, i32_w]
      rfl
     refine two_ (i := 5) (j := 10) (Ni := some 30) (Nj := some 35) (bl 20 390143) (bl 20 391135) rfl rfl rfl rfl (by kernel_rfl) (by decide) (by decide) (fun K hK => ?_) (fun K hK => ?_)
     ·
      -- 5
      have hcat := concat_calls g4 A0_0 c0_0 l0_0 A1_0 c1_0 l1_0 u2 ((blk_cell N4.out 0).trans rfl) ((blk_cell N4.out 1).trans rfl) (blk_lt N4.out) (Kd.C_below H0.out.1 HS.out.below) (Kd.C_below H1.out.1 HS.out.below) (by have := HV.out; omega) (by have := HV.out; omega)
      refine goes_ Try.func59 (by kernel_rfl) rfl #[.slice (some ⟨g4, 0, none⟩) 2 2] (by rfl) rfl rfl (by (try simp only [List.map_toArray, List.map_cons, List.map_nil]); first | done | rfl) ?_
      refine hcat.mono ?_
      rintro e u3 ⟨v, rfl, hown, hb⟩
      clear hcat
      obtain ⟨B5, d5, rfl, _, _⟩ := Kd.R_reads (R_own hown (ok := fun _ => True) (fun _ _ => trivial))
      have hgr := HS.out.big
      have HT := Aside0.mk (HS.out.next hb)
      clear HS
      have HS := HT
      clear HT
      have M4 := Aside0.mk ((hb.block _ (blk_lt N4.out)).trans N4.out)
      clear N4
      have N4 := M4
      clear M4
      have M18 := Aside0.mk ((hb.block _ (blk_lt N18.out)).trans N18.out)
      clear N18
      have N18 := M18
      clear M18
      have N5 := Aside0.mk (own_weaken hown (show w.heap.size ≤ u2.heap.size by omega))
      clear hown hb hgr
      refine ⟨_, rfl, hK.out _ _ HS.out.held (fun hHeld => ?_)⟩
      clear hK K
      refine norm_ (a' := ?_) ?_ ?_
      rotate_left
      ·
       show Act.put _ (some 30) _ = _
       simp only [Act.put, List.setIfInBounds_toArray, List.set_cons_zero, List.set_cons_succ, i64_w, i32_w]
       rfl
      refine one_ (i := 10) (N := some 35) (bl 20 391167) rfl rfl (by kernel_rfl) (by decide) (fun K hK => ?_)
      refine value_ (w1 := ?_) (v := ?_) (by rfl) rfl ?_ ?_
      rotate_left 2
      ·
       go_simp
       constructor
       ·
        rfl
       ·
        rfl
      have hb := (Below.refl u3.heap.size u3).alloc (Nat.le_refl _) (.cells #[.slice A0_1 l0_1.length c0_1, .slice A1_1 l1_1.length c1_1] 22)
      have HT := Aside0.mk (HS.out.next hb)
      clear HS
      have HS := HT
      clear HT
      have M4 := Aside0.mk ((hb.block _ (blk_lt N4.out)).trans N4.out)
      clear N4
      have N4 := M4
      clear M4
      have M18 := Aside0.mk ((hb.block _ (blk_lt N18.out)).trans N18.out)
      clear N18
      have N18 := M18
      clear M18
      have M5 := Aside0.mk (own_move N5.out (fun k hk => hb.block k (ownBlock_lt N5.out k hk)))
      clear N5
      have N5 := M5
      clear M5
      have N10 := Aside0.mk (blk_new u3 (.cells #[.slice A0_1 l0_1.length c0_1, .slice A1_1 l1_1.length c1_1] 22))
      clear hb
      refine hK.out _ _ HS.out.held (fun hHeld => ?_)
      clear hK K
      generalize World.alloc u3 (.cells #[.slice A0_1 l0_1.length c0_1, .slice A1_1 l1_1.length c1_1] 22) = u4 at HS hHeld N10 N4 N18 N5 ⊢
      generalize u3.heap.size = g10 at N10 ⊢
      refine norm_ (a' := ?_) ?_ ?_
      rotate_left
      ·
       show Act.put _ (some 35) _ = _
       simp only [Act.put, List.setIfInBounds_toArray, List.set_cons_zero, List.set_cons_succ, i64_w, i32_w]
       rfl
      refine one_ (i := 11) (N := some 36) (bl 20 393215) rfl rfl (by kernel_rfl) (by decide) (fun K hK => ?_)
      have hcat := concat_calls g10 A0_1 c0_1 l0_1 A1_1 c1_1 l1_1 u4 ((blk_cell N10.out 0).trans rfl) ((blk_cell N10.out 1).trans rfl) (blk_lt N10.out) (Kd.C_below H0.out.2 HS.out.below) (Kd.C_below H1.out.2 HS.out.below) (by have := HV.out; omega) (by have := HV.out; omega)
      refine goes_ Try.func59 (by kernel_rfl) rfl #[.slice (some ⟨g10, 0, none⟩) 2 2] (by rfl) rfl rfl (by (try simp only [List.map_toArray, List.map_cons, List.map_nil]); first | done | rfl) ?_
      refine hcat.mono ?_
      rintro e u5 ⟨v, rfl, hown, hb⟩
      clear hcat
      obtain ⟨B11, d11, rfl, _, _⟩ := Kd.R_reads (R_own hown (ok := fun _ => True) (fun _ _ => trivial))
      have hgr := HS.out.big
      have NE := Aside0.mk (show ∀ k, (Value.slice B5 (l0_0 ++ l1_0).length d5).ownBlock = some k → (Value.slice B11 (l0_1 ++ l1_1).length d11).ownBlock ≠ some k from fun k hk hl => by have h1 := ownBlock_lt N5.out k hk; have h2 := own_base hown k hl; omega)
      have HT := Aside0.mk (HS.out.next hb)
      clear HS
      have HS := HT
      clear HT
      have M4 := Aside0.mk ((hb.block _ (blk_lt N4.out)).trans N4.out)
      clear N4
      have N4 := M4
      clear M4
      have M18 := Aside0.mk ((hb.block _ (blk_lt N18.out)).trans N18.out)
      clear N18
      have N18 := M18
      clear M18
      have M5 := Aside0.mk (own_move N5.out (fun k hk => hb.block k (ownBlock_lt N5.out k hk)))
      clear N5
      have N5 := M5
      clear M5
      have M10 := Aside0.mk ((hb.block _ (blk_lt N10.out)).trans N10.out)
      clear N10
      have N10 := M10
      clear M10
      have N11 := Aside0.mk (own_weaken hown (show w.heap.size ≤ u4.heap.size by omega))
      clear hown hb hgr
      refine ⟨_, rfl, hK.out _ _ HS.out.held (fun hHeld => ?_)⟩
      clear hK K
      refine norm_ (a' := ?_) ?_ ?_
      rotate_left
      ·
       show Act.put _ (some 36) _ = _
       simp only [Act.put, List.setIfInBounds_toArray, List.set_cons_zero, List.set_cons_succ, i64_w, i32_w]
       rfl
      refine pure_ (i := 17) (N := some 42) (v := ?_) (a' := ?_) (bl 20 524287) rfl rfl (by kernel_rfl) (fun _ _ _ h => h) (Or.inl ⟨by rfl, ?_⟩) ?_ ?_; rotate_left; · (intro w'; go_simp; with_reducible rfl)
      rotate_left; · (simp only [Act.put, List.setIfInBounds_toArray, List.set_cons_zero, List.set_cons_succ, i64_w, i32_w]; rfl)
      have hh := HJ.out (g4, (B5, d5), g10, (B11, d11), g18) _ ⟨HS.out, N5.out, N11.out, NE.out, N18.out, NG.out⟩
      simp only [putAll, Act.put, List.setIfInBounds_toArray, List.set_cons_zero, List.set_cons_succ] at hh
      exact hh
     ·
      -- 10
      refine value_ (w1 := ?_) (v := ?_) (by rfl) rfl ?_ ?_
      rotate_left 2
      ·
       go_simp
       constructor
       ·
        rfl
       ·
        rfl
      have hb := (Below.refl u2.heap.size u2).alloc (Nat.le_refl _) (.cells #[.slice A0_1 l0_1.length c0_1, .slice A1_1 l1_1.length c1_1] 22)
      have HT := Aside0.mk (HS.out.next hb)
      clear HS
      have HS := HT
      clear HT
      have M4 := Aside0.mk ((hb.block _ (blk_lt N4.out)).trans N4.out)
      clear N4
      have N4 := M4
      clear M4
      have M18 := Aside0.mk ((hb.block _ (blk_lt N18.out)).trans N18.out)
      clear N18
      have N18 := M18
      clear M18
      have N10 := Aside0.mk (blk_new u2 (.cells #[.slice A0_1 l0_1.length c0_1, .slice A1_1 l1_1.length c1_1] 22))
      clear hb
      refine hK.out _ _ HS.out.held (fun hHeld => ?_)
      clear hK K
      generalize World.alloc u2 (.cells #[.slice A0_1 l0_1.length c0_1, .slice A1_1 l1_1.length c1_1] 22) = u3 at HS hHeld N10 N4 N18 ⊢
      generalize u2.heap.size = g10 at N10 ⊢
      refine norm_ (a' := ?_) ?_ ?_
      rotate_left
      ·
       show Act.put _ (some 35) _ = _
       simp only [Act.put, List.setIfInBounds_toArray, List.set_cons_zero, List.set_cons_succ, i64_w, i32_w]
       rfl
      refine one_ (i := 5) (N := some 30) (bl 20 391167) rfl rfl (by kernel_rfl) (by decide) (fun K hK => ?_)
      have hcat := concat_calls g4 A0_0 c0_0 l0_0 A1_0 c1_0 l1_0 u3 ((blk_cell N4.out 0).trans rfl) ((blk_cell N4.out 1).trans rfl) (blk_lt N4.out) (Kd.C_below H0.out.1 HS.out.below) (Kd.C_below H1.out.1 HS.out.below) (by have := HV.out; omega) (by have := HV.out; omega)
      refine goes_ Try.func59 (by kernel_rfl) rfl #[.slice (some ⟨g4, 0, none⟩) 2 2] (by rfl) rfl rfl (by (try simp only [List.map_toArray, List.map_cons, List.map_nil]); first | done | rfl) ?_
      refine hcat.mono ?_
      rintro e u4 ⟨v, rfl, hown, hb⟩
      clear hcat
      obtain ⟨B5, d5, rfl, _, _⟩ := Kd.R_reads (R_own hown (ok := fun _ => True) (fun _ _ => trivial))
      have hgr := HS.out.big
      have HT := Aside0.mk (HS.out.next hb)
      clear HS
      have HS := HT
      clear HT
      have M4 := Aside0.mk ((hb.block _ (blk_lt N4.out)).trans N4.out)
      clear N4
      have N4 := M4
      clear M4
      have M18 := Aside0.mk ((hb.block _ (blk_lt N18.out)).trans N18.out)
      clear N18
      have N18 := M18
      clear M18
      have M10 := Aside0.mk ((hb.block _ (blk_lt N10.out)).trans N10.out)
      clear N10
      have N10 := M10
      clear M10
      have N5 := Aside0.mk (own_weaken hown (show w.heap.size ≤ u3.heap.size by omega))
      clear hown hb hgr
      refine ⟨_, rfl, hK.out _ _ HS.out.held (fun hHeld => ?_)⟩
      clear hK K
      refine norm_ (a' := ?_) ?_ ?_
      rotate_left
      ·
       show Act.put _ (some 30) _ = _
       simp only [Act.put, List.setIfInBounds_toArray, List.set_cons_zero, List.set_cons_succ, i64_w, i32_w]
       rfl
      refine one_ (i := 11) (N := some 36) (bl 20 393215) rfl rfl (by kernel_rfl) (by decide) (fun K hK => ?_)
      have hcat := concat_calls g10 A0_1 c0_1 l0_1 A1_1 c1_1 l1_1 u4 ((blk_cell N10.out 0).trans rfl) ((blk_cell N10.out 1).trans rfl) (blk_lt N10.out) (Kd.C_below H0.out.2 HS.out.below) (Kd.C_below H1.out.2 HS.out.below) (by have := HV.out; omega) (by have := HV.out; omega)
      refine goes_ Try.func59 (by kernel_rfl) rfl #[.slice (some ⟨g10, 0, none⟩) 2 2] (by rfl) rfl rfl (by (try simp only [List.map_toArray, List.map_cons, List.map_nil]); first | done | rfl) ?_
      refine hcat.mono ?_
      rintro e u5 ⟨v, rfl, hown, hb⟩
      clear hcat
      obtain ⟨B11, d11, rfl, _, _⟩ := Kd.R_reads (R_own hown (ok := fun _ => True) (fun _ _ => trivial))
      have hgr := HS.out.big
      have NE := Aside0.mk (show ∀ k, (Value.slice B5 (l0_0 ++ l1_0).length d5).ownBlock = some k → (Value.slice B11 (l0_1 ++ l1_1).length d11).ownBlock ≠ some k from fun k hk hl => by have h1 := ownBlock_lt N5.out k hk; have h2 := own_base hown k hl; omega)
      have HT := Aside0.mk (HS.out.next hb)
      clear HS
      have HS := HT
      clear HT
      have M4 := Aside0.mk ((hb.block _ (blk_lt N4.out)).trans N4.out)
      clear N4
      have N4 := M4
      clear M4
      have M18 := Aside0.mk ((hb.block _ (blk_lt N18.out)).trans N18.out)
      clear N18
      have N18 := M18
      clear M18
      have M10 := Aside0.mk ((hb.block _ (blk_lt N10.out)).trans N10.out)
      clear N10
      have N10 := M10
      clear M10
      have M5 := Aside0.mk (own_move N5.out (fun k hk => hb.block k (ownBlock_lt N5.out k hk)))
      clear N5
      have N5 := M5
      clear M5
      have N11 := Aside0.mk (own_weaken hown (show w.heap.size ≤ u4.heap.size by omega))
      clear hown hb hgr
      refine ⟨_, rfl, hK.out _ _ HS.out.held (fun hHeld => ?_)⟩
      clear hK K
      refine norm_ (a' := ?_) ?_ ?_
      rotate_left
      ·
       show Act.put _ (some 36) _ = _
       simp only [Act.put, List.setIfInBounds_toArray, List.set_cons_zero, List.set_cons_succ, i64_w, i32_w]
       rfl
      refine pure_ (i := 17) (N := some 42) (v := ?_) (a' := ?_) (bl 20 524287) rfl rfl (by kernel_rfl) (fun _ _ _ h => h) (Or.inl ⟨by rfl, ?_⟩) ?_ ?_; rotate_left; · (intro w'; go_simp; with_reducible rfl)
      rotate_left; · (simp only [Act.put, List.setIfInBounds_toArray, List.set_cons_zero, List.set_cons_succ, i64_w, i32_w]; rfl)
      have hh := HJ.out (g4, (B5, d5), g10, (B11, d11), g18) _ ⟨HS.out, N5.out, N11.out, NE.out, N18.out, NG.out⟩
      simp only [putAll, Act.put, List.setIfInBounds_toArray, List.set_cons_zero, List.set_cons_succ] at hh
      exact hh
   ·
    -- 10
    refine value_ (w1 := ?_) (v := ?_) (by rfl) rfl ?_ ?_
    rotate_left 2
    ·
     go_simp
     constructor
     ·
      rfl
     ·
      rfl
    have hb := (Below.refl u0.heap.size u0).alloc (Nat.le_refl _) (.cells #[.slice A0_1 l0_1.length c0_1, .slice A1_1 l1_1.length c1_1] 22)
    have HT := Aside0.mk (HS.out.next hb)
    clear HS
    have HS := HT
    clear HT
    have N10 := Aside0.mk (blk_new u0 (.cells #[.slice A0_1 l0_1.length c0_1, .slice A1_1 l1_1.length c1_1] 22))
    clear hb
    refine hK.out _ _ HS.out.held (fun hHeld => ?_)
    clear hK K
    generalize World.alloc u0 (.cells #[.slice A0_1 l0_1.length c0_1, .slice A1_1 l1_1.length c1_1] 22) = u1 at HS hHeld N10  ⊢
    generalize u0.heap.size = g10 at N10 ⊢
    refine norm_ (a' := ?_) ?_ ?_
    rotate_left
    ·
     show Act.put _ (some 35) _ = _
     simp only [Act.put, List.setIfInBounds_toArray, List.set_cons_zero, List.set_cons_succ, i64_w, i32_w]
     rfl
    refine two_ (i := 4) (j := 18) (Ni := some 29) (Nj := some 9) (bl 20 128991) (bl 20 391119) rfl rfl rfl rfl (by kernel_rfl) (by decide) (by decide) (fun K hK => ?_) (fun K hK => ?_)
    ·
     -- 4
     refine value_ (w1 := ?_) (v := ?_) (by rfl) rfl ?_ ?_
     rotate_left 2
     ·
      go_simp
      constructor
      ·
       rfl
      ·
       rfl
     have hb := (Below.refl u1.heap.size u1).alloc (Nat.le_refl _) (.cells #[.slice A0_0 l0_0.length c0_0, .slice A1_0 l1_0.length c1_0] 22)
     have HT := Aside0.mk (HS.out.next hb)
     clear HS
     have HS := HT
     clear HT
     have M10 := Aside0.mk ((hb.block _ (blk_lt N10.out)).trans N10.out)
     clear N10
     have N10 := M10
     clear M10
     have N4 := Aside0.mk (blk_new u1 (.cells #[.slice A0_0 l0_0.length c0_0, .slice A1_0 l1_0.length c1_0] 22))
     clear hb
     refine hK.out _ _ HS.out.held (fun hHeld => ?_)
     clear hK K
     generalize World.alloc u1 (.cells #[.slice A0_0 l0_0.length c0_0, .slice A1_0 l1_0.length c1_0] 22) = u2 at HS hHeld N4 N10 ⊢
     generalize u1.heap.size = g4 at N4 ⊢
     refine norm_ (a' := ?_) ?_ ?_
     rotate_left
     ·
      show Act.put _ (some 29) _ = _
      simp only [Act.put, List.setIfInBounds_toArray, List.set_cons_zero, List.set_cons_succ, i64_w, i32_w]
      rfl
     refine two_ (i := 5) (j := 18) (Ni := some 30) (Nj := some 9) (bl 20 129023) (bl 20 391135) rfl rfl rfl rfl (by kernel_rfl) (by decide) (by decide) (fun K hK => ?_) (fun K hK => ?_)
     ·
      -- 5
      have hcat := concat_calls g4 A0_0 c0_0 l0_0 A1_0 c1_0 l1_0 u2 ((blk_cell N4.out 0).trans rfl) ((blk_cell N4.out 1).trans rfl) (blk_lt N4.out) (Kd.C_below H0.out.1 HS.out.below) (Kd.C_below H1.out.1 HS.out.below) (by have := HV.out; omega) (by have := HV.out; omega)
      refine goes_ Try.func59 (by kernel_rfl) rfl #[.slice (some ⟨g4, 0, none⟩) 2 2] (by rfl) rfl rfl (by (try simp only [List.map_toArray, List.map_cons, List.map_nil]); first | done | rfl) ?_
      refine hcat.mono ?_
      rintro e u3 ⟨v, rfl, hown, hb⟩
      clear hcat
      obtain ⟨B5, d5, rfl, _, _⟩ := Kd.R_reads (R_own hown (ok := fun _ => True) (fun _ _ => trivial))
      have hgr := HS.out.big
      have HT := Aside0.mk (HS.out.next hb)
      clear HS
      have HS := HT
      clear HT
      have M10 := Aside0.mk ((hb.block _ (blk_lt N10.out)).trans N10.out)
      clear N10
      have N10 := M10
      clear M10
      have M4 := Aside0.mk ((hb.block _ (blk_lt N4.out)).trans N4.out)
      clear N4
      have N4 := M4
      clear M4
      have N5 := Aside0.mk (own_weaken hown (show w.heap.size ≤ u2.heap.size by omega))
      clear hown hb hgr
      refine ⟨_, rfl, hK.out _ _ HS.out.held (fun hHeld => ?_)⟩
      clear hK K
      refine norm_ (a' := ?_) ?_ ?_
      rotate_left
      ·
       show Act.put _ (some 30) _ = _
       simp only [Act.put, List.setIfInBounds_toArray, List.set_cons_zero, List.set_cons_succ, i64_w, i32_w]
       rfl
      refine two_ (i := 11) (j := 18) (Ni := some 36) (Nj := some 9) (bl 20 131071) (bl 20 391167) rfl rfl rfl rfl (by kernel_rfl) (by decide) (by decide) (fun K hK => ?_) (fun K hK => ?_)
      ·
       -- 11
       have hcat := concat_calls g10 A0_1 c0_1 l0_1 A1_1 c1_1 l1_1 u3 ((blk_cell N10.out 0).trans rfl) ((blk_cell N10.out 1).trans rfl) (blk_lt N10.out) (Kd.C_below H0.out.2 HS.out.below) (Kd.C_below H1.out.2 HS.out.below) (by have := HV.out; omega) (by have := HV.out; omega)
       refine goes_ Try.func59 (by kernel_rfl) rfl #[.slice (some ⟨g10, 0, none⟩) 2 2] (by rfl) rfl rfl (by (try simp only [List.map_toArray, List.map_cons, List.map_nil]); first | done | rfl) ?_
       refine hcat.mono ?_
       rintro e u4 ⟨v, rfl, hown, hb⟩
       clear hcat
       obtain ⟨B11, d11, rfl, _, _⟩ := Kd.R_reads (R_own hown (ok := fun _ => True) (fun _ _ => trivial))
       have hgr := HS.out.big
       have NE := Aside0.mk (show ∀ k, (Value.slice B5 (l0_0 ++ l1_0).length d5).ownBlock = some k → (Value.slice B11 (l0_1 ++ l1_1).length d11).ownBlock ≠ some k from fun k hk hl => by have h1 := ownBlock_lt N5.out k hk; have h2 := own_base hown k hl; omega)
       have HT := Aside0.mk (HS.out.next hb)
       clear HS
       have HS := HT
       clear HT
       have M10 := Aside0.mk ((hb.block _ (blk_lt N10.out)).trans N10.out)
       clear N10
       have N10 := M10
       clear M10
       have M4 := Aside0.mk ((hb.block _ (blk_lt N4.out)).trans N4.out)
       clear N4
       have N4 := M4
       clear M4
       have M5 := Aside0.mk (own_move N5.out (fun k hk => hb.block k (ownBlock_lt N5.out k hk)))
       clear N5
       have N5 := M5
       clear M5
       have N11 := Aside0.mk (own_weaken hown (show w.heap.size ≤ u3.heap.size by omega))
       clear hown hb hgr
       refine ⟨_, rfl, hK.out _ _ HS.out.held (fun hHeld => ?_)⟩
       clear hK K
       refine norm_ (a' := ?_) ?_ ?_
       rotate_left
       ·
        show Act.put _ (some 36) _ = _
        simp only [Act.put, List.setIfInBounds_toArray, List.set_cons_zero, List.set_cons_succ, i64_w, i32_w]
        rfl
       refine pure_ (i := 17) (N := some 42) (v := ?_) (a' := ?_) (bl 20 262143) rfl rfl (by kernel_rfl) (fun _ _ _ h => h) (Or.inl ⟨by rfl, ?_⟩) ?_ ?_; rotate_left; · (intro w'; go_simp; with_reducible rfl)
       rotate_left; · (simp only [Act.put, List.setIfInBounds_toArray, List.set_cons_zero, List.set_cons_succ, i64_w, i32_w]; rfl)
       refine one_ (i := 18) (N := some 9) (bl 20 524287) rfl rfl (by kernel_rfl) (by decide) (fun K hK => ?_)
       refine value_ (w1 := ?_) (v := ?_) (by rfl) rfl ?_ ?_
       rotate_left 2
       ·
        go_simp
        constructor
        ·
         rfl
        ·
         rfl
       have hb := (Below.refl u4.heap.size u4).alloc (Nat.le_refl _) (.cells #[.slice none 0 0, .slice none 0 0, .int .i64 0] 24)
       have NG := Aside0.mk HS.out.big
       have HT := Aside0.mk (HS.out.next hb)
       clear HS
       have HS := HT
       clear HT
       have M10 := Aside0.mk ((hb.block _ (blk_lt N10.out)).trans N10.out)
       clear N10
       have N10 := M10
       clear M10
       have M4 := Aside0.mk ((hb.block _ (blk_lt N4.out)).trans N4.out)
       clear N4
       have N4 := M4
       clear M4
       have M5 := Aside0.mk (own_move N5.out (fun k hk => hb.block k (ownBlock_lt N5.out k hk)))
       clear N5
       have N5 := M5
       clear M5
       have M11 := Aside0.mk (own_move N11.out (fun k hk => hb.block k (ownBlock_lt N11.out k hk)))
       clear N11
       have N11 := M11
       clear M11
       have N18 := Aside0.mk (blk_new u4 (.cells #[.slice none 0 0, .slice none 0 0, .int .i64 0] 24))
       clear hb
       refine hK.out _ _ HS.out.held (fun hHeld => ?_)
       clear hK K
       generalize World.alloc u4 (.cells #[.slice none 0 0, .slice none 0 0, .int .i64 0] 24) = u5 at HS hHeld N18 N10 N4 N5 N11 ⊢
       generalize u4.heap.size = g18 at N18 NG ⊢
       refine norm_ (a' := ?_) ?_ ?_
       rotate_left
       ·
        show Act.put _ (some 9) _ = _
        simp only [Act.put, List.setIfInBounds_toArray, List.set_cons_zero, List.set_cons_succ, i64_w, i32_w]
        rfl
       have hh := HJ.out (g4, (B5, d5), g10, (B11, d11), g18) _ ⟨HS.out, N5.out, N11.out, NE.out, N18.out, NG.out⟩
       simp only [putAll, Act.put, List.setIfInBounds_toArray, List.set_cons_zero, List.set_cons_succ] at hh
       exact hh
      ·
       -- 18
       refine value_ (w1 := ?_) (v := ?_) (by rfl) rfl ?_ ?_
       rotate_left 2
       ·
        go_simp
        constructor
        ·
         rfl
        ·
         rfl
       have hb := (Below.refl u3.heap.size u3).alloc (Nat.le_refl _) (.cells #[.slice none 0 0, .slice none 0 0, .int .i64 0] 24)
       have NG := Aside0.mk HS.out.big
       have HT := Aside0.mk (HS.out.next hb)
       clear HS
       have HS := HT
       clear HT
       have M10 := Aside0.mk ((hb.block _ (blk_lt N10.out)).trans N10.out)
       clear N10
       have N10 := M10
       clear M10
       have M4 := Aside0.mk ((hb.block _ (blk_lt N4.out)).trans N4.out)
       clear N4
       have N4 := M4
       clear M4
       have M5 := Aside0.mk (own_move N5.out (fun k hk => hb.block k (ownBlock_lt N5.out k hk)))
       clear N5
       have N5 := M5
       clear M5
       have N18 := Aside0.mk (blk_new u3 (.cells #[.slice none 0 0, .slice none 0 0, .int .i64 0] 24))
       clear hb
       refine hK.out _ _ HS.out.held (fun hHeld => ?_)
       clear hK K
       generalize World.alloc u3 (.cells #[.slice none 0 0, .slice none 0 0, .int .i64 0] 24) = u4 at HS hHeld N18 N10 N4 N5 ⊢
       generalize u3.heap.size = g18 at N18 NG ⊢
       refine norm_ (a' := ?_) ?_ ?_
       rotate_left
       ·
        show Act.put _ (some 9) _ = _
        simp only [Act.put, List.setIfInBounds_toArray, List.set_cons_zero, List.set_cons_succ, i64_w, i32_w]
        rfl
       refine one_ (i := 11) (N := some 36) (bl 20 393215) rfl rfl (by kernel_rfl) (by decide) (fun K hK => ?_)
       have hcat := concat_calls g10 A0_1 c0_1 l0_1 A1_1 c1_1 l1_1 u4 ((blk_cell N10.out 0).trans rfl) ((blk_cell N10.out 1).trans rfl) (blk_lt N10.out) (Kd.C_below H0.out.2 HS.out.below) (Kd.C_below H1.out.2 HS.out.below) (by have := HV.out; omega) (by have := HV.out; omega)
       refine goes_ Try.func59 (by kernel_rfl) rfl #[.slice (some ⟨g10, 0, none⟩) 2 2] (by rfl) rfl rfl (by (try simp only [List.map_toArray, List.map_cons, List.map_nil]); first | done | rfl) ?_
       refine hcat.mono ?_
       rintro e u5 ⟨v, rfl, hown, hb⟩
       clear hcat
       obtain ⟨B11, d11, rfl, _, _⟩ := Kd.R_reads (R_own hown (ok := fun _ => True) (fun _ _ => trivial))
       have hgr := HS.out.big
       have NE := Aside0.mk (show ∀ k, (Value.slice B5 (l0_0 ++ l1_0).length d5).ownBlock = some k → (Value.slice B11 (l0_1 ++ l1_1).length d11).ownBlock ≠ some k from fun k hk hl => by have h1 := ownBlock_lt N5.out k hk; have h2 := own_base hown k hl; omega)
       have HT := Aside0.mk (HS.out.next hb)
       clear HS
       have HS := HT
       clear HT
       have M10 := Aside0.mk ((hb.block _ (blk_lt N10.out)).trans N10.out)
       clear N10
       have N10 := M10
       clear M10
       have M4 := Aside0.mk ((hb.block _ (blk_lt N4.out)).trans N4.out)
       clear N4
       have N4 := M4
       clear M4
       have M5 := Aside0.mk (own_move N5.out (fun k hk => hb.block k (ownBlock_lt N5.out k hk)))
       clear N5
       have N5 := M5
       clear M5
       have M18 := Aside0.mk ((hb.block _ (blk_lt N18.out)).trans N18.out)
       clear N18
       have N18 := M18
       clear M18
       have N11 := Aside0.mk (own_weaken hown (show w.heap.size ≤ u4.heap.size by omega))
       clear hown hb hgr
       refine ⟨_, rfl, hK.out _ _ HS.out.held (fun hHeld => ?_)⟩
       clear hK K
       refine norm_ (a' := ?_) ?_ ?_
       rotate_left
       ·
        show Act.put _ (some 36) _ = _
        simp only [Act.put, List.setIfInBounds_toArray, List.set_cons_zero, List.set_cons_succ, i64_w, i32_w]
        rfl
       refine pure_ (i := 17) (N := some 42) (v := ?_) (a' := ?_) (bl 20 524287) rfl rfl (by kernel_rfl) (fun _ _ _ h => h) (Or.inl ⟨by rfl, ?_⟩) ?_ ?_; rotate_left; · (intro w'; go_simp; with_reducible rfl)
       rotate_left; · (simp only [Act.put, List.setIfInBounds_toArray, List.set_cons_zero, List.set_cons_succ, i64_w, i32_w]; rfl)
       have hh := HJ.out (g4, (B5, d5), g10, (B11, d11), g18) _ ⟨HS.out, N5.out, N11.out, NE.out, N18.out, NG.out⟩
       simp only [putAll, Act.put, List.setIfInBounds_toArray, List.set_cons_zero, List.set_cons_succ] at hh
       exact hh
     ·
      -- 18
      refine value_ (w1 := ?_) (v := ?_) (by rfl) rfl ?_ ?_
      rotate_left 2
      ·
       go_simp
       constructor
       ·
        rfl
       ·
        rfl
      have hb := (Below.refl u2.heap.size u2).alloc (Nat.le_refl _) (.cells #[.slice none 0 0, .slice none 0 0, .int .i64 0] 24)
      have NG := Aside0.mk HS.out.big
      have HT := Aside0.mk (HS.out.next hb)
      clear HS
      have HS := HT
      clear HT
      have M10 := Aside0.mk ((hb.block _ (blk_lt N10.out)).trans N10.out)
      clear N10
      have N10 := M10
      clear M10
      have M4 := Aside0.mk ((hb.block _ (blk_lt N4.out)).trans N4.out)
      clear N4
      have N4 := M4
      clear M4
      have N18 := Aside0.mk (blk_new u2 (.cells #[.slice none 0 0, .slice none 0 0, .int .i64 0] 24))
      clear hb
      refine hK.out _ _ HS.out.held (fun hHeld => ?_)
      clear hK K
      generalize World.alloc u2 (.cells #[.slice none 0 0, .slice none 0 0, .int .i64 0] 24) = u3 at HS hHeld N18 N10 N4 ⊢
      generalize u2.heap.size = g18 at N18 NG ⊢
      refine norm_ (a' := ?_) ?_ ?_
      rotate_left
      ·
       show Act.put _ (some 9) _ = _
       simp only [Act.put, List.setIfInBounds_toArray, List.set_cons_zero, List.set_cons_succ, i64_w, i32_w]
       rfl
      refine one_ (i := 5) (N := some 30) (bl 20 391167) rfl rfl (by kernel_rfl) (by decide) (fun K hK => ?_)
      have hcat := concat_calls g4 A0_0 c0_0 l0_0 A1_0 c1_0 l1_0 u3 ((blk_cell N4.out 0).trans rfl) ((blk_cell N4.out 1).trans rfl) (blk_lt N4.out) (Kd.C_below H0.out.1 HS.out.below) (Kd.C_below H1.out.1 HS.out.below) (by have := HV.out; omega) (by have := HV.out; omega)
      refine goes_ Try.func59 (by kernel_rfl) rfl #[.slice (some ⟨g4, 0, none⟩) 2 2] (by rfl) rfl rfl (by (try simp only [List.map_toArray, List.map_cons, List.map_nil]); first | done | rfl) ?_
      refine hcat.mono ?_
      rintro e u4 ⟨v, rfl, hown, hb⟩
      clear hcat
      obtain ⟨B5, d5, rfl, _, _⟩ := Kd.R_reads (R_own hown (ok := fun _ => True) (fun _ _ => trivial))
      have hgr := HS.out.big
      have HT := Aside0.mk (HS.out.next hb)
      clear HS
      have HS := HT
      clear HT
      have M10 := Aside0.mk ((hb.block _ (blk_lt N10.out)).trans N10.out)
      clear N10
      have N10 := M10
      clear M10
      have M4 := Aside0.mk ((hb.block _ (blk_lt N4.out)).trans N4.out)
      clear N4
      have N4 := M4
      clear M4
      have M18 := Aside0.mk ((hb.block _ (blk_lt N18.out)).trans N18.out)
      clear N18
      have N18 := M18
      clear M18
      have N5 := Aside0.mk (own_weaken hown (show w.heap.size ≤ u3.heap.size by omega))
      clear hown hb hgr
      refine ⟨_, rfl, hK.out _ _ HS.out.held (fun hHeld => ?_)⟩
      clear hK K
      refine norm_ (a' := ?_) ?_ ?_
      rotate_left
      ·
       show Act.put _ (some 30) _ = _
       simp only [Act.put, List.setIfInBounds_toArray, List.set_cons_zero, List.set_cons_succ, i64_w, i32_w]
       rfl
      refine one_ (i := 11) (N := some 36) (bl 20 393215) rfl rfl (by kernel_rfl) (by decide) (fun K hK => ?_)
      have hcat := concat_calls g10 A0_1 c0_1 l0_1 A1_1 c1_1 l1_1 u4 ((blk_cell N10.out 0).trans rfl) ((blk_cell N10.out 1).trans rfl) (blk_lt N10.out) (Kd.C_below H0.out.2 HS.out.below) (Kd.C_below H1.out.2 HS.out.below) (by have := HV.out; omega) (by have := HV.out; omega)
      refine goes_ Try.func59 (by kernel_rfl) rfl #[.slice (some ⟨g10, 0, none⟩) 2 2] (by rfl) rfl rfl (by (try simp only [List.map_toArray, List.map_cons, List.map_nil]); first | done | rfl) ?_
      refine hcat.mono ?_
      rintro e u5 ⟨v, rfl, hown, hb⟩
      clear hcat
      obtain ⟨B11, d11, rfl, _, _⟩ := Kd.R_reads (R_own hown (ok := fun _ => True) (fun _ _ => trivial))
      have hgr := HS.out.big
      have NE := Aside0.mk (show ∀ k, (Value.slice B5 (l0_0 ++ l1_0).length d5).ownBlock = some k → (Value.slice B11 (l0_1 ++ l1_1).length d11).ownBlock ≠ some k from fun k hk hl => by have h1 := ownBlock_lt N5.out k hk; have h2 := own_base hown k hl; omega)
      have HT := Aside0.mk (HS.out.next hb)
      clear HS
      have HS := HT
      clear HT
      have M10 := Aside0.mk ((hb.block _ (blk_lt N10.out)).trans N10.out)
      clear N10
      have N10 := M10
      clear M10
      have M4 := Aside0.mk ((hb.block _ (blk_lt N4.out)).trans N4.out)
      clear N4
      have N4 := M4
      clear M4
      have M18 := Aside0.mk ((hb.block _ (blk_lt N18.out)).trans N18.out)
      clear N18
      have N18 := M18
      clear M18
      have M5 := Aside0.mk (own_move N5.out (fun k hk => hb.block k (ownBlock_lt N5.out k hk)))
      clear N5
      have N5 := M5
      clear M5
      have N11 := Aside0.mk (own_weaken hown (show w.heap.size ≤ u4.heap.size by omega))
      clear hown hb hgr
      refine ⟨_, rfl, hK.out _ _ HS.out.held (fun hHeld => ?_)⟩
      clear hK K
      refine norm_ (a' := ?_) ?_ ?_
      rotate_left
      ·
       show Act.put _ (some 36) _ = _
       simp only [Act.put, List.setIfInBounds_toArray, List.set_cons_zero, List.set_cons_succ, i64_w, i32_w]
       rfl
      refine pure_ (i := 17) (N := some 42) (v := ?_) (a' := ?_) (bl 20 524287) rfl rfl (by kernel_rfl) (fun _ _ _ h => h) (Or.inl ⟨by rfl, ?_⟩) ?_ ?_; rotate_left; · (intro w'; go_simp; with_reducible rfl)
      rotate_left; · (simp only [Act.put, List.setIfInBounds_toArray, List.set_cons_zero, List.set_cons_succ, i64_w, i32_w]; rfl)
      have hh := HJ.out (g4, (B5, d5), g10, (B11, d11), g18) _ ⟨HS.out, N5.out, N11.out, NE.out, N18.out, NG.out⟩
      simp only [putAll, Act.put, List.setIfInBounds_toArray, List.set_cons_zero, List.set_cons_succ] at hh
      exact hh
    ·
     -- 18
     refine value_ (w1 := ?_) (v := ?_) (by rfl) rfl ?_ ?_
     rotate_left 2
     ·
      go_simp
      constructor
      ·
       rfl
      ·
       rfl
     have hb := (Below.refl u1.heap.size u1).alloc (Nat.le_refl _) (.cells #[.slice none 0 0, .slice none 0 0, .int .i64 0] 24)
     have NG := Aside0.mk HS.out.big
     have HT := Aside0.mk (HS.out.next hb)
     clear HS
     have HS := HT
     clear HT
     have M10 := Aside0.mk ((hb.block _ (blk_lt N10.out)).trans N10.out)
     clear N10
     have N10 := M10
     clear M10
     have N18 := Aside0.mk (blk_new u1 (.cells #[.slice none 0 0, .slice none 0 0, .int .i64 0] 24))
     clear hb
     refine hK.out _ _ HS.out.held (fun hHeld => ?_)
     clear hK K
     generalize World.alloc u1 (.cells #[.slice none 0 0, .slice none 0 0, .int .i64 0] 24) = u2 at HS hHeld N18 N10 ⊢
     generalize u1.heap.size = g18 at N18 NG ⊢
     refine norm_ (a' := ?_) ?_ ?_
     rotate_left
     ·
      show Act.put _ (some 9) _ = _
      simp only [Act.put, List.setIfInBounds_toArray, List.set_cons_zero, List.set_cons_succ, i64_w, i32_w]
      rfl
     refine one_ (i := 4) (N := some 29) (bl 20 391135) rfl rfl (by kernel_rfl) (by decide) (fun K hK => ?_)
     refine value_ (w1 := ?_) (v := ?_) (by rfl) rfl ?_ ?_
     rotate_left 2
     ·
      go_simp
      constructor
      ·
       rfl
      ·
       rfl
     have hb := (Below.refl u2.heap.size u2).alloc (Nat.le_refl _) (.cells #[.slice A0_0 l0_0.length c0_0, .slice A1_0 l1_0.length c1_0] 22)
     have HT := Aside0.mk (HS.out.next hb)
     clear HS
     have HS := HT
     clear HT
     have M10 := Aside0.mk ((hb.block _ (blk_lt N10.out)).trans N10.out)
     clear N10
     have N10 := M10
     clear M10
     have M18 := Aside0.mk ((hb.block _ (blk_lt N18.out)).trans N18.out)
     clear N18
     have N18 := M18
     clear M18
     have N4 := Aside0.mk (blk_new u2 (.cells #[.slice A0_0 l0_0.length c0_0, .slice A1_0 l1_0.length c1_0] 22))
     clear hb
     refine hK.out _ _ HS.out.held (fun hHeld => ?_)
     clear hK K
     generalize World.alloc u2 (.cells #[.slice A0_0 l0_0.length c0_0, .slice A1_0 l1_0.length c1_0] 22) = u3 at HS hHeld N4 N10 N18 ⊢
     generalize u2.heap.size = g4 at N4 ⊢
     refine norm_ (a' := ?_) ?_ ?_
     rotate_left
     ·
      show Act.put _ (some 29) _ = _
      simp only [Act.put, List.setIfInBounds_toArray, List.set_cons_zero, List.set_cons_succ, i64_w, i32_w]
      rfl
     refine one_ (i := 5) (N := some 30) (bl 20 391167) rfl rfl (by kernel_rfl) (by decide) (fun K hK => ?_)
     have hcat := concat_calls g4 A0_0 c0_0 l0_0 A1_0 c1_0 l1_0 u3 ((blk_cell N4.out 0).trans rfl) ((blk_cell N4.out 1).trans rfl) (blk_lt N4.out) (Kd.C_below H0.out.1 HS.out.below) (Kd.C_below H1.out.1 HS.out.below) (by have := HV.out; omega) (by have := HV.out; omega)
     refine goes_ Try.func59 (by kernel_rfl) rfl #[.slice (some ⟨g4, 0, none⟩) 2 2] (by rfl) rfl rfl (by (try simp only [List.map_toArray, List.map_cons, List.map_nil]); first | done | rfl) ?_
     refine hcat.mono ?_
     rintro e u4 ⟨v, rfl, hown, hb⟩
     clear hcat
     obtain ⟨B5, d5, rfl, _, _⟩ := Kd.R_reads (R_own hown (ok := fun _ => True) (fun _ _ => trivial))
     have hgr := HS.out.big
     have HT := Aside0.mk (HS.out.next hb)
     clear HS
     have HS := HT
     clear HT
     have M10 := Aside0.mk ((hb.block _ (blk_lt N10.out)).trans N10.out)
     clear N10
     have N10 := M10
     clear M10
     have M18 := Aside0.mk ((hb.block _ (blk_lt N18.out)).trans N18.out)
     clear N18
     have N18 := M18
     clear M18
     have M4 := Aside0.mk ((hb.block _ (blk_lt N4.out)).trans N4.out)
     clear N4
     have N4 := M4
     clear M4
     have N5 := Aside0.mk (own_weaken hown (show w.heap.size ≤ u3.heap.size by omega))
     clear hown hb hgr
     refine ⟨_, rfl, hK.out _ _ HS.out.held (fun hHeld => ?_)⟩
     clear hK K
     refine norm_ (a' := ?_) ?_ ?_
     rotate_left
     ·
      show Act.put _ (some 30) _ = _
      simp only [Act.put, List.setIfInBounds_toArray, List.set_cons_zero, List.set_cons_succ, i64_w, i32_w]
      rfl
     refine one_ (i := 11) (N := some 36) (bl 20 393215) rfl rfl (by kernel_rfl) (by decide) (fun K hK => ?_)
     have hcat := concat_calls g10 A0_1 c0_1 l0_1 A1_1 c1_1 l1_1 u4 ((blk_cell N10.out 0).trans rfl) ((blk_cell N10.out 1).trans rfl) (blk_lt N10.out) (Kd.C_below H0.out.2 HS.out.below) (Kd.C_below H1.out.2 HS.out.below) (by have := HV.out; omega) (by have := HV.out; omega)
     refine goes_ Try.func59 (by kernel_rfl) rfl #[.slice (some ⟨g10, 0, none⟩) 2 2] (by rfl) rfl rfl (by (try simp only [List.map_toArray, List.map_cons, List.map_nil]); first | done | rfl) ?_
     refine hcat.mono ?_
     rintro e u5 ⟨v, rfl, hown, hb⟩
     clear hcat
     obtain ⟨B11, d11, rfl, _, _⟩ := Kd.R_reads (R_own hown (ok := fun _ => True) (fun _ _ => trivial))
     have hgr := HS.out.big
     have NE := Aside0.mk (show ∀ k, (Value.slice B5 (l0_0 ++ l1_0).length d5).ownBlock = some k → (Value.slice B11 (l0_1 ++ l1_1).length d11).ownBlock ≠ some k from fun k hk hl => by have h1 := ownBlock_lt N5.out k hk; have h2 := own_base hown k hl; omega)
     have HT := Aside0.mk (HS.out.next hb)
     clear HS
     have HS := HT
     clear HT
     have M10 := Aside0.mk ((hb.block _ (blk_lt N10.out)).trans N10.out)
     clear N10
     have N10 := M10
     clear M10
     have M18 := Aside0.mk ((hb.block _ (blk_lt N18.out)).trans N18.out)
     clear N18
     have N18 := M18
     clear M18
     have M4 := Aside0.mk ((hb.block _ (blk_lt N4.out)).trans N4.out)
     clear N4
     have N4 := M4
     clear M4
     have M5 := Aside0.mk (own_move N5.out (fun k hk => hb.block k (ownBlock_lt N5.out k hk)))
     clear N5
     have N5 := M5
     clear M5
     have N11 := Aside0.mk (own_weaken hown (show w.heap.size ≤ u4.heap.size by omega))
     clear hown hb hgr
     refine ⟨_, rfl, hK.out _ _ HS.out.held (fun hHeld => ?_)⟩
     clear hK K
     refine norm_ (a' := ?_) ?_ ?_
     rotate_left
     ·
      show Act.put _ (some 36) _ = _
      simp only [Act.put, List.setIfInBounds_toArray, List.set_cons_zero, List.set_cons_succ, i64_w, i32_w]
      rfl
     refine pure_ (i := 17) (N := some 42) (v := ?_) (a' := ?_) (bl 20 524287) rfl rfl (by kernel_rfl) (fun _ _ _ h => h) (Or.inl ⟨by rfl, ?_⟩) ?_ ?_; rotate_left; · (intro w'; go_simp; with_reducible rfl)
     rotate_left; · (simp only [Act.put, List.setIfInBounds_toArray, List.set_cons_zero, List.set_cons_succ, i64_w, i32_w]; rfl)
     have hh := HJ.out (g4, (B5, d5), g10, (B11, d11), g18) _ ⟨HS.out, N5.out, N11.out, NE.out, N18.out, NG.out⟩
     simp only [putAll, Act.put, List.setIfInBounds_toArray, List.set_cons_zero, List.set_cons_succ] at hh
     exact hh
   ·
    -- 18
    refine value_ (w1 := ?_) (v := ?_) (by rfl) rfl ?_ ?_
    rotate_left 2
    ·
     go_simp
     constructor
     ·
      rfl
     ·
      rfl
    have hb := (Below.refl u0.heap.size u0).alloc (Nat.le_refl _) (.cells #[.slice none 0 0, .slice none 0 0, .int .i64 0] 24)
    have NG := Aside0.mk HS.out.big
    have HT := Aside0.mk (HS.out.next hb)
    clear HS
    have HS := HT
    clear HT
    have N18 := Aside0.mk (blk_new u0 (.cells #[.slice none 0 0, .slice none 0 0, .int .i64 0] 24))
    clear hb
    refine hK.out _ _ HS.out.held (fun hHeld => ?_)
    clear hK K
    generalize World.alloc u0 (.cells #[.slice none 0 0, .slice none 0 0, .int .i64 0] 24) = u1 at HS hHeld N18  ⊢
    generalize u0.heap.size = g18 at N18 NG ⊢
    refine norm_ (a' := ?_) ?_ ?_
    rotate_left
    ·
     show Act.put _ (some 9) _ = _
     simp only [Act.put, List.setIfInBounds_toArray, List.set_cons_zero, List.set_cons_succ, i64_w, i32_w]
     rfl
    refine two_ (i := 4) (j := 10) (Ni := some 29) (Nj := some 35) (bl 20 390111) (bl 20 391119) rfl rfl rfl rfl (by kernel_rfl) (by decide) (by decide) (fun K hK => ?_) (fun K hK => ?_)
    ·
     -- 4
     refine value_ (w1 := ?_) (v := ?_) (by rfl) rfl ?_ ?_
     rotate_left 2
     ·
      go_simp
      constructor
      ·
       rfl
      ·
       rfl
     have hb := (Below.refl u1.heap.size u1).alloc (Nat.le_refl _) (.cells #[.slice A0_0 l0_0.length c0_0, .slice A1_0 l1_0.length c1_0] 22)
     have HT := Aside0.mk (HS.out.next hb)
     clear HS
     have HS := HT
     clear HT
     have M18 := Aside0.mk ((hb.block _ (blk_lt N18.out)).trans N18.out)
     clear N18
     have N18 := M18
     clear M18
     have N4 := Aside0.mk (blk_new u1 (.cells #[.slice A0_0 l0_0.length c0_0, .slice A1_0 l1_0.length c1_0] 22))
     clear hb
     refine hK.out _ _ HS.out.held (fun hHeld => ?_)
     clear hK K
     generalize World.alloc u1 (.cells #[.slice A0_0 l0_0.length c0_0, .slice A1_0 l1_0.length c1_0] 22) = u2 at HS hHeld N4 N18 ⊢
     generalize u1.heap.size = g4 at N4 ⊢
     refine norm_ (a' := ?_) ?_ ?_
     rotate_left
     ·
      show Act.put _ (some 29) _ = _
      simp only [Act.put, List.setIfInBounds_toArray, List.set_cons_zero, List.set_cons_succ, i64_w, i32_w]
      rfl
     refine two_ (i := 5) (j := 10) (Ni := some 30) (Nj := some 35) (bl 20 390143) (bl 20 391135) rfl rfl rfl rfl (by kernel_rfl) (by decide) (by decide) (fun K hK => ?_) (fun K hK => ?_)
     ·
      -- 5
      have hcat := concat_calls g4 A0_0 c0_0 l0_0 A1_0 c1_0 l1_0 u2 ((blk_cell N4.out 0).trans rfl) ((blk_cell N4.out 1).trans rfl) (blk_lt N4.out) (Kd.C_below H0.out.1 HS.out.below) (Kd.C_below H1.out.1 HS.out.below) (by have := HV.out; omega) (by have := HV.out; omega)
      refine goes_ Try.func59 (by kernel_rfl) rfl #[.slice (some ⟨g4, 0, none⟩) 2 2] (by rfl) rfl rfl (by (try simp only [List.map_toArray, List.map_cons, List.map_nil]); first | done | rfl) ?_
      refine hcat.mono ?_
      rintro e u3 ⟨v, rfl, hown, hb⟩
      clear hcat
      obtain ⟨B5, d5, rfl, _, _⟩ := Kd.R_reads (R_own hown (ok := fun _ => True) (fun _ _ => trivial))
      have hgr := HS.out.big
      have HT := Aside0.mk (HS.out.next hb)
      clear HS
      have HS := HT
      clear HT
      have M18 := Aside0.mk ((hb.block _ (blk_lt N18.out)).trans N18.out)
      clear N18
      have N18 := M18
      clear M18
      have M4 := Aside0.mk ((hb.block _ (blk_lt N4.out)).trans N4.out)
      clear N4
      have N4 := M4
      clear M4
      have N5 := Aside0.mk (own_weaken hown (show w.heap.size ≤ u2.heap.size by omega))
      clear hown hb hgr
      refine ⟨_, rfl, hK.out _ _ HS.out.held (fun hHeld => ?_)⟩
      clear hK K
      refine norm_ (a' := ?_) ?_ ?_
      rotate_left
      ·
       show Act.put _ (some 30) _ = _
       simp only [Act.put, List.setIfInBounds_toArray, List.set_cons_zero, List.set_cons_succ, i64_w, i32_w]
       rfl
      refine one_ (i := 10) (N := some 35) (bl 20 391167) rfl rfl (by kernel_rfl) (by decide) (fun K hK => ?_)
      refine value_ (w1 := ?_) (v := ?_) (by rfl) rfl ?_ ?_
      rotate_left 2
      ·
       go_simp
       constructor
       ·
        rfl
       ·
        rfl
      have hb := (Below.refl u3.heap.size u3).alloc (Nat.le_refl _) (.cells #[.slice A0_1 l0_1.length c0_1, .slice A1_1 l1_1.length c1_1] 22)
      have HT := Aside0.mk (HS.out.next hb)
      clear HS
      have HS := HT
      clear HT
      have M18 := Aside0.mk ((hb.block _ (blk_lt N18.out)).trans N18.out)
      clear N18
      have N18 := M18
      clear M18
      have M4 := Aside0.mk ((hb.block _ (blk_lt N4.out)).trans N4.out)
      clear N4
      have N4 := M4
      clear M4
      have M5 := Aside0.mk (own_move N5.out (fun k hk => hb.block k (ownBlock_lt N5.out k hk)))
      clear N5
      have N5 := M5
      clear M5
      have N10 := Aside0.mk (blk_new u3 (.cells #[.slice A0_1 l0_1.length c0_1, .slice A1_1 l1_1.length c1_1] 22))
      clear hb
      refine hK.out _ _ HS.out.held (fun hHeld => ?_)
      clear hK K
      generalize World.alloc u3 (.cells #[.slice A0_1 l0_1.length c0_1, .slice A1_1 l1_1.length c1_1] 22) = u4 at HS hHeld N10 N18 N4 N5 ⊢
      generalize u3.heap.size = g10 at N10 ⊢
      refine norm_ (a' := ?_) ?_ ?_
      rotate_left
      ·
       show Act.put _ (some 35) _ = _
       simp only [Act.put, List.setIfInBounds_toArray, List.set_cons_zero, List.set_cons_succ, i64_w, i32_w]
       rfl
      refine one_ (i := 11) (N := some 36) (bl 20 393215) rfl rfl (by kernel_rfl) (by decide) (fun K hK => ?_)
      have hcat := concat_calls g10 A0_1 c0_1 l0_1 A1_1 c1_1 l1_1 u4 ((blk_cell N10.out 0).trans rfl) ((blk_cell N10.out 1).trans rfl) (blk_lt N10.out) (Kd.C_below H0.out.2 HS.out.below) (Kd.C_below H1.out.2 HS.out.below) (by have := HV.out; omega) (by have := HV.out; omega)
      refine goes_ Try.func59 (by kernel_rfl) rfl #[.slice (some ⟨g10, 0, none⟩) 2 2] (by rfl) rfl rfl (by (try simp only [List.map_toArray, List.map_cons, List.map_nil]); first | done | rfl) ?_
      refine hcat.mono ?_
      rintro e u5 ⟨v, rfl, hown, hb⟩
      clear hcat
      obtain ⟨B11, d11, rfl, _, _⟩ := Kd.R_reads (R_own hown (ok := fun _ => True) (fun _ _ => trivial))
      have hgr := HS.out.big
      have NE := Aside0.mk (show ∀ k, (Value.slice B5 (l0_0 ++ l1_0).length d5).ownBlock = some k → (Value.slice B11 (l0_1 ++ l1_1).length d11).ownBlock ≠ some k from fun k hk hl => by have h1 := ownBlock_lt N5.out k hk; have h2 := own_base hown k hl; omega)
      have HT := Aside0.mk (HS.out.next hb)
      clear HS
      have HS := HT
      clear HT
      have M18 := Aside0.mk ((hb.block _ (blk_lt N18.out)).trans N18.out)
      clear N18
      have N18 := M18
      clear M18
      have M4 := Aside0.mk ((hb.block _ (blk_lt N4.out)).trans N4.out)
      clear N4
      have N4 := M4
      clear M4
      have M5 := Aside0.mk (own_move N5.out (fun k hk => hb.block k (ownBlock_lt N5.out k hk)))
      clear N5
      have N5 := M5
      clear M5
      have M10 := Aside0.mk ((hb.block _ (blk_lt N10.out)).trans N10.out)
      clear N10
      have N10 := M10
      clear M10
      have N11 := Aside0.mk (own_weaken hown (show w.heap.size ≤ u4.heap.size by omega))
      clear hown hb hgr
      refine ⟨_, rfl, hK.out _ _ HS.out.held (fun hHeld => ?_)⟩
      clear hK K
      refine norm_ (a' := ?_) ?_ ?_
      rotate_left
      ·
       show Act.put _ (some 36) _ = _
       simp only [Act.put, List.setIfInBounds_toArray, List.set_cons_zero, List.set_cons_succ, i64_w, i32_w]
       rfl
      refine pure_ (i := 17) (N := some 42) (v := ?_) (a' := ?_) (bl 20 524287) rfl rfl (by kernel_rfl) (fun _ _ _ h => h) (Or.inl ⟨by rfl, ?_⟩) ?_ ?_; rotate_left; · (intro w'; go_simp; with_reducible rfl)
      rotate_left; · (simp only [Act.put, List.setIfInBounds_toArray, List.set_cons_zero, List.set_cons_succ, i64_w, i32_w]; rfl)
      have hh := HJ.out (g4, (B5, d5), g10, (B11, d11), g18) _ ⟨HS.out, N5.out, N11.out, NE.out, N18.out, NG.out⟩
      simp only [putAll, Act.put, List.setIfInBounds_toArray, List.set_cons_zero, List.set_cons_succ] at hh
      exact hh
     ·
      -- 10
      refine value_ (w1 := ?_) (v := ?_) (by rfl) rfl ?_ ?_
      rotate_left 2
      ·
       go_simp
       constructor
       ·
        rfl
       ·
        rfl
      have hb := (Below.refl u2.heap.size u2).alloc (Nat.le_refl _) (.cells #[.slice A0_1 l0_1.length c0_1, .slice A1_1 l1_1.length c1_1] 22)
      have HT := Aside0.mk (HS.out.next hb)
      clear HS
      have HS := HT
      clear HT
      have M18 := Aside0.mk ((hb.block _ (blk_lt N18.out)).trans N18.out)
      clear N18
      have N18 := M18
      clear M18
      have M4 := Aside0.mk ((hb.block _ (blk_lt N4.out)).trans N4.out)
      clear N4
      have N4 := M4
      clear M4
      have N10 := Aside0.mk (blk_new u2 (.cells #[.slice A0_1 l0_1.length c0_1, .slice A1_1 l1_1.length c1_1] 22))
      clear hb
      refine hK.out _ _ HS.out.held (fun hHeld => ?_)
      clear hK K
      generalize World.alloc u2 (.cells #[.slice A0_1 l0_1.length c0_1, .slice A1_1 l1_1.length c1_1] 22) = u3 at HS hHeld N10 N18 N4 ⊢
      generalize u2.heap.size = g10 at N10 ⊢
      refine norm_ (a' := ?_) ?_ ?_
      rotate_left
      ·
       show Act.put _ (some 35) _ = _
       simp only [Act.put, List.setIfInBounds_toArray, List.set_cons_zero, List.set_cons_succ, i64_w, i32_w]
       rfl
      refine one_ (i := 5) (N := some 30) (bl 20 391167) rfl rfl (by kernel_rfl) (by decide) (fun K hK => ?_)
      have hcat := concat_calls g4 A0_0 c0_0 l0_0 A1_0 c1_0 l1_0 u3 ((blk_cell N4.out 0).trans rfl) ((blk_cell N4.out 1).trans rfl) (blk_lt N4.out) (Kd.C_below H0.out.1 HS.out.below) (Kd.C_below H1.out.1 HS.out.below) (by have := HV.out; omega) (by have := HV.out; omega)
      refine goes_ Try.func59 (by kernel_rfl) rfl #[.slice (some ⟨g4, 0, none⟩) 2 2] (by rfl) rfl rfl (by (try simp only [List.map_toArray, List.map_cons, List.map_nil]); first | done | rfl) ?_
      refine hcat.mono ?_
      rintro e u4 ⟨v, rfl, hown, hb⟩
      clear hcat
      obtain ⟨B5, d5, rfl, _, _⟩ := Kd.R_reads (R_own hown (ok := fun _ => True) (fun _ _ => trivial))
      have hgr := HS.out.big
      have HT := Aside0.mk (HS.out.next hb)
      clear HS
      have HS := HT
      clear HT
      have M18 := Aside0.mk ((hb.block _ (blk_lt N18.out)).trans N18.out)
      clear N18
      have N18 := M18
      clear M18
      have M4 := Aside0.mk ((hb.block _ (blk_lt N4.out)).trans N4.out)
      clear N4
      have N4 := M4
      clear M4
      have M10 := Aside0.mk ((hb.block _ (blk_lt N10.out)).trans N10.out)
      clear N10
      have N10 := M10
      clear M10
      have N5 := Aside0.mk (own_weaken hown (show w.heap.size ≤ u3.heap.size by omega))
      clear hown hb hgr
      refine ⟨_, rfl, hK.out _ _ HS.out.held (fun hHeld => ?_)⟩
      clear hK K
      refine norm_ (a' := ?_) ?_ ?_
      rotate_left
      ·
       show Act.put _ (some 30) _ = _
       simp only [Act.put, List.setIfInBounds_toArray, List.set_cons_zero, List.set_cons_succ, i64_w, i32_w]
       rfl
      refine one_ (i := 11) (N := some 36) (bl 20 393215) rfl rfl (by kernel_rfl) (by decide) (fun K hK => ?_)
      have hcat := concat_calls g10 A0_1 c0_1 l0_1 A1_1 c1_1 l1_1 u4 ((blk_cell N10.out 0).trans rfl) ((blk_cell N10.out 1).trans rfl) (blk_lt N10.out) (Kd.C_below H0.out.2 HS.out.below) (Kd.C_below H1.out.2 HS.out.below) (by have := HV.out; omega) (by have := HV.out; omega)
      refine goes_ Try.func59 (by kernel_rfl) rfl #[.slice (some ⟨g10, 0, none⟩) 2 2] (by rfl) rfl rfl (by (try simp only [List.map_toArray, List.map_cons, List.map_nil]); first | done | rfl) ?_
      refine hcat.mono ?_
      rintro e u5 ⟨v, rfl, hown, hb⟩
      clear hcat
      obtain ⟨B11, d11, rfl, _, _⟩ := Kd.R_reads (R_own hown (ok := fun _ => True) (fun _ _ => trivial))
      have hgr := HS.out.big
      have NE := Aside0.mk (show ∀ k, (Value.slice B5 (l0_0 ++ l1_0).length d5).ownBlock = some k → (Value.slice B11 (l0_1 ++ l1_1).length d11).ownBlock ≠ some k from fun k hk hl => by have h1 := ownBlock_lt N5.out k hk; have h2 := own_base hown k hl; omega)
      have HT := Aside0.mk (HS.out.next hb)
      clear HS
      have HS := HT
      clear HT
      have M18 := Aside0.mk ((hb.block _ (blk_lt N18.out)).trans N18.out)
      clear N18
      have N18 := M18
      clear M18
      have M4 := Aside0.mk ((hb.block _ (blk_lt N4.out)).trans N4.out)
      clear N4
      have N4 := M4
      clear M4
      have M10 := Aside0.mk ((hb.block _ (blk_lt N10.out)).trans N10.out)
      clear N10
      have N10 := M10
      clear M10
      have M5 := Aside0.mk (own_move N5.out (fun k hk => hb.block k (ownBlock_lt N5.out k hk)))
      clear N5
      have N5 := M5
      clear M5
      have N11 := Aside0.mk (own_weaken hown (show w.heap.size ≤ u4.heap.size by omega))
      clear hown hb hgr
      refine ⟨_, rfl, hK.out _ _ HS.out.held (fun hHeld => ?_)⟩
      clear hK K
      refine norm_ (a' := ?_) ?_ ?_
      rotate_left
      ·
       show Act.put _ (some 36) _ = _
       simp only [Act.put, List.setIfInBounds_toArray, List.set_cons_zero, List.set_cons_succ, i64_w, i32_w]
       rfl
      refine pure_ (i := 17) (N := some 42) (v := ?_) (a' := ?_) (bl 20 524287) rfl rfl (by kernel_rfl) (fun _ _ _ h => h) (Or.inl ⟨by rfl, ?_⟩) ?_ ?_; rotate_left; · (intro w'; go_simp; with_reducible rfl)
      rotate_left; · (simp only [Act.put, List.setIfInBounds_toArray, List.set_cons_zero, List.set_cons_succ, i64_w, i32_w]; rfl)
      have hh := HJ.out (g4, (B5, d5), g10, (B11, d11), g18) _ ⟨HS.out, N5.out, N11.out, NE.out, N18.out, NG.out⟩
      simp only [putAll, Act.put, List.setIfInBounds_toArray, List.set_cons_zero, List.set_cons_succ] at hh
      exact hh
    ·
     -- 10
     refine value_ (w1 := ?_) (v := ?_) (by rfl) rfl ?_ ?_
     rotate_left 2
     ·
      go_simp
      constructor
      ·
       rfl
      ·
       rfl
     have hb := (Below.refl u1.heap.size u1).alloc (Nat.le_refl _) (.cells #[.slice A0_1 l0_1.length c0_1, .slice A1_1 l1_1.length c1_1] 22)
     have HT := Aside0.mk (HS.out.next hb)
     clear HS
     have HS := HT
     clear HT
     have M18 := Aside0.mk ((hb.block _ (blk_lt N18.out)).trans N18.out)
     clear N18
     have N18 := M18
     clear M18
     have N10 := Aside0.mk (blk_new u1 (.cells #[.slice A0_1 l0_1.length c0_1, .slice A1_1 l1_1.length c1_1] 22))
     clear hb
     refine hK.out _ _ HS.out.held (fun hHeld => ?_)
     clear hK K
     generalize World.alloc u1 (.cells #[.slice A0_1 l0_1.length c0_1, .slice A1_1 l1_1.length c1_1] 22) = u2 at HS hHeld N10 N18 ⊢
     generalize u1.heap.size = g10 at N10 ⊢
     refine norm_ (a' := ?_) ?_ ?_
     rotate_left
     ·
      show Act.put _ (some 35) _ = _
      simp only [Act.put, List.setIfInBounds_toArray, List.set_cons_zero, List.set_cons_succ, i64_w, i32_w]
      rfl
     refine one_ (i := 4) (N := some 29) (bl 20 391135) rfl rfl (by kernel_rfl) (by decide) (fun K hK => ?_)
     refine value_ (w1 := ?_) (v := ?_) (by rfl) rfl ?_ ?_
     rotate_left 2
     ·
      go_simp
      constructor
      ·
       rfl
      ·
       rfl
     have hb := (Below.refl u2.heap.size u2).alloc (Nat.le_refl _) (.cells #[.slice A0_0 l0_0.length c0_0, .slice A1_0 l1_0.length c1_0] 22)
     have HT := Aside0.mk (HS.out.next hb)
     clear HS
     have HS := HT
     clear HT
     have M18 := Aside0.mk ((hb.block _ (blk_lt N18.out)).trans N18.out)
     clear N18
     have N18 := M18
     clear M18
     have M10 := Aside0.mk ((hb.block _ (blk_lt N10.out)).trans N10.out)
     clear N10
     have N10 := M10
     clear M10
     have N4 := Aside0.mk (blk_new u2 (.cells #[.slice A0_0 l0_0.length c0_0, .slice A1_0 l1_0.length c1_0] 22))
     clear hb
     refine hK.out _ _ HS.out.held (fun hHeld => ?_)
     clear hK K
     generalize World.alloc u2 (.cells #[.slice A0_0 l0_0.length c0_0, .slice A1_0 l1_0.length c1_0] 22) = u3 at HS hHeld N4 N18 N10 ⊢
     generalize u2.heap.size = g4 at N4 ⊢
     refine norm_ (a' := ?_) ?_ ?_
     rotate_left
     ·
      show Act.put _ (some 29) _ = _
      simp only [Act.put, List.setIfInBounds_toArray, List.set_cons_zero, List.set_cons_succ, i64_w, i32_w]
      rfl
     refine one_ (i := 5) (N := some 30) (bl 20 391167) rfl rfl (by kernel_rfl) (by decide) (fun K hK => ?_)
     have hcat := concat_calls g4 A0_0 c0_0 l0_0 A1_0 c1_0 l1_0 u3 ((blk_cell N4.out 0).trans rfl) ((blk_cell N4.out 1).trans rfl) (blk_lt N4.out) (Kd.C_below H0.out.1 HS.out.below) (Kd.C_below H1.out.1 HS.out.below) (by have := HV.out; omega) (by have := HV.out; omega)
     refine goes_ Try.func59 (by kernel_rfl) rfl #[.slice (some ⟨g4, 0, none⟩) 2 2] (by rfl) rfl rfl (by (try simp only [List.map_toArray, List.map_cons, List.map_nil]); first | done | rfl) ?_
     refine hcat.mono ?_
     rintro e u4 ⟨v, rfl, hown, hb⟩
     clear hcat
     obtain ⟨B5, d5, rfl, _, _⟩ := Kd.R_reads (R_own hown (ok := fun _ => True) (fun _ _ => trivial))
     have hgr := HS.out.big
     have HT := Aside0.mk (HS.out.next hb)
     clear HS
     have HS := HT
     clear HT
     have M18 := Aside0.mk ((hb.block _ (blk_lt N18.out)).trans N18.out)
     clear N18
     have N18 := M18
     clear M18
     have M10 := Aside0.mk ((hb.block _ (blk_lt N10.out)).trans N10.out)
     clear N10
     have N10 := M10
     clear M10
     have M4 := Aside0.mk ((hb.block _ (blk_lt N4.out)).trans N4.out)
     clear N4
     have N4 := M4
     clear M4
     have N5 := Aside0.mk (own_weaken hown (show w.heap.size ≤ u3.heap.size by omega))
     clear hown hb hgr
     refine ⟨_, rfl, hK.out _ _ HS.out.held (fun hHeld => ?_)⟩
     clear hK K
     refine norm_ (a' := ?_) ?_ ?_
     rotate_left
     ·
      show Act.put _ (some 30) _ = _
      simp only [Act.put, List.setIfInBounds_toArray, List.set_cons_zero, List.set_cons_succ, i64_w, i32_w]
      rfl
     refine one_ (i := 11) (N := some 36) (bl 20 393215) rfl rfl (by kernel_rfl) (by decide) (fun K hK => ?_)
     have hcat := concat_calls g10 A0_1 c0_1 l0_1 A1_1 c1_1 l1_1 u4 ((blk_cell N10.out 0).trans rfl) ((blk_cell N10.out 1).trans rfl) (blk_lt N10.out) (Kd.C_below H0.out.2 HS.out.below) (Kd.C_below H1.out.2 HS.out.below) (by have := HV.out; omega) (by have := HV.out; omega)
     refine goes_ Try.func59 (by kernel_rfl) rfl #[.slice (some ⟨g10, 0, none⟩) 2 2] (by rfl) rfl rfl (by (try simp only [List.map_toArray, List.map_cons, List.map_nil]); first | done | rfl) ?_
     refine hcat.mono ?_
     rintro e u5 ⟨v, rfl, hown, hb⟩
     clear hcat
     obtain ⟨B11, d11, rfl, _, _⟩ := Kd.R_reads (R_own hown (ok := fun _ => True) (fun _ _ => trivial))
     have hgr := HS.out.big
     have NE := Aside0.mk (show ∀ k, (Value.slice B5 (l0_0 ++ l1_0).length d5).ownBlock = some k → (Value.slice B11 (l0_1 ++ l1_1).length d11).ownBlock ≠ some k from fun k hk hl => by have h1 := ownBlock_lt N5.out k hk; have h2 := own_base hown k hl; omega)
     have HT := Aside0.mk (HS.out.next hb)
     clear HS
     have HS := HT
     clear HT
     have M18 := Aside0.mk ((hb.block _ (blk_lt N18.out)).trans N18.out)
     clear N18
     have N18 := M18
     clear M18
     have M10 := Aside0.mk ((hb.block _ (blk_lt N10.out)).trans N10.out)
     clear N10
     have N10 := M10
     clear M10
     have M4 := Aside0.mk ((hb.block _ (blk_lt N4.out)).trans N4.out)
     clear N4
     have N4 := M4
     clear M4
     have M5 := Aside0.mk (own_move N5.out (fun k hk => hb.block k (ownBlock_lt N5.out k hk)))
     clear N5
     have N5 := M5
     clear M5
     have N11 := Aside0.mk (own_weaken hown (show w.heap.size ≤ u4.heap.size by omega))
     clear hown hb hgr
     refine ⟨_, rfl, hK.out _ _ HS.out.held (fun hHeld => ?_)⟩
     clear hK K
     refine norm_ (a' := ?_) ?_ ?_
     rotate_left
     ·
      show Act.put _ (some 36) _ = _
      simp only [Act.put, List.setIfInBounds_toArray, List.set_cons_zero, List.set_cons_succ, i64_w, i32_w]
      rfl
     refine pure_ (i := 17) (N := some 42) (v := ?_) (a' := ?_) (bl 20 524287) rfl rfl (by kernel_rfl) (fun _ _ _ h => h) (Or.inl ⟨by rfl, ?_⟩) ?_ ?_; rotate_left; · (intro w'; go_simp; with_reducible rfl)
     rotate_left; · (simp only [Act.put, List.setIfInBounds_toArray, List.set_cons_zero, List.set_cons_succ, i64_w, i32_w]; rfl)
     have hh := HJ.out (g4, (B5, d5), g10, (B11, d11), g18) _ ⟨HS.out, N5.out, N11.out, NE.out, N18.out, NG.out⟩
     simp only [putAll, Act.put, List.setIfInBounds_toArray, List.set_cons_zero, List.set_cons_succ] at hh
     exact hh

theorem lin_Add.calls (A0_0 : Option Addr) (c0_0 : Nat) (l0_0 : List Int) (A0_1 : Option Addr) (c0_1 : Nat) (l0_1 : List Int) (a0_2 : Int) (A1_0 : Option Addr) (c1_0 : Nat) (l1_0 : List Int) (A1_1 : Option Addr) (c1_1 : Nat) (l1_1 : List Int) (a1_2 : Int) (r1 : List Int) (r2 : List Int) (r3 : Int) (r4 : Int) (w : World) (hr0_0 : Kd.C (Kd.int .i64) w A0_0 l0_0.length l0_0) (hc0_0 : l0_0.length ≤ c0_0) (hr0_1 : Kd.C (Kd.int .i64) w A0_1 l0_1.length l0_1) (hc0_1 : l0_1.length ≤ c0_1) (hr1_0 : Kd.C (Kd.int .i64) w A1_0 l1_0.length l1_0) (hc1_0 : l1_0.length ≤ c1_0) (hr1_1 : Kd.C (Kd.int .i64) w A1_1 l1_1.length l1_1) (hc1_1 : l1_1.length ≤ c1_1) (h : lin_Add.f l0_0 l0_1 a0_2 l1_0 l1_1 a1_2 = some (r1, r2, r3, r4)) :
  Calls Try.prog 27 #[.agg #[.slice A0_0 l0_0.length c0_0, .slice A0_1 l0_1.length c0_1, .int .i64 a0_2], .agg #[.slice A1_0 l1_0.length c1_0, .slice A1_1 l1_1.length c1_1, .int .i64 a1_2]] w fun e w' => ∃ v0_ v1_ : Value, e = .returned (.tuple #[.agg #[v0_, v1_, .int .i64 r3], .int .i64 r4]) ∧ Kd.R (Kd.int .i64) 3 w' w.heap.size (fun k_ => some k_ ≠ (v1_ : Value).ownBlock) v0_ r1 ∧ Kd.R (Kd.int .i64) 3 w' w.heap.size (fun k_ => some k_ ≠ (v0_ : Value).ownBlock) v1_ r2 ∧ Below w.heap.size w w' := by
 refine (add_walk A0_0 c0_0 l0_0 A0_1 c0_1 l0_1 a0_2 A1_0 c1_0 l1_0 A1_1 c1_1 l1_1 a1_2 w hr0_0 hc0_0 hr0_1 hc0_1 hr1_0 hc1_0 hr1_1 hc1_1 (r1, r2, r3, r4) (Option.some.inj h)).mono ?_
 rintro e w' ⟨v0_, v1_, rfl, h0, h1, hn, hb⟩
 exact ⟨v0_, v1_, rfl, R_own h0 (fun k hk e => hn k hk e.symm), R_own h1 (fun k hk e => hn k e.symm hk), hb⟩


end Go.Proofs.Ytmcljhjmmipagaa.PL
