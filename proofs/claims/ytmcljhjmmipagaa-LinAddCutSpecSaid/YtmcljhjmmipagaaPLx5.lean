/- Lean functions that tell what the Go functions named below answer, and a proof for each that the Go function comes to just that answer; the conditions stand in each statement. -/
import Derived.Test.YtmcljhjmmipagaaPLx0
import Derived.Test.YtmcljhjmmipagaaPLx3
import Derived.Test.YtmcljhjmmipagaaPLx4
namespace Go.Proofs.Ytmcljhjmmipagaa.PL
open Go.RowKit Go.Proofs.YtmcljhjmmipagaaW.PrintWords Go.Proofs.YtmcljhjmmipagaaW.PrintLast Go.Proofs.YtmcljhjmmipagaaW.PrintMore
attribute [local go_sem] max2_int min2_int max_two min_two max_three min_three max_four min_four   -- for this text's walks alone
set_option linter.unusedVariables false
set_option linter.unusedSimpArgs false

/-! ### chalklineref12_Norm: function 22 -/
mutual
def chalklineref12_Norm.l0 : Nat → Int → List Int → Int → List Int → List Int → Int → List Int → List Int → Int → Option (List Int × List Int × Int)
 | 0, _, _, _, _, _, _, _, _, _ => none
 | k + 1, x4, x5, x6, x247000, x247001, x247002, x250000, x250001, x250002 => if x6 < (x5.length : Int) then (if 0 ≤ x6 then ((chalklineref12_both.f k x247000 x247001 x247002 (rd x5 x6)).bind fun bt254 => (if bt254.1 > bt254.2 then (if x250000.length < 17592186044416 then ((some (x250000 ++ [wrap64 (bt254.1 - bt254.2)] : List Int)).bind fun y256 => (if x250001.length < 17592186044416 then ((some (x250001 ++ [rd x5 x6] : List Int)).bind fun y260 => (if bt254.2 > bt254.1 then (if y256.length < 17592186044416 then (if y260.length < 17592186044416 then (chalklineref12_Norm.l0 k (wrap64 ((wrap64 (x4 + (mx bt254.1 bt254.2))) - (mn bt254.1 bt254.2))) x5 (wrap64 (x6 + 1)) x247000 x247001 x247002 (y256 ++ [wrap64 (bt254.2 - bt254.1)]) (y260 ++ [wrap64 (-(rd x5 x6))]) (wrap64 (x250002 - (mn bt254.1 bt254.2)))) else (none)) else (none)) else (chalklineref12_Norm.l0 k (wrap64 ((wrap64 (x4 + (mx bt254.1 bt254.2))) - (mn bt254.1 bt254.2))) x5 (wrap64 (x6 + 1)) x247000 x247001 x247002 y256 y260 (wrap64 (x250002 - (mn bt254.1 bt254.2)))))) else (none))) else (none)) else (if bt254.2 > bt254.1 then (if x250000.length < 17592186044416 then (if x250001.length < 17592186044416 then (chalklineref12_Norm.l0 k (wrap64 ((wrap64 (x4 + (mx bt254.1 bt254.2))) - (mn bt254.1 bt254.2))) x5 (wrap64 (x6 + 1)) x247000 x247001 x247002 (x250000 ++ [wrap64 (bt254.2 - bt254.1)]) (x250001 ++ [wrap64 (-(rd x5 x6))]) (wrap64 (x250002 - (mn bt254.1 bt254.2)))) else (none)) else (none)) else (chalklineref12_Norm.l0 k (wrap64 ((wrap64 (x4 + (mx bt254.1 bt254.2))) - (mn bt254.1 bt254.2))) x5 (wrap64 (x6 + 1)) x247000 x247001 x247002 x250000 x250001 (wrap64 (x250002 - (mn bt254.1 bt254.2))))))) else (none)) else (if x250002 ≤ 0 then (some (([] : List Int), ([] : List Int), 0)) else (if x4 < x250002 then (some (([] : List Int), ([] : List Int), 1)) else (chalklineref12_Norm.l1 k 0 x250000 x250001 x250002)))
def chalklineref12_Norm.l1 : Nat → Int → List Int → List Int → Int → Option (List Int × List Int × Int)
 | 0, _, _, _, _ => none
 | k + 1, x9, x250000, x250001, x250002 => if x9 < (x250000.length : Int) then (if 0 ≤ x9 then (chalklineref12_Norm.l1 k (wrap64 (x9 + 1)) (x250000.set (x9 : Int).toNat (mn (rd x250000 x9) x250002)) x250001 x250002) else (none)) else (some (x250000, x250001, x250002))
end
def chalklineref12_Norm.f (k : Nat) (l0_0 : List Int) (l0_1 : List Int) (a0_2 : Int) : Option (List Int × List Int × Int) := (chalklineref12_Check.f k l0_0 l0_1 a0_2 65536).bind fun t248 => (if t248 = 0 then ((chalklineref12_vars.f k l0_0 l0_1 a0_2).bind fun t250 => (chalklineref12_Norm.l0 k 0 t250 0 l0_0 l0_1 a0_2 ([] : List Int) ([] : List Int) a0_2)) else (some (([] : List Int), ([] : List Int), 0)))
def chalklineref12_Norm.T9 : Bool × List (List Nat × List Nat) := (true, [([], []), ([], []), ([], []), ([1, 2], [1, 2]), ([3], [3]), ([0, 4], [0, 4]), ([5], [5]), ([6], [6]), ([6], [6]), ([7, 5, 0, 1, 2, 3, 4, 5, 6, 7], [7]), ([8, 9, 0, 1, 2, 3, 4, 5, 6, 7, 8, 9], [8])])
def chalklineref12_Norm.B9 : List Nat := [0, 0, 0, 6, 14, 31, 63, 127, 127, 255, 1023]
theorem chalklineref12_Norm.tab9 : rtab .any (opsOf Try.f22 9) = chalklineref12_Norm.T9 := by kernel_rfl
theorem chalklineref12_Norm.bits9 : waitsOk chalklineref12_Norm.T9.2 chalklineref12_Norm.B9 = true := by kernel_rfl
def chalklineref12_Norm.T13 : Bool × List (List Nat × List Nat) := (true, [([], []), ([0], [0]), ([], []), ([], []), ([2, 3], [2, 3]), ([4], [4]), ([5], [5]), ([1, 6], [1, 6]), ([0, 1, 2, 3, 4, 5, 6, 7], []), ([8, 7, 7, 0, 1, 2, 3, 4, 5, 6, 7], [7, 8])])
def chalklineref12_Norm.B13 : List Nat := [0, 1, 0, 0, 12, 28, 60, 127, 255, 511]
theorem chalklineref12_Norm.tab13 : rtab .any (opsOf Try.f22 13) = chalklineref12_Norm.T13 := by kernel_rfl
theorem chalklineref12_Norm.bits13 : waitsOk chalklineref12_Norm.T13.2 chalklineref12_Norm.B13 = true := by kernel_rfl
def chalklineref12_Norm.T16 : Bool × List (List Nat × List Nat) := (true, [([], []), ([0], [0]), ([], []), ([], []), ([2, 3], [2, 3]), ([4], [4]), ([5], [5]), ([6], [6]), ([1, 7], [1, 7]), ([0, 1, 2, 3, 4, 5, 6, 7, 8], []), ([9, 8, 8, 0, 1, 2, 3, 4, 5, 6, 7, 8], [8, 9])])
def chalklineref12_Norm.B16 : List Nat := [0, 1, 0, 0, 12, 28, 60, 124, 255, 511, 1023]
theorem chalklineref12_Norm.tab16 : rtab .any (opsOf Try.f22 16) = chalklineref12_Norm.T16 := by kernel_rfl
theorem chalklineref12_Norm.bits16 : waitsOk chalklineref12_Norm.T16.2 chalklineref12_Norm.B16 = true := by kernel_rfl
def chalklineref12_Norm.T25 : Bool × List (List Nat × List Nat) := (true, [([], []), ([0], [0]), ([], []), ([], []), ([3], [3]), ([], []), ([4, 5], [4, 5]), ([6], [6]), ([], []), ([8], [8]), ([7, 9], [7, 9]), ([1, 2, 0, 1, 2, 3, 4, 5, 6, 7, 8, 9, 10], [1, 2]), ([11, 10, 0, 1, 2, 3, 4, 5, 6, 7, 8, 9, 10], [10, 11])])
def chalklineref12_Norm.B25 : List Nat := [0, 1, 0, 0, 8, 0, 56, 120, 0, 256, 1016, 2047, 4095]
theorem chalklineref12_Norm.tab25 : rtab .any (opsOf Try.f22 25) = chalklineref12_Norm.T25 := by kernel_rfl
theorem chalklineref12_Norm.bits25 : waitsOk chalklineref12_Norm.T25.2 chalklineref12_Norm.B25 = true := by kernel_rfl
set_option maxHeartbeats 8000000 in
set_option maxRecDepth 100000 in
theorem chalklineref12_Norm.calls (k : Nat) (A0_0 : Option Addr) (c0_0 : Nat) (l0_0 : List Int) (A0_1 : Option Addr) (c0_1 : Nat) (l0_1 : List Int) (a0_2 : Int) (r1 : List Int) (r2 : List Int) (r3 : Int) (w : World) (hr0_0 : Kd.C (Kd.int .i64) w A0_0 l0_0.length l0_0) (hc0_0 : l0_0.length ≤ c0_0) (hr0_1 : Kd.C (Kd.int .i64) w A0_1 l0_1.length l0_1) (hc0_1 : l0_1.length ≤ c0_1) (h : chalklineref12_Norm.f k l0_0 l0_1 a0_2 = some (r1, r2, r3)) :
  Calls Try.prog 22 #[.agg #[.slice A0_0 l0_0.length c0_0, .slice A0_1 l0_1.length c0_1, .int .i64 a0_2]] w fun e w' => ∃ v0_ v1_ : Value, e = .returned (.agg #[v0_, v1_, .int .i64 r3]) ∧ Kd.R (Kd.int .i64) 3 w' w.heap.size (fun k_ => some k_ ≠ (v1_ : Value).ownBlock) v0_ r1 ∧ Kd.R (Kd.int .i64) 3 w' w.heap.size (fun k_ => some k_ ≠ (v0_ : Value).ownBlock) v1_ r2 ∧ Below w.heap.size w w' := by
 have hu24 := Try.underlying24
 have HR0_0 := Aside0.mk hr0_0
 have HC0_0 := Aside0.mk hc0_0
 clear hr0_0 hc0_0
 have HR0_1 := Aside0.mk hr0_1
 have HC0_1 := Aside0.mk hc0_1
 clear hr0_1 hc0_1
 have HB := Aside0.mk (Below.refl w.heap.size w)
 have H : ((chalklineref12_Check.f k l0_0 l0_1 a0_2 65536).bind fun t248 => (if t248 = 0 then ((chalklineref12_vars.f k l0_0 l0_1 a0_2).bind fun t250 => (chalklineref12_Norm.l0 k 0 t250 0 l0_0 l0_1 a0_2 ([] : List Int) ([] : List Int) a0_2)) else (some (([] : List Int), ([] : List Int), 0)))) = some (r1, r2, r3) := h
 clear h
 replace H := Option.bind_eq_some_iff.mp H
 obtain ⟨t248, A20, H⟩ := H
 replace H : (if t248 = 0 then ((chalklineref12_vars.f k l0_0 l0_1 a0_2).bind fun t250 => (chalklineref12_Norm.l0 k 0 t250 0 l0_0 l0_1 a0_2 ([] : List Int) ([] : List Int) a0_2)) else (some (([] : List Int), ([] : List Int), 0))) = some (r1, r2, r3) := H
 have A2 := Aside0.mk A20
 clear A20
 by_cases c3 : t248 = 0
 ·
  rw [if_pos c3] at H
  have c3b0 : (t248 == 0) = true := beq_iff_eq.mpr c3
  have c3b1 : (t248 != 0) = false := bne_eq_false_iff_eq.mpr c3
  clear c3
  replace H := Option.bind_eq_some_iff.mp H
  obtain ⟨t250, A40, H⟩ := H
  replace H : (chalklineref12_Norm.l0 k 0 t250 0 l0_0 l0_1 a0_2 ([] : List Int) ([] : List Int) a0_2) = some (r1, r2, r3) := H
  have A4 := Aside0.mk A40
  clear A40
  have H' := Aside0.mk H
  clear H
  go_enter Try.func22, Try.ntmps22
  go_wp2_with (first | ((with_reducible refine gate_dst (N := 1) rfl ?_); refine box_event ?hg (N := 1) ?hd (cs := #[.slice A0_0 l0_0.length c0_0, .slice A0_1 l0_1.length c0_1, .int .i64 a0_2]) (t := 24) ?hr ?_; (case hd => rfl); (case hg => rfl); (case hr => first | (go_simp; done) | (go_simp; rfl)); intro gb246 hg w5 hbox hb; have n0_ := Aside0.mk (below_step (by repeat (first | (with_reducible first | exact HB.out | apply below_alloc | apply pw_below_drewN | apply below_drew1) | exact HB.out)) hb); have n1_ := Aside0.mk (hbox); have n2_ := Aside0.mk ((by rw [hg]; exact (below_size (by repeat (first | (with_reducible first | exact HB.out | apply below_alloc | apply pw_below_drewN | apply below_drew1) | exact HB.out))) : w.heap.size ≤ gb246)); have n3_ := Aside0.mk ((by rw [hg]; exact (below_size (by repeat (first | (with_reducible first | exact HB.out | apply below_alloc | apply pw_below_drewN | apply below_drew1) | exact HB.out))) : w.heap.size ≤ gb246)); clear HB; have HB := n0_; have BK246 := n1_; have GW246 := n2_; have GE246 := n3_; clear n0_ n1_ n2_ n3_; clear hb hbox hg) | ((with_reducible refine gate_dst (N := 2) rfl ?_); refine box_event ?hg (N := 2) ?hd (cs := #[.slice none 0 0, .slice none 0 0, .int .i64 0]) (t := 24) ?hr ?_; (case hd => rfl); (case hg => rfl); (case hr => first | (go_simp; done) | (go_simp; rfl)); intro gb247 hg w6 hbox hb; have n0_ := Aside0.mk (blk_below (g := gb246) (o := .cells #[.slice A0_0 l0_0.length c0_0, .slice A0_1 l0_1.length c0_1, .int .i64 a0_2] 24 (0, 0)) (by (with_reducible repeat (first | refine blk_drewN ?_ _ | refine blk_drew ?_ | refine blk_alloc ?_ _)); exact BK246.out) hb); have n1_ := Aside0.mk (below_step (by repeat (first | (with_reducible first | exact HB.out | apply below_alloc | apply pw_below_drewN | apply below_drew1 | refine below_set ?_ GE246.out) | exact HB.out)) hb); have n2_ := Aside0.mk (hbox); have n3_ := Aside0.mk ((by rw [hg]; exact (below_size (by repeat (first | (with_reducible first | exact HB.out | apply below_alloc | apply pw_below_drewN | apply below_drew1 | refine below_set ?_ GE246.out) | exact HB.out))) : w.heap.size ≤ gb247)); have n4_ := Aside0.mk ((by rw [hg]; exact (below_size (by repeat (first | (with_reducible first | exact HB.out | apply below_alloc | apply pw_below_drewN | apply below_drew1 | refine below_set ?_ GE246.out) | exact HB.out))) : w.heap.size ≤ gb247)); have n5_ := Aside0.mk ((by rw [hg]; exact Nat.ne_of_lt (blk_lt (g := gb246) (o := .cells #[.slice A0_0 l0_0.length c0_0, .slice A0_1 l0_1.length c0_1, .int .i64 a0_2] 24 (0, 0)) (by (with_reducible repeat (first | refine blk_drewN ?_ _ | refine blk_drew ?_ | refine blk_alloc ?_ _)); exact BK246.out)) : gb246 ≠ gb247)); have n6_ := Aside0.mk ((by rw [hg]; exact Nat.ne_of_gt (blk_lt (g := gb246) (o := .cells #[.slice A0_0 l0_0.length c0_0, .slice A0_1 l0_1.length c0_1, .int .i64 a0_2] 24 (0, 0)) (by (with_reducible repeat (first | refine blk_drewN ?_ _ | refine blk_drew ?_ | refine blk_alloc ?_ _)); exact BK246.out)) : gb247 ≠ gb246)); clear BK246; clear HB; have BK246 := n0_; have HB := n1_; have BK247 := n2_; have GW247 := n3_; have GE247 := n4_; have NB246_247 := n5_; have NB247_246 := n6_; clear n0_ n1_ n2_ n3_ n4_ n5_ n6_; clear hb hbox hg; have hnb7 := NB246_247.out; have hnc7 := NB247_246.out; have hcz8_0 : w6.cell? ⟨gb246, 0, none⟩ = some (.slice A0_0 l0_0.length c0_0) := (blk_cell BK246.out 0).trans rfl; have hcz8_1 : w6.cell? ⟨gb246, 1, none⟩ = some (.slice A0_1 l0_1.length c0_1) := (blk_cell BK246.out 1).trans rfl; have hcz8_2 : w6.cell? ⟨gb246, 2, none⟩ = some (.int .i64 a0_2) := (blk_cell BK246.out 2).trans rfl; have hfz8_0 := blk_frozen BK246.out 0; have hfz8_1 := blk_frozen BK246.out 1; have hfz8_2 := blk_frozen BK246.out 2) | ((with_reducible refine gate_callee (f := 23) rfl ?_); refine goesL_ (some 11) rfl rfl Try.func23 (by kernel_rfl) rfl #[.agg #[.slice A0_0 l0_0.length c0_0, .slice A0_1 l0_1.length c0_1, .int .i64 a0_2], .int .i64 65536] rfl (by (try simp only [List.map_toArray, List.map_cons, List.map_nil]); first | done | rfl | (simp only [List.length_drop, List.length_take]; rfl)) ?_; (with_reducible refine (chalklineref12_Check.calls k _ _ l0_0 _ _ l0_1 a0_2 65536 t248 _ ?side1 ?side2 ?side3 ?side4 A2.out).mono ?_); (case side1 => repeat (first | exact (Kd.C_below HR0_0.out HB.out) | (with_reducible refine Kd.C_alloc ?_ _) | (with_reducible refine Kd.C_drewN ?_ _) | (with_reducible refine Kd.C_drew ?_))); (case side2 => exact HC0_0.out); (case side3 => repeat (first | exact (Kd.C_below HR0_1.out HB.out) | (with_reducible refine Kd.C_alloc ?_ _) | (with_reducible refine Kd.C_drewN ?_ _) | (with_reducible refine Kd.C_drew ?_))); (case side4 => exact HC0_1.out); rintro e w9 ⟨rfl, hb⟩; refine ⟨_, rfl, ?_⟩; have n0_ := Aside0.mk (blk_below (g := gb246) (o := .cells #[.slice A0_0 l0_0.length c0_0, .slice A0_1 l0_1.length c0_1, .int .i64 a0_2] 24 (0, 0)) (by (with_reducible repeat (first | refine blk_drewN ?_ _ | refine blk_drew ?_ | refine blk_alloc ?_ _)); exact BK246.out) hb); have n1_ := Aside0.mk (blk_below (g := gb247) (o := .cells #[.slice none 0 0, .slice none 0 0, .int .i64 0] 24 (0, 0)) (by (with_reducible repeat (first | refine blk_drewN ?_ _ | refine blk_drew ?_ | refine blk_alloc ?_ _)); exact BK247.out) hb); have n2_ := Aside0.mk (below_step (by repeat (first | (with_reducible first | exact HB.out | apply below_alloc | apply pw_below_drewN | apply below_drew1 | refine below_set ?_ GE246.out | refine below_set ?_ GE247.out) | exact HB.out)) hb); clear BK246; clear BK247; clear HB; have BK246 := n0_; have BK247 := n1_; have HB := n2_; clear n0_ n1_ n2_; (try clear hb); (try clear hb2); (try clear hk); (try clear hi); have hcz10_0 : w9.cell? ⟨gb246, 0, none⟩ = some (.slice A0_0 l0_0.length c0_0) := (blk_cell BK246.out 0).trans rfl; have hcz10_1 : w9.cell? ⟨gb246, 1, none⟩ = some (.slice A0_1 l0_1.length c0_1) := (blk_cell BK246.out 1).trans rfl; have hcz10_2 : w9.cell? ⟨gb246, 2, none⟩ = some (.int .i64 a0_2) := (blk_cell BK246.out 2).trans rfl; have hfz10_0 := blk_frozen BK246.out 0; have hfz10_1 := blk_frozen BK246.out 1; have hfz10_2 := blk_frozen BK246.out 2) | ((with_reducible refine gate_dst (N := 3) rfl ?_); refine box_event ?hg (N := 3) ?hd (cs := #[.slice none 0 0, .slice none 0 0, .int .i64 0]) (t := 24) ?hr ?_; (case hd => rfl); (case hg => rfl); (case hr => first | (go_simp; done) | (go_simp; rfl)); intro gb249 hg w11 hbox hb; have n0_ := Aside0.mk (blk_below (g := gb246) (o := .cells #[.slice A0_0 l0_0.length c0_0, .slice A0_1 l0_1.length c0_1, .int .i64 a0_2] 24 (0, 0)) (by (with_reducible repeat (first | refine blk_drewN ?_ _ | refine blk_drew ?_ | refine blk_alloc ?_ _)); exact BK246.out) hb); have n1_ := Aside0.mk (blk_below (g := gb247) (o := .cells #[.slice none 0 0, .slice none 0 0, .int .i64 0] 24 (0, 0)) (by (with_reducible repeat (first | refine blk_drewN ?_ _ | refine blk_drew ?_ | refine blk_alloc ?_ _)); exact BK247.out) hb); have n2_ := Aside0.mk (below_step (by repeat (first | (with_reducible first | exact HB.out | apply below_alloc | apply pw_below_drewN | apply below_drew1 | refine below_set ?_ GE246.out | refine below_set ?_ GE247.out) | exact HB.out)) hb); have n3_ := Aside0.mk (hbox); have n4_ := Aside0.mk ((by rw [hg]; exact (below_size (by repeat (first | (with_reducible first | exact HB.out | apply below_alloc | apply pw_below_drewN | apply below_drew1 | refine below_set ?_ GE246.out | refine below_set ?_ GE247.out) | exact HB.out))) : w.heap.size ≤ gb249)); have n5_ := Aside0.mk ((by rw [hg]; exact (below_size (by repeat (first | (with_reducible first | exact HB.out | apply below_alloc | apply pw_below_drewN | apply below_drew1 | refine below_set ?_ GE246.out | refine below_set ?_ GE247.out) | exact HB.out))) : w.heap.size ≤ gb249)); have n6_ := Aside0.mk ((by rw [hg]; exact Nat.ne_of_lt (blk_lt (g := gb246) (o := .cells #[.slice A0_0 l0_0.length c0_0, .slice A0_1 l0_1.length c0_1, .int .i64 a0_2] 24 (0, 0)) (by (with_reducible repeat (first | refine blk_drewN ?_ _ | refine blk_drew ?_ | refine blk_alloc ?_ _)); exact BK246.out)) : gb246 ≠ gb249)); have n7_ := Aside0.mk ((by rw [hg]; exact Nat.ne_of_gt (blk_lt (g := gb246) (o := .cells #[.slice A0_0 l0_0.length c0_0, .slice A0_1 l0_1.length c0_1, .int .i64 a0_2] 24 (0, 0)) (by (with_reducible repeat (first | refine blk_drewN ?_ _ | refine blk_drew ?_ | refine blk_alloc ?_ _)); exact BK246.out)) : gb249 ≠ gb246)); have n8_ := Aside0.mk ((by rw [hg]; exact Nat.ne_of_lt (blk_lt (g := gb247) (o := .cells #[.slice none 0 0, .slice none 0 0, .int .i64 0] 24 (0, 0)) (by (with_reducible repeat (first | refine blk_drewN ?_ _ | refine blk_drew ?_ | refine blk_alloc ?_ _)); exact BK247.out)) : gb247 ≠ gb249)); have n9_ := Aside0.mk ((by rw [hg]; exact Nat.ne_of_gt (blk_lt (g := gb247) (o := .cells #[.slice none 0 0, .slice none 0 0, .int .i64 0] 24 (0, 0)) (by (with_reducible repeat (first | refine blk_drewN ?_ _ | refine blk_drew ?_ | refine blk_alloc ?_ _)); exact BK247.out)) : gb249 ≠ gb247)); clear BK246; clear BK247; clear HB; have BK246 := n0_; have BK247 := n1_; have HB := n2_; have BK249 := n3_; have GW249 := n4_; have GE249 := n5_; have NB246_249 := n6_; have NB249_246 := n7_; have NB247_249 := n8_; have NB249_247 := n9_; clear n0_ n1_ n2_ n3_ n4_ n5_ n6_ n7_ n8_ n9_; clear hb hbox hg; have hnb12 := NB249_246.out; have hnc12 := NB246_249.out; have hnb13 := NB249_247.out; have hnc13 := NB247_249.out; have hcz14_0 : w11.cell? ⟨gb249, 0, none⟩ = some (.slice none 0 0) := (blk_cell BK249.out 0).trans rfl; have hcz14_1 : w11.cell? ⟨gb249, 1, none⟩ = some (.slice none 0 0) := (blk_cell BK249.out 1).trans rfl; have hcz14_2 : w11.cell? ⟨gb249, 2, none⟩ = some (.int .i64 0) := (blk_cell BK249.out 2).trans rfl; have hfz14_0 := blk_frozen BK249.out 0; have hfz14_1 := blk_frozen BK249.out 1; have hfz14_2 := blk_frozen BK249.out 2; have hcz15_0 : w11.cell? ⟨gb246, 0, none⟩ = some (.slice A0_0 l0_0.length c0_0) := (blk_cell BK246.out 0).trans rfl; have hcz15_1 : w11.cell? ⟨gb246, 1, none⟩ = some (.slice A0_1 l0_1.length c0_1) := (blk_cell BK246.out 1).trans rfl; have hcz15_2 : w11.cell? ⟨gb246, 2, none⟩ = some (.int .i64 a0_2) := (blk_cell BK246.out 2).trans rfl; have hfz15_0 := blk_frozen BK246.out 0; have hfz15_1 := blk_frozen BK246.out 1; have hfz15_2 := blk_frozen BK246.out 2) | ((with_reducible refine gate_callee (f := 56) rfl ?_); refine goesL_ (some 18) rfl rfl Try.func56 (by kernel_rfl) rfl #[.agg #[.slice A0_0 l0_0.length c0_0, .slice A0_1 l0_1.length c0_1, .int .i64 a0_2]] rfl (by (try simp only [List.map_toArray, List.map_cons, List.map_nil]); first | done | rfl | (simp only [List.length_drop, List.length_take]; rfl)) ?_; (with_reducible refine (chalklineref12_vars.calls k _ _ l0_0 _ _ l0_1 a0_2 t250 _ ?side1 ?side2 ?side3 ?side4 A4.out).mono ?_); (case side1 => exact Kd.C_below HR0_0.out (by repeat (first | (with_reducible first | exact HB.out | apply below_alloc | apply pw_below_drewN | apply below_drew1 | refine below_set ?_ GE246.out | refine below_set ?_ GE247.out | refine below_set ?_ GE249.out) | exact HB.out))); (case side2 => exact HC0_0.out); (case side3 => exact Kd.C_below HR0_1.out (by repeat (first | (with_reducible first | exact HB.out | apply below_alloc | apply pw_below_drewN | apply below_drew1 | refine below_set ?_ GE246.out | refine below_set ?_ GE247.out | refine below_set ?_ GE249.out) | exact HB.out))); (case side4 => exact HC0_1.out); rintro e w16 ⟨v251, rfl, ho0, hb⟩; refine ⟨_, rfl, ?_⟩; have n0_ := Aside0.mk (Kd.R_lower ho0 (below_size (by repeat (first | (with_reducible first | exact HB.out | apply below_alloc | apply pw_below_drewN | apply below_drew1 | refine below_set ?_ GE246.out | refine below_set ?_ GE247.out | refine below_set ?_ GE249.out) | exact HB.out)))); have n1_ := Aside0.mk (blk_below (g := gb246) (o := .cells #[.slice A0_0 l0_0.length c0_0, .slice A0_1 l0_1.length c0_1, .int .i64 a0_2] 24 (0, 0)) (by (with_reducible repeat (first | refine blk_drewN ?_ _ | refine blk_drew ?_ | refine blk_alloc ?_ _)); refine blk_far ?_ NB246_249.out _; (with_reducible repeat (first | refine blk_drewN ?_ _ | refine blk_drew ?_ | refine blk_alloc ?_ _)); refine blk_far ?_ NB246_249.out _; (with_reducible repeat (first | refine blk_drewN ?_ _ | refine blk_drew ?_ | refine blk_alloc ?_ _)); refine blk_far ?_ NB246_249.out _; (with_reducible repeat (first | refine blk_drewN ?_ _ | refine blk_drew ?_ | refine blk_alloc ?_ _)); exact BK246.out) hb); have n2_ := Aside0.mk (blk_below (g := gb247) (o := .cells #[.slice none 0 0, .slice none 0 0, .int .i64 0] 24 (0, 0)) (by (with_reducible repeat (first | refine blk_drewN ?_ _ | refine blk_drew ?_ | refine blk_alloc ?_ _)); refine blk_far ?_ NB247_249.out _; (with_reducible repeat (first | refine blk_drewN ?_ _ | refine blk_drew ?_ | refine blk_alloc ?_ _)); refine blk_far ?_ NB247_249.out _; (with_reducible repeat (first | refine blk_drewN ?_ _ | refine blk_drew ?_ | refine blk_alloc ?_ _)); refine blk_far ?_ NB247_249.out _; (with_reducible repeat (first | refine blk_drewN ?_ _ | refine blk_drew ?_ | refine blk_alloc ?_ _)); exact BK247.out) hb); have n3_ := Aside0.mk (blk_below (g := gb249) (o := .cells #[.slice none 0 0, .slice none 0 0, .int .i64 a0_2] 24 (0, 0)) (by (with_reducible repeat (first | refine blk_drewN ?_ _ | refine blk_drew ?_ | refine blk_alloc ?_ _)); refine blk_put (cs := #[.slice none 0 0, .slice none 0 0, .int .i64 0]) ?_ 2 _ rfl; (with_reducible repeat (first | refine blk_drewN ?_ _ | refine blk_drew ?_ | refine blk_alloc ?_ _)); refine blk_put (cs := #[.slice none 0 0, .slice none 0 0, .int .i64 0]) ?_ 1 _ rfl; (with_reducible repeat (first | refine blk_drewN ?_ _ | refine blk_drew ?_ | refine blk_alloc ?_ _)); refine blk_put (cs := #[.slice none 0 0, .slice none 0 0, .int .i64 0]) ?_ 0 _ rfl; (with_reducible repeat (first | refine blk_drewN ?_ _ | refine blk_drew ?_ | refine blk_alloc ?_ _)); exact BK249.out) hb); have n4_ := Aside0.mk (below_step (by repeat (first | (with_reducible first | exact HB.out | apply below_alloc | apply pw_below_drewN | apply below_drew1 | refine below_set ?_ GE246.out | refine below_set ?_ GE247.out | refine below_set ?_ GE249.out) | exact HB.out)) hb); clear BK246; clear BK247; clear BK249; clear HB; have HO252 := n0_; have BK246 := n1_; have BK247 := n2_; have BK249 := n3_; have HB := n4_; clear n0_ n1_ n2_ n3_ n4_; (try clear hb); (try clear hb2); (try clear hk); (try clear hi); (try clear ho0)))
  go_loopg [4, 6] k (fun kq v4 v6 w' => ∃ (x4_1 : Int) (x6_1 : Int) (x250000_1 : List Int) (x250001_1 : List Int) (x250002_1 : Int) (u250000 : Value) (u250001 : Value), v4 = .int .i64 x4_1 ∧ v6 = .int .i64 x6_1 ∧ Aside0 (chalklineref12_Norm.l0 kq x4_1 t250 x6_1 l0_0 l0_1 a0_2 x250000_1 x250001_1 x250002_1 = some (r1, r2, r3)) ∧ Aside0 (kq ≤ k) ∧ Aside0 (Kd.R (Kd.int .i64) 3 w' w.heap.size (fun k_ => some k_ ≠ (u250000 : Value).ownBlock ∧ some k_ ≠ (u250001 : Value).ownBlock) v251 t250) ∧ Aside0 (Kd.R (Kd.int .i64) 3 w' w.heap.size (fun k_ => some k_ ≠ (v251 : Value).ownBlock ∧ some k_ ≠ (u250001 : Value).ownBlock) u250000 x250000_1) ∧ Aside0 (Kd.R (Kd.int .i64) 3 w' w.heap.size (fun k_ => some k_ ≠ (v251 : Value).ownBlock ∧ some k_ ≠ (u250000 : Value).ownBlock) u250001 x250001_1) ∧ Aside0 (w'.heap[gb246]? = some (.cells #[(.slice A0_0 l0_0.length c0_0), (.slice A0_1 l0_1.length c0_1), .int .i64 a0_2] 24 (0, 0))) ∧ Aside0 (w'.heap[gb247]? = some (.cells #[(.slice none 0 0), (.slice none 0 0), .int .i64 0] 24 (0, 0))) ∧ Aside0 (w'.heap[gb249]? = some (.cells #[u250000, u250001, .int .i64 x250002_1] 24 (0, 0))) ∧ Aside0 (Below w.heap.size w w'))
  case atStart => exact ⟨(0), (0), (([] : List Int)), (([] : List Int)), (a0_2), (.slice none 0 0), (.slice none 0 0), (by first | rfl | (simp; done) | (simp [*]; done)), (by first | rfl | (simp; done) | (simp [*]; done)), H', ⟨Nat.le_refl _⟩, ⟨by (with_reducible repeat (first | apply Kd.R_alloc | apply Kd.R_drewN | apply Kd.R_drew)); exact Kd.R_mono HO252.out (fun _ hk => ⟨(by simp [Value.ownBlock]), (by simp [Value.ownBlock])⟩)⟩, ⟨by first | exact Kd.R_nil _ _ _ _ _ | exact Kd.N_nil _ _ _ _ _ | exact Kd.V_nil _ _ _ _ _ | exact Kd.Q_nil _ _ _ _ _ | exact Kd.S_nil _ _ _ _ _⟩, ⟨by first | exact Kd.R_nil _ _ _ _ _ | exact Kd.N_nil _ _ _ _ _ | exact Kd.V_nil _ _ _ _ _ | exact Kd.Q_nil _ _ _ _ _ | exact Kd.S_nil _ _ _ _ _⟩, ⟨by (with_reducible repeat (first | refine blk_drewN ?_ _ | refine blk_drew ?_ | refine blk_alloc ?_ _)); exact BK246.out⟩, ⟨by (with_reducible repeat (first | refine blk_drewN ?_ _ | refine blk_drew ?_ | refine blk_alloc ?_ _)); exact BK247.out⟩, ⟨by (with_reducible repeat (first | refine blk_drewN ?_ _ | refine blk_drew ?_ | refine blk_alloc ?_ _)); exact BK249.out⟩, ⟨by repeat (first | (with_reducible first | exact HB.out | apply below_alloc | apply pw_below_drewN | apply below_drew1 | refine below_set ?_ GE246.out | refine below_set ?_ GE247.out | refine below_set ?_ GE249.out) | exact HB.out)⟩⟩
  case round =>
   clear H'
   obtain ⟨x4_1, x6_1, x250000_1, x250001_1, x250002_1, u250000, u250001, rfl, rfl, HA, HK1, HO_5, HO_250000, HO_250001, BK246, BK247, BK249, HB⟩ := hrel
   cases gk with
   | zero => exact absurd HA.out (by simp [chalklineref12_Norm.l0])
   | succ k1 =>
    have H := HA.out
    clear HA
    simp only [chalklineref12_Norm.l0] at H
    by_cases c17 : x6_1 < (t250.length : Int)
    ·
     rw [if_pos c17] at H
     have c17b0 : decide (x6_1 < (t250.length : Int)) = true := decide_eq_true c17
     clear c17
     by_cases c18 : 0 ≤ x6_1
     ·
      rw [if_pos c18] at H
      have c18b0 : decide (0 ≤ x6_1) = true := decide_eq_true c18
      clear c18
      replace H := Option.bind_eq_some_iff.mp H
      obtain ⟨⟨t254, t255⟩, A190, H⟩ := H
      replace H : (if t254 > t255 then (if x250000_1.length < 17592186044416 then ((some (x250000_1 ++ [wrap64 (t254 - t255)] : List Int)).bind fun y256 => (if x250001_1.length < 17592186044416 then ((some (x250001_1 ++ [rd t250 x6_1] : List Int)).bind fun y260 => (if t255 > t254 then (if y256.length < 17592186044416 then (if y260.length < 17592186044416 then (chalklineref12_Norm.l0 k1 (wrap64 ((wrap64 (x4_1 + (mx t254 t255))) - (mn t254 t255))) t250 (wrap64 (x6_1 + 1)) l0_0 l0_1 a0_2 (y256 ++ [wrap64 (t255 - t254)]) (y260 ++ [wrap64 (-(rd t250 x6_1))]) (wrap64 (x250002_1 - (mn t254 t255)))) else (none)) else (none)) else (chalklineref12_Norm.l0 k1 (wrap64 ((wrap64 (x4_1 + (mx t254 t255))) - (mn t254 t255))) t250 (wrap64 (x6_1 + 1)) l0_0 l0_1 a0_2 y256 y260 (wrap64 (x250002_1 - (mn t254 t255)))))) else (none))) else (none)) else (if t255 > t254 then (if x250000_1.length < 17592186044416 then (if x250001_1.length < 17592186044416 then (chalklineref12_Norm.l0 k1 (wrap64 ((wrap64 (x4_1 + (mx t254 t255))) - (mn t254 t255))) t250 (wrap64 (x6_1 + 1)) l0_0 l0_1 a0_2 (x250000_1 ++ [wrap64 (t255 - t254)]) (x250001_1 ++ [wrap64 (-(rd t250 x6_1))]) (wrap64 (x250002_1 - (mn t254 t255)))) else (none)) else (none)) else (chalklineref12_Norm.l0 k1 (wrap64 ((wrap64 (x4_1 + (mx t254 t255))) - (mn t254 t255))) t250 (wrap64 (x6_1 + 1)) l0_0 l0_1 a0_2 x250000_1 x250001_1 (wrap64 (x250002_1 - (mn t254 t255)))))) = some (r1, r2, r3) := H
      have A19 := Aside0.mk A190
      clear A190
      obtain ⟨ji20, hji20⟩ : ∃ j_ : Int, (mn t254 t255) = j_ := ⟨_, rfl⟩
      replace H : (if t254 > t255 then (if x250000_1.length < 17592186044416 then ((some (x250000_1 ++ [wrap64 (t254 - t255)] : List Int)).bind fun y256 => (if x250001_1.length < 17592186044416 then ((some (x250001_1 ++ [rd t250 x6_1] : List Int)).bind fun y260 => (if t255 > t254 then (if y256.length < 17592186044416 then (if y260.length < 17592186044416 then (chalklineref12_Norm.l0 k1 (wrap64 ((wrap64 (x4_1 + (mx t254 t255))) - (ji20))) t250 (wrap64 (x6_1 + 1)) l0_0 l0_1 a0_2 (y256 ++ [wrap64 (t255 - t254)]) (y260 ++ [wrap64 (-(rd t250 x6_1))]) (wrap64 (x250002_1 - (ji20)))) else (none)) else (none)) else (chalklineref12_Norm.l0 k1 (wrap64 ((wrap64 (x4_1 + (mx t254 t255))) - (ji20))) t250 (wrap64 (x6_1 + 1)) l0_0 l0_1 a0_2 y256 y260 (wrap64 (x250002_1 - (ji20)))))) else (none))) else (none)) else (if t255 > t254 then (if x250000_1.length < 17592186044416 then (if x250001_1.length < 17592186044416 then (chalklineref12_Norm.l0 k1 (wrap64 ((wrap64 (x4_1 + (mx t254 t255))) - (ji20))) t250 (wrap64 (x6_1 + 1)) l0_0 l0_1 a0_2 (x250000_1 ++ [wrap64 (t255 - t254)]) (x250001_1 ++ [wrap64 (-(rd t250 x6_1))]) (wrap64 (x250002_1 - (ji20)))) else (none)) else (none)) else (chalklineref12_Norm.l0 k1 (wrap64 ((wrap64 (x4_1 + (mx t254 t255))) - (ji20))) t250 (wrap64 (x6_1 + 1)) l0_0 l0_1 a0_2 x250000_1 x250001_1 (wrap64 (x250002_1 - (ji20)))))) = some (r1, r2, r3) := by first | (rw [hji20] at H; exact H) | (simp only [hji20] at H ⊢; exact H)
      (try rw [hji20] at A19)
      have hji20_ : (if t255 < t254 then t255 else t254) = ji20 := hji20
      by_cases c21 : t254 > t255
      ·
       rw [if_pos c21] at H
       have c21b0 : decide (t255 < t254) = true := decide_eq_true c21
       clear c21
       by_cases c22 : x250000_1.length < 17592186044416
       ·
        rw [if_pos c22] at H
        have LMc22 := Aside0.mk c22
        clear c22
        obtain ⟨y256, hy256⟩ : ∃ y_ : List Int, y_ = (x250000_1 ++ [wrap64 (t254 - t255)]) := ⟨_, rfl⟩
        replace H : (if x250001_1.length < 17592186044416 then ((some (x250001_1 ++ [rd t250 x6_1] : List Int)).bind fun y260 => (if t255 > t254 then (if y256.length < 17592186044416 then (if y260.length < 17592186044416 then (chalklineref12_Norm.l0 k1 (wrap64 ((wrap64 (x4_1 + (mx t254 t255))) - (ji20))) t250 (wrap64 (x6_1 + 1)) l0_0 l0_1 a0_2 (y256 ++ [wrap64 (t255 - t254)]) (y260 ++ [wrap64 (-(rd t250 x6_1))]) (wrap64 (x250002_1 - (ji20)))) else (none)) else (none)) else (chalklineref12_Norm.l0 k1 (wrap64 ((wrap64 (x4_1 + (mx t254 t255))) - (ji20))) t250 (wrap64 (x6_1 + 1)) l0_0 l0_1 a0_2 y256 y260 (wrap64 (x250002_1 - (ji20)))))) else (none)) = some (r1, r2, r3) := by first | (rw [hy256]; with_reducible exact H) | (have H2_ := (Option.bind_some _ _).symm.trans H; rw [hy256]; with_reducible exact H2_) | (have H2_ := (Option.bind_some _ _).symm.trans H; with_reducible exact H2_) | with_reducible exact H | (rw [hy256]; exact H) | exact H
        have Ny256 := Aside0.mk hy256
        clear hy256
        by_cases c23 : x250001_1.length < 17592186044416
        ·
         rw [if_pos c23] at H
         have LMc23 := Aside0.mk c23
         clear c23
         obtain ⟨y260, hy260⟩ : ∃ y_ : List Int, y_ = (x250001_1 ++ [rd t250 x6_1]) := ⟨_, rfl⟩
         replace H : (if t255 > t254 then (if y256.length < 17592186044416 then (if y260.length < 17592186044416 then (chalklineref12_Norm.l0 k1 (wrap64 ((wrap64 (x4_1 + (mx t254 t255))) - (ji20))) t250 (wrap64 (x6_1 + 1)) l0_0 l0_1 a0_2 (y256 ++ [wrap64 (t255 - t254)]) (y260 ++ [wrap64 (-(rd t250 x6_1))]) (wrap64 (x250002_1 - (ji20)))) else (none)) else (none)) else (chalklineref12_Norm.l0 k1 (wrap64 ((wrap64 (x4_1 + (mx t254 t255))) - (ji20))) t250 (wrap64 (x6_1 + 1)) l0_0 l0_1 a0_2 y256 y260 (wrap64 (x250002_1 - (ji20))))) = some (r1, r2, r3) := by first | (rw [hy260]; with_reducible exact H) | (have H2_ := (Option.bind_some _ _).symm.trans H; rw [hy260]; with_reducible exact H2_) | (have H2_ := (Option.bind_some _ _).symm.trans H; with_reducible exact H2_) | with_reducible exact H | (rw [hy260]; exact H) | exact H
         have Ny260 := Aside0.mk hy260
         clear hy260
         by_cases c24 : t255 > t254
         ·
          rw [if_pos c24] at H
          have c24b0 : decide (t254 < t255) = true := decide_eq_true c24
          clear c24
          by_cases c25 : y256.length < 17592186044416
          ·
           rw [if_pos c25] at H
           have LMc25 := Aside0.mk c25
           clear c25
           obtain ⟨y263, hy263⟩ : ∃ y_ : List Int, y_ = (y256 ++ [wrap64 (t255 - t254)]) := ⟨_, rfl⟩
           replace H : (if y260.length < 17592186044416 then (chalklineref12_Norm.l0 k1 (wrap64 ((wrap64 (x4_1 + (mx t254 t255))) - (ji20))) t250 (wrap64 (x6_1 + 1)) l0_0 l0_1 a0_2 y263 (y260 ++ [wrap64 (-(rd t250 x6_1))]) (wrap64 (x250002_1 - (ji20)))) else (none)) = some (r1, r2, r3) := by first | (rw [hy263]; with_reducible exact H) | (have H2_ := (Option.bind_some _ _).symm.trans H; rw [hy263]; with_reducible exact H2_) | (have H2_ := (Option.bind_some _ _).symm.trans H; with_reducible exact H2_) | with_reducible exact H | (rw [hy263]; exact H) | exact H
           have Ny263 := Aside0.mk hy263
           clear hy263
           by_cases c26 : y260.length < 17592186044416
           ·
            rw [if_pos c26] at H
            have LMc26 := Aside0.mk c26
            clear c26
            obtain ⟨y267, hy267⟩ : ∃ y_ : List Int, y_ = (y260 ++ [wrap64 (-(rd t250 x6_1))]) := ⟨_, rfl⟩
            replace H : (chalklineref12_Norm.l0 k1 (wrap64 ((wrap64 (x4_1 + (mx t254 t255))) - (ji20))) t250 (wrap64 (x6_1 + 1)) l0_0 l0_1 a0_2 y263 y267 (wrap64 (x250002_1 - (ji20)))) = some (r1, r2, r3) := by first | (rw [hy267]; with_reducible exact H) | (have H2_ := (Option.bind_some _ _).symm.trans H; rw [hy267]; with_reducible exact H2_) | (have H2_ := (Option.bind_some _ _).symm.trans H; with_reducible exact H2_) | with_reducible exact H | (rw [hy267]; exact H) | exact H
            have Ny267 := Aside0.mk hy267
            clear hy267
            obtain ⟨ji27, hji27⟩ : ∃ j_ : Int, (mx t254 t255) = j_ := ⟨_, rfl⟩
            replace H : (chalklineref12_Norm.l0 k1 (wrap64 ((wrap64 (x4_1 + (ji27))) - (ji20))) t250 (wrap64 (x6_1 + 1)) l0_0 l0_1 a0_2 y263 y267 (wrap64 (x250002_1 - (ji20)))) = some (r1, r2, r3) := by first | (rw [hji27] at H; exact H) | (simp only [hji27] at H ⊢; exact H)
            (try rw [hji27] at A19)
            have hji27_ : (if t254 < t255 then t255 else t254) = ji27 := hji27
            have H' := Aside0.mk H
            clear H
            obtain ⟨Ao29, co29, eo29⟩ := Kd.R_slice HO_5.out
            subst eo29
            try go_wp2
            have n0_ := Aside0.mk (Kd.R_drew HO_5.out)
            have n1_ := Aside0.mk (Kd.R_drew HO_250000.out)
            have n2_ := Aside0.mk (Kd.R_drew HO_250001.out)
            have n3_ := Aside0.mk (blk_drew BK246.out)
            have n4_ := Aside0.mk (blk_drew BK247.out)
            have n5_ := Aside0.mk (blk_drew BK249.out)
            have n6_ := Aside0.mk (below_drew1 HB.out)
            clear HO_5
            clear HO_250000
            clear HO_250001
            clear BK246
            clear BK247
            clear BK249
            clear HB
            have HO_5 := n0_
            have HO_250000 := n1_
            have HO_250001 := n2_
            have BK246 := n3_
            have BK247 := n4_
            have BK249 := n5_
            have HB := n6_
            clear n0_ n1_ n2_ n3_ n4_ n5_ n6_
            have p253 : 0 ≤ (x6_1 : Int) := of_decide_eq_true (by first | (with_reducible assumption) | assumption)
            have q253 : x6_1 < (t250.length : Int) := of_decide_eq_true (by first | (with_reducible assumption) | assumption)
            obtain ⟨ad253, e253, hx253_0⟩ := Kd.at_int (Kd.R_reads' HO_5.out).2.2 x6_1 p253 q253
            cases e253
            replace p253 := eq_true p253
            replace q253 := eq_true q253
            refine start_ (n := 11) (S := fun w' => w'.cell? ⟨gb246, 0, none⟩ = some (.slice A0_0 l0_0.length c0_0) ∧ w'.cell? ⟨gb246, 1, none⟩ = some (.slice A0_1 l0_1.length c0_1) ∧ w'.cell? ⟨gb246, 2, none⟩ = some (.int .i64 a0_2) ∧ w'.cell? (ad253.add (x6_1).toNat) = some (.int .i64 (rd t250 x6_1))) (ds := []) #[false, false, false, false, false, false, false, false, false, false, false] (by kernel_rfl) rfl rfl ⟨(blk_cell BK246.out 0).trans rfl, (blk_cell BK246.out 1).trans rfl, (blk_cell BK246.out 2).trans rfl, hx253_0⟩ (fun hHeld => ?_); refine with_tabW chalklineref12_Norm.tab9 chalklineref12_Norm.bits9 (fun HT_ HW_ => ?_)
            generalize wr.drew = w30 at HO_5 HO_250000 HO_250001 BK246 BK247 BK249 HB hx253_0 hHeld ⊢
            refine pure_ (i := 1) (N := some 27) (v := ?_) (a' := ?_) (bl 11 2) rfl rfl (any_of HT_.out (by kernel_rfl)) (fun _ _ _ h => h) (Or.inl ⟨by rfl, ?_⟩) ?_ ?_; rotate_left; · (intro w'; go_simp; with_reducible rfl)
            rotate_left; · (simp only [Act.put, List.setIfInBounds_toArray, List.set_cons_zero, List.set_cons_succ, i64_w, i32_w]; rfl)
            refine pure_ (i := 2) (N := some 28) (v := ?_) (a' := ?_) (bl 11 6) rfl rfl (any_of HT_.out (by kernel_rfl)) (fun _ _ _ h => h) (Or.inl ⟨by rfl, ?_⟩) ?_ ?_; rotate_left; · (intro w'; go_simp; with_reducible rfl)
            rotate_left; · (simp only [Act.put, List.setIfInBounds_toArray, List.set_cons_zero, List.set_cons_succ, i64_w, i32_w]; rfl)
            refine pure_ (i := 3) (N := some 29) (v := ?_) (a' := ?_) (bl 11 14) rfl rfl (any_of HT_.out (by kernel_rfl)) (fun _ _ _ h => h) (Or.inl ⟨by rfl, ?_⟩) ?_ ?_; rotate_left; · (intro w'; go_simp; with_reducible rfl)
            rotate_left; · (simp only [Act.put, List.setIfInBounds_toArray, List.set_cons_zero, List.set_cons_succ, i64_w, i32_w]; rfl)
            refine take_ (i := 0) (N := some 26) (v := ?_) (a' := ?_) (bl 11 15) rfl rfl (take_ofW HT_.out HW_.out (by kernel_rfl)) (fun _ _ _ h => h) (Or.inl ⟨by rfl, ?_⟩) hHeld ?_ ?_; rotate_left; · (rintro w' ⟨s0, s1, s2, s3⟩; go_simp; with_reducible rfl)
            rotate_left; · (simp only [Act.put, List.setIfInBounds_toArray, List.set_cons_zero, List.set_cons_succ, i64_w, i32_w]; rfl)
            refine take_ (i := 4) (N := some 30) (v := ?_) (a' := ?_) (bl 11 31) rfl rfl (take_ofW HT_.out HW_.out (by kernel_rfl)) (fun _ _ _ h => h) (Or.inl ⟨by rfl, ?_⟩) hHeld ?_ ?_; rotate_left; · (rintro w' ⟨s0, s1, s2, s3⟩; go_simp; with_reducible rfl)
            rotate_left; · (simp only [Act.put, List.setIfInBounds_toArray, List.set_cons_zero, List.set_cons_succ, i64_w, i32_w]; rfl)
            refine one_ (i := 5) (N := some 31) (bl 11 63) rfl rfl (one_of HT_.out (by kernel_rfl)) (by decide) (fun K hK => ?_)
            refine goes_ Try.func57 (by kernel_rfl) rfl #[.agg #[.slice A0_0 l0_0.length c0_0, .slice A0_1 l0_1.length c0_1, .int .i64 a0_2], .int .i64 (rd t250 x6_1)] (by rfl) rfl rfl (by (try simp only [List.map_toArray, List.map_cons, List.map_nil]); first | done | rfl | (simp only [List.length_drop, List.length_take]; rfl)) ?_
            with_reducible refine (chalklineref12_both.calls k1 _ _ l0_0 _ _ l0_1 a0_2 (rd t250 x6_1) t254 t255 _ ?side1 ?side2 ?side3 ?side4 A19.out).mono ?_
            (case side1 => repeat (first | exact (Kd.C_below HR0_0.out HB.out) | (with_reducible refine Kd.C_alloc ?_ _) | (with_reducible refine Kd.C_drewN ?_ _) | (with_reducible refine Kd.C_drew ?_)))
            (case side2 => exact HC0_0.out)
            (case side3 => repeat (first | exact (Kd.C_below HR0_1.out HB.out) | (with_reducible refine Kd.C_alloc ?_ _) | (with_reducible refine Kd.C_drewN ?_ _) | (with_reducible refine Kd.C_drew ?_)))
            (case side4 => exact HC0_1.out)
            rintro e w31 ⟨rfl, hb⟩
            have HS3_ := (hb.cell (World.block_lt_of_cell? _ _ (hHeld.2.2.2))).trans (hHeld.2.2.2)
            refine ⟨_, rfl, ?_⟩
            have n0_ := Aside0.mk (Kd.R_below (by (with_reducible repeat (first | apply Kd.R_alloc | apply Kd.R_drewN | apply Kd.R_drew)); exact HO_5.out) hb)
            have n1_ := Aside0.mk (Kd.R_below (by (with_reducible repeat (first | apply Kd.R_alloc | apply Kd.R_drewN | apply Kd.R_drew)); exact HO_250000.out) hb)
            have n2_ := Aside0.mk (Kd.R_below (by (with_reducible repeat (first | apply Kd.R_alloc | apply Kd.R_drewN | apply Kd.R_drew)); exact HO_250001.out) hb)
            have n3_ := Aside0.mk (blk_below (g := gb246) (o := .cells #[.slice A0_0 l0_0.length c0_0, .slice A0_1 l0_1.length c0_1, .int .i64 a0_2] 24 (0, 0)) (by (with_reducible repeat (first | refine blk_drewN ?_ _ | refine blk_drew ?_ | refine blk_alloc ?_ _)); exact BK246.out) hb)
            have n4_ := Aside0.mk (blk_below (g := gb247) (o := .cells #[.slice none 0 0, .slice none 0 0, .int .i64 0] 24 (0, 0)) (by (with_reducible repeat (first | refine blk_drewN ?_ _ | refine blk_drew ?_ | refine blk_alloc ?_ _)); exact BK247.out) hb)
            have n5_ := Aside0.mk (blk_below (g := gb249) (o := .cells #[u250000, u250001, .int .i64 x250002_1] 24 (0, 0)) (by (with_reducible repeat (first | refine blk_drewN ?_ _ | refine blk_drew ?_ | refine blk_alloc ?_ _)); exact BK249.out) hb)
            have n6_ := Aside0.mk (below_step (by repeat (first | (with_reducible first | exact HB.out | apply below_alloc | apply pw_below_drewN | apply below_drew1 | refine below_set ?_ GE246.out | refine below_set ?_ GE247.out | refine below_set ?_ GE249.out) | exact HB.out)) hb)
            clear HO_5
            clear HO_250000
            clear HO_250001
            clear BK246
            clear BK247
            clear BK249
            clear HB
            have HO_5 := n0_
            have HO_250000 := n1_
            have HO_250001 := n2_
            have BK246 := n3_
            have BK247 := n4_
            have BK249 := n5_
            have HB := n6_
            clear n0_ n1_ n2_ n3_ n4_ n5_ n6_
            (try clear hb)
            (try clear hb2)
            (try clear hk)
            (try clear hi)
            refine hK.out _ _ ⟨(blk_cell BK246.out 0).trans rfl, (blk_cell BK246.out 1).trans rfl, (blk_cell BK246.out 2).trans rfl, HS3_⟩ (fun hHeld => ?_)
            clear hK K
            refine norm_ (a' := ?_) ?_ ?_
            rotate_left
            ·
             show Act.put _ (some 31) _ = _
             simp only [Act.put, List.setIfInBounds_toArray, List.set_cons_zero, List.set_cons_succ, i64_w, i32_w]
             rfl
            refine pure_ (i := 6) (N := some 25) (v := ?_) (a' := ?_) (bl 11 127) rfl rfl (any_of HT_.out (by kernel_rfl)) (fun _ _ _ h => h) (Or.inl ⟨by rfl, ?_⟩) ?_ ?_; rotate_left; · (intro w'; go_simp; with_reducible rfl)
            rotate_left; · (simp only [Act.put, List.setIfInBounds_toArray, List.set_cons_zero, List.set_cons_succ, i64_w, i32_w]; rfl)
            refine pure_ (i := 7) (N := some 32) (v := ?_) (a' := ?_) (bl 11 255) rfl rfl (any_of HT_.out (by kernel_rfl)) (fun _ _ _ h => h) (Or.inl ⟨by rfl, ?_⟩) ?_ ?_; rotate_left; · (intro w'; go_simp; with_reducible rfl)
            rotate_left; · (simp only [Act.put, List.setIfInBounds_toArray, List.set_cons_zero, List.set_cons_succ, i64_w, i32_w]; rfl)
            refine pure_ (i := 8) (N := some 33) (v := ?_) (a' := ?_) (bl 11 511) rfl rfl (any_of HT_.out (by kernel_rfl)) (fun _ _ _ h => h) (Or.inl ⟨by rfl, ?_⟩) ?_ ?_; rotate_left; · (intro w'; go_simp; with_reducible rfl)
            rotate_left; · (simp only [Act.put, List.setIfInBounds_toArray, List.set_cons_zero, List.set_cons_succ, i64_w, i32_w]; rfl)
            refine pure_ (i := 9) (N := some 7) (v := ?_) (a' := ?_) (bl 11 1023) rfl rfl (any_of HT_.out (by kernel_rfl)) (fun _ _ _ h => h) (Or.inl ⟨by rfl, ?_⟩) ?_ ?_; rotate_left; · (intro w'; go_simp; with_reducible rfl)
            rotate_left; · (simp only [Act.put, List.setIfInBounds_toArray, List.set_cons_zero, List.set_cons_succ, i64_w, i32_w]; rfl)
            refine pure_ (i := 10) (N := some 8) (v := ?_) (a' := ?_) (bl 11 2047) rfl rfl (any_of HT_.out (by kernel_rfl)) (fun _ _ _ h => h) (Or.inl ⟨by rfl, ?_⟩) ?_ ?_; rotate_left; · (intro w'; go_simp; with_reducible rfl)
            rotate_left; · (simp only [Act.put, List.setIfInBounds_toArray, List.set_cons_zero, List.set_cons_succ, i64_w, i32_w]; rfl)
            refine done_ (done_of HT_.out (by kernel_rfl)) ?_
            have hnb32 := NB249_246.out
            have hnc32 := NB246_249.out
            have hnb33 := NB249_247.out
            have hnc33 := NB247_249.out
            have hcz34_0 : w31.cell? ⟨gb249, 0, none⟩ = some (u250000) := (blk_cell BK249.out 0).trans rfl
            have hcz34_1 : w31.cell? ⟨gb249, 1, none⟩ = some (u250001) := (blk_cell BK249.out 1).trans rfl
            have hcz34_2 : w31.cell? ⟨gb249, 2, none⟩ = some (.int .i64 x250002_1) := (blk_cell BK249.out 2).trans rfl
            have hfz34_0 := blk_frozen BK249.out 0
            have hfz34_1 := blk_frozen BK249.out 1
            have hfz34_2 := blk_frozen BK249.out 2
            try go_wp2_with (first | ((with_reducible refine gate_builtin (b := .append) (xs := #[.tmp 45, .tmp 49]) rfl ?_); at_builtin; refine Kd.R_append (Kd.int .i64) (w0 := w) w.heap.size rfl (.tmp 45) (.tmp 49) 22 3 (.int .i64 0) 8 rfl Try.underlying22 info3 rfl (by decide) (by omega) u250000 x250000_1 (wrap64 (t254 - t255)) [.int .i64 (wrap64 (t254 - t255))] (fun k_ => some k_ ≠ (.slice (some ad253) t250.length co29 : Value).ownBlock ∧ some k_ ≠ (u250001 : Value).ownBlock) (fun _ => False) rfl (by first | (go_simp; done) | (go_simp; rfl)) ?aP (fun _ hk => hk.elim) ?aF ?aO ?aB ?aS ?aL ?_; (case aP => exact rfl); (case aB => exact (by repeat (first | (with_reducible first | exact HB.out | apply below_alloc | apply pw_below_drewN | apply below_drew1 | refine below_set ?_ GE246.out | refine below_set ?_ GE247.out | refine below_set ?_ GE249.out) | exact HB.out))); (case aF => exact (fun k_ hk => ⟨Kd.fresh' (Kd.R_lt (by (with_reducible repeat (first | apply Kd.R_alloc | apply Kd.R_drewN | apply Kd.R_drew)); exact (Kd.R_mono (Kd.R_far (p := ⟨gb249, 2, none⟩) (Kd.R_types HO_5.out BK249.out (by decide)) (fun _ hk => hk.2) (.int .i64 (wrap64 (x250002_1 - (ji20))))) (fun _ h_ => h_.1)))) k_ hk, Kd.fresh' (Kd.R_lt (by (with_reducible repeat (first | apply Kd.R_alloc | apply Kd.R_drewN | apply Kd.R_drew)); exact (Kd.R_mono (Kd.R_far (p := ⟨gb249, 2, none⟩) (Kd.R_types HO_250001.out BK249.out (by decide)) (fun _ hk => hk.2) (.int .i64 (wrap64 (x250002_1 - (ji20))))) (fun _ h_ => h_.1)))) k_ hk⟩)); (case aO => exact (by (with_reducible repeat (first | apply Kd.R_alloc | apply Kd.R_drewN | apply Kd.R_drew)); exact Kd.R_mono (Kd.R_far (p := ⟨gb249, 2, none⟩) (Kd.R_types HO_250000.out BK249.out (by decide)) (fun _ hk => hk.2) (.int .i64 (wrap64 (x250002_1 - (ji20))))) (fun _ hk => ⟨hk.1.1, hk.1.2⟩))); (case aS => exact (below_size (by repeat (first | (with_reducible first | exact HB.out | apply below_alloc | apply pw_below_drewN | apply below_drew1 | refine below_set ?_ GE246.out | refine below_set ?_ GE247.out | refine below_set ?_ GE249.out) | exact HB.out)))); (case aL => have := LMc22.out; omega); intro v257 w35 ho hb hg hat; rw [← Ny256.out] at ho; have n0_ := Aside0.mk (Kd.R_after (ok := (fun k_ => some k_ ≠ (u250001 : Value).ownBlock)) (by (with_reducible repeat (first | apply Kd.R_alloc | apply Kd.R_drewN | apply Kd.R_drew)); exact Kd.R_mono (Kd.R_far (p := ⟨gb249, 2, none⟩) (Kd.R_types HO_5.out BK249.out (by decide)) (fun _ hk => hk.2) (.int .i64 (wrap64 (x250002_1 - (ji20))))) (fun _ hk => ⟨hk.1.2, hk.1.1⟩)) hg hat); have n1_ := Aside0.mk (Kd.R_after (ok := (fun k_ => some k_ ≠ (.slice (some ad253) t250.length co29 : Value).ownBlock)) (by (with_reducible repeat (first | apply Kd.R_alloc | apply Kd.R_drewN | apply Kd.R_drew)); exact Kd.R_mono (Kd.R_far (p := ⟨gb249, 2, none⟩) (Kd.R_types HO_250001.out BK249.out (by decide)) (fun _ hk => hk.2) (.int .i64 (wrap64 (x250002_1 - (ji20))))) (fun _ hk => ⟨hk.1.1, hk.1.2⟩)) hg hat); have n2_ := Aside0.mk (blk_grown (g := gb246) (o := .cells #[.slice A0_0 l0_0.length c0_0, .slice A0_1 l0_1.length c0_1, .int .i64 a0_2] 24 (0, 0)) (by (with_reducible repeat (first | refine blk_drewN ?_ _ | refine blk_drew ?_ | refine blk_alloc ?_ _)); refine blk_far ?_ NB246_249.out _; (with_reducible repeat (first | refine blk_drewN ?_ _ | refine blk_drew ?_ | refine blk_alloc ?_ _)); exact BK246.out) hg (Kd.R_ne HO_250000.out BK246.out (by decide))); have n3_ := Aside0.mk (blk_grown (g := gb247) (o := .cells #[.slice none 0 0, .slice none 0 0, .int .i64 0] 24 (0, 0)) (by (with_reducible repeat (first | refine blk_drewN ?_ _ | refine blk_drew ?_ | refine blk_alloc ?_ _)); refine blk_far ?_ NB247_249.out _; (with_reducible repeat (first | refine blk_drewN ?_ _ | refine blk_drew ?_ | refine blk_alloc ?_ _)); exact BK247.out) hg (Kd.R_ne HO_250000.out BK247.out (by decide))); have n4_ := Aside0.mk (blk_grown (g := gb249) (o := .cells #[u250000, u250001, .int .i64 (wrap64 (x250002_1 - (ji20)))] 24 (0, 0)) (by (with_reducible repeat (first | refine blk_drewN ?_ _ | refine blk_drew ?_ | refine blk_alloc ?_ _)); refine blk_put (cs := #[u250000, u250001, .int .i64 x250002_1]) ?_ 2 _ rfl; (with_reducible repeat (first | refine blk_drewN ?_ _ | refine blk_drew ?_ | refine blk_alloc ?_ _)); exact BK249.out) hg (Kd.R_ne HO_250000.out BK249.out (by decide))); have n5_ := Aside0.mk (hb); have n6_ := Aside0.mk (ho); clear HO_5; clear HO_250001; clear BK246; clear BK247; clear BK249; clear HB; clear HO_250000; have HO_5 := n0_; have HO_250001 := n1_; have BK246 := n2_; have BK247 := n3_; have BK249 := n4_; have HB := n5_; have HO258 := n6_; clear n0_ n1_ n2_ n3_ n4_ n5_ n6_; clear ho hb hg hat; obtain ⟨Ao36, co36, eo36⟩ := Kd.R_slice HO258.out; subst eo36; have hcz37_0 : w35.cell? ⟨gb249, 0, none⟩ = some (u250000) := (blk_cell BK249.out 0).trans rfl; have hcz37_1 : w35.cell? ⟨gb249, 1, none⟩ = some (u250001) := (blk_cell BK249.out 1).trans rfl; have hcz37_2 : w35.cell? ⟨gb249, 2, none⟩ = some (.int .i64 (wrap64 (x250002_1 - (ji20)))) := (blk_cell BK249.out 2).trans rfl; have hfz37_0 := blk_frozen BK249.out 0; have hfz37_1 := blk_frozen BK249.out 1; have hfz37_2 := blk_frozen BK249.out 2))
            have n0_ : Aside0 (Kd.R (Kd.int .i64) 3 (w35.setCell ⟨gb249, 0, none⟩ (.slice Ao36 y256.length co36)) w.heap.size (fun k_ => some k_ ≠ (u250001 : Value).ownBlock ∧ some k_ ≠ (.slice Ao36 y256.length co36 : Value).ownBlock) (.slice (some ad253) t250.length co29) t250) := ⟨by (with_reducible repeat (first | apply Kd.R_alloc | apply Kd.R_drewN | apply Kd.R_drew)); exact Kd.R_mono (Kd.R_far (p := ⟨gb249, 0, none⟩) (Kd.R_types HO_5.out BK249.out (by decide)) (fun _ hk => hk.2) (.slice Ao36 y256.length co36)) (fun _ hk => ⟨hk.1.1, hk.1.2⟩)⟩
            have n1_ : Aside0 (Kd.R (Kd.int .i64) 3 (w35.setCell ⟨gb249, 0, none⟩ (.slice Ao36 y256.length co36)) w.heap.size (fun k_ => some k_ ≠ (.slice (some ad253) t250.length co29 : Value).ownBlock ∧ some k_ ≠ (.slice Ao36 y256.length co36 : Value).ownBlock) u250001 x250001_1) := ⟨by (with_reducible repeat (first | apply Kd.R_alloc | apply Kd.R_drewN | apply Kd.R_drew)); exact Kd.R_mono (Kd.R_far (p := ⟨gb249, 0, none⟩) (Kd.R_types HO_250001.out BK249.out (by decide)) (fun _ hk => hk.2) (.slice Ao36 y256.length co36)) (fun _ hk => ⟨hk.1.1, hk.1.2⟩)⟩
            have n2_ : Aside0 (Kd.R (Kd.int .i64) 3 (w35.setCell ⟨gb249, 0, none⟩ (.slice Ao36 y256.length co36)) w.heap.size (fun k_ => some k_ ≠ (.slice (some ad253) t250.length co29 : Value).ownBlock ∧ some k_ ≠ (u250001 : Value).ownBlock) (.slice Ao36 y256.length co36) y256) := ⟨by (with_reducible repeat (first | apply Kd.R_alloc | apply Kd.R_drewN | apply Kd.R_drew)); exact Kd.R_mono (Kd.R_far (p := ⟨gb249, 0, none⟩) (Kd.R_types HO258.out BK249.out (by decide)) (fun _ hk => hk.2) (.slice Ao36 y256.length co36)) (fun _ hk => ⟨hk.1.1, hk.1.2⟩)⟩
            have n3_ : Aside0 ((w35.setCell ⟨gb249, 0, none⟩ (.slice Ao36 y256.length co36)).heap[gb246]? = some (.cells #[.slice A0_0 l0_0.length c0_0, .slice A0_1 l0_1.length c0_1, .int .i64 a0_2] 24 (0, 0))) := ⟨by (with_reducible repeat (first | refine blk_drewN ?_ _ | refine blk_drew ?_ | refine blk_alloc ?_ _)); refine blk_far ?_ NB246_249.out _; (with_reducible repeat (first | refine blk_drewN ?_ _ | refine blk_drew ?_ | refine blk_alloc ?_ _)); exact BK246.out⟩
            have n4_ : Aside0 ((w35.setCell ⟨gb249, 0, none⟩ (.slice Ao36 y256.length co36)).heap[gb247]? = some (.cells #[.slice none 0 0, .slice none 0 0, .int .i64 0] 24 (0, 0))) := ⟨by (with_reducible repeat (first | refine blk_drewN ?_ _ | refine blk_drew ?_ | refine blk_alloc ?_ _)); refine blk_far ?_ NB247_249.out _; (with_reducible repeat (first | refine blk_drewN ?_ _ | refine blk_drew ?_ | refine blk_alloc ?_ _)); exact BK247.out⟩
            have n5_ : Aside0 ((w35.setCell ⟨gb249, 0, none⟩ (.slice Ao36 y256.length co36)).heap[gb249]? = some (.cells #[.slice Ao36 y256.length co36, u250001, .int .i64 (wrap64 (x250002_1 - (ji20)))] 24 (0, 0))) := ⟨by (with_reducible repeat (first | refine blk_drewN ?_ _ | refine blk_drew ?_ | refine blk_alloc ?_ _)); refine blk_put (cs := #[u250000, u250001, .int .i64 (wrap64 (x250002_1 - (ji20)))]) ?_ 0 _ rfl; (with_reducible repeat (first | refine blk_drewN ?_ _ | refine blk_drew ?_ | refine blk_alloc ?_ _)); exact BK249.out⟩
            have n6_ : Aside0 (Below w.heap.size w (w35.setCell ⟨gb249, 0, none⟩ (.slice Ao36 y256.length co36))) := ⟨by repeat (first | (with_reducible first | exact HB.out | apply below_alloc | apply pw_below_drewN | apply below_drew1 | refine below_set ?_ GE246.out | refine below_set ?_ GE247.out | refine below_set ?_ GE249.out) | exact HB.out)⟩
            (try clear HO_5)
            (try clear HO_250001)
            (try clear HO258)
            (try clear BK246)
            (try clear BK247)
            (try clear BK249)
            (try clear HB)
            generalize (w35.setCell ⟨gb249, 0, none⟩ (.slice Ao36 y256.length co36)) = w38 at n0_ n1_ n2_ n3_ n4_ n5_ n6_ ⊢
            have HO_5 := n0_
            have HO_250001 := n1_
            have HO258 := n2_
            have BK246 := n3_
            have BK247 := n4_
            have BK249 := n5_
            have HB := n6_
            clear n0_ n1_ n2_ n3_ n4_ n5_ n6_
            have n0_ := Aside0.mk (Kd.R_drew HO_5.out)
            have n1_ := Aside0.mk (Kd.R_drew HO_250001.out)
            have n2_ := Aside0.mk (Kd.R_drew HO258.out)
            have n3_ := Aside0.mk (blk_drew BK246.out)
            have n4_ := Aside0.mk (blk_drew BK247.out)
            have n5_ := Aside0.mk (blk_drew BK249.out)
            have n6_ := Aside0.mk (below_drew1 HB.out)
            clear HO_5
            clear HO_250001
            clear HO258
            clear BK246
            clear BK247
            clear BK249
            clear HB
            have HO_5 := n0_
            have HO_250001 := n1_
            have HO258 := n2_
            have BK246 := n3_
            have BK247 := n4_
            have BK249 := n5_
            have HB := n6_
            clear n0_ n1_ n2_ n3_ n4_ n5_ n6_
            have p259 : 0 ≤ (x6_1 : Int) := of_decide_eq_true (by first | (with_reducible assumption) | assumption)
            have q259 : x6_1 < (t250.length : Int) := of_decide_eq_true (by first | (with_reducible assumption) | assumption)
            obtain ⟨ad259, e259, hx259_0⟩ := Kd.at_int (Kd.R_reads' HO_5.out).2.2 x6_1 p259 q259
            obtain rfl : ad253 = ad259 := (by injection e259)
            replace p259 := eq_true p259
            replace q259 := eq_true q259
            refine start_ (n := 10) (S := fun w' => w'.cell? ⟨gb249, 0, none⟩ = some (.slice Ao36 y256.length co36) ∧ w'.cell? ⟨gb249, 1, none⟩ = some (u250001) ∧ w'.cell? ⟨gb249, 2, none⟩ = some (.int .i64 (wrap64 (x250002_1 - (ji20)))) ∧ w'.cell? (ad253.add (x6_1).toNat) = some (.int .i64 (rd t250 x6_1))) (ds := [7, 9]) #[false, false, false, false, false, false, false, false, false, false] (by kernel_rfl) rfl rfl ⟨(blk_cell BK249.out 0).trans rfl, (blk_cell BK249.out 1).trans rfl, (blk_cell BK249.out 2).trans rfl, hx259_0⟩ (fun hHeld => ?_); refine with_tabW chalklineref12_Norm.tab13 chalklineref12_Norm.bits13 (fun HT_ HW_ => ?_)
            generalize w38.drew = w39 at HO_5 HO_250001 HO258 BK246 BK247 BK249 HB hx259_0 hHeld ⊢
            refine pure_ (i := 0) (N := some 52) (v := ?_) (a' := ?_) (bl 10 1) rfl rfl (any_of HT_.out (by kernel_rfl)) (fun _ _ _ h => h) (Or.inl ⟨by rfl, ?_⟩) ?_ ?_; rotate_left; · (intro w'; go_simp; with_reducible rfl)
            rotate_left; · (simp only [Act.put, List.setIfInBounds_toArray, List.set_cons_zero, List.set_cons_succ, i64_w, i32_w]; rfl)
            refine pure_ (i := 2) (N := some 54) (v := ?_) (a' := ?_) (bl 10 5) rfl rfl (any_of HT_.out (by kernel_rfl)) (fun _ _ _ h => h) (Or.inl ⟨by rfl, ?_⟩) ?_ ?_; rotate_left; · (intro w'; go_simp; with_reducible rfl)
            rotate_left; · (simp only [Act.put, List.setIfInBounds_toArray, List.set_cons_zero, List.set_cons_succ, i64_w, i32_w]; rfl)
            refine pure_ (i := 3) (N := some 55) (v := ?_) (a' := ?_) (bl 10 13) rfl rfl (any_of HT_.out (by kernel_rfl)) (fun _ _ _ h => h) (Or.inl ⟨by rfl, ?_⟩) ?_ ?_; rotate_left; · (intro w'; go_simp; with_reducible rfl)
            rotate_left; · (simp only [Act.put, List.setIfInBounds_toArray, List.set_cons_zero, List.set_cons_succ, i64_w, i32_w]; rfl)
            refine pure_ (i := 4) (N := some 56) (v := ?_) (a' := ?_) (bl 10 29) rfl rfl (any_of HT_.out (by kernel_rfl)) (fun _ _ _ h => h) (Or.inl ⟨by rfl, ?_⟩) ?_ ?_; rotate_left; · (intro w'; go_simp; with_reducible rfl)
            rotate_left; · (simp only [Act.put, List.setIfInBounds_toArray, List.set_cons_zero, List.set_cons_succ, i64_w, i32_w]; rfl)
            refine take_ (i := 1) (N := some 53) (v := ?_) (a' := ?_) (bl 10 31) rfl rfl (take_ofW HT_.out HW_.out (by kernel_rfl)) (fun _ _ _ h => h) (Or.inl ⟨by rfl, ?_⟩) hHeld ?_ ?_; rotate_left; · (rintro w' ⟨s0, s1, s2, s3⟩; go_simp; with_reducible rfl)
            rotate_left; · (simp only [Act.put, List.setIfInBounds_toArray, List.set_cons_zero, List.set_cons_succ, i64_w, i32_w]; rfl)
            refine take_ (i := 5) (N := some 57) (v := ?_) (a' := ?_) (bl 10 63) rfl rfl (take_ofW HT_.out HW_.out (by kernel_rfl)) (fun _ _ _ h => h) (Or.inl ⟨by rfl, ?_⟩) hHeld ?_ ?_; rotate_left; · (rintro w' ⟨s0, s1, s2, s3⟩; go_simp; with_reducible rfl)
            rotate_left; · (simp only [Act.put, List.setIfInBounds_toArray, List.set_cons_zero, List.set_cons_succ, i64_w, i32_w]; rfl)
            refine one_ (i := 6) (N := some 58) (bl 10 127) rfl rfl (one_of HT_.out (by kernel_rfl)) (by decide) (fun K hK => ?_)
            refine value_ (w1 := ?_) (v := ?_) (by rfl) rfl ?_ ?_
            rotate_left 2
            ·
             go_simp
             constructor
             ·
              rfl
             ·
              rfl
            refine hK.out _ _ ⟨(blk_cell (blk_alloc BK249.out _) 0).trans rfl, (blk_cell (blk_alloc BK249.out _) 1).trans rfl, (blk_cell (blk_alloc BK249.out _) 2).trans rfl, (World.cell?_alloc_lt _ _ _ (World.block_lt_of_cell? _ _ (hHeld.2.2.2))).trans (hHeld.2.2.2)⟩ (fun hHeld => ?_)
            clear hK K
            refine norm_ (a' := ?_) ?_ ?_
            rotate_left
            ·
             show Act.put _ (some 58) _ = _
             simp only [Act.put, List.setIfInBounds_toArray, List.set_cons_zero, List.set_cons_succ, i64_w, i32_w]
             rfl
            refine last_ (i := 7) (N := some 59) (bl 10 255) rfl rfl (one_of HT_.out (by kernel_rfl)) (by decide) (fun K hK => ?_)
            refine Kd.R_append_step (Kd.int .i64) (w0 := w) w.heap.size (by rfl) (.tmp 53) (.tmp 58) 22 3 (.int .i64 0) 8 rfl Try.underlying22 info3 rfl (by decide) (by omega) u250001 x250001_1 (rd t250 x6_1) [.int .i64 (rd t250 x6_1)] (fun k_ => some k_ ≠ (.slice (some ad253) t250.length co29 : Value).ownBlock ∧ some k_ ≠ (.slice Ao36 y256.length co36 : Value).ownBlock) (fun _ => False) rfl rfl ?aP (fun _ hk => hk.elim) ?aF ?aO ?aB ?aS ?aL ?_
            (case aP => exact rfl)
            (case aB => exact (by repeat (first | (with_reducible first | exact HB.out | apply below_alloc | apply pw_below_drewN | apply below_drew1 | refine below_set ?_ GE246.out | refine below_set ?_ GE247.out | refine below_set ?_ GE249.out) | exact HB.out)))
            (case aF => exact (fun k_ hk => ⟨Kd.fresh' (Kd.R_lt (by (with_reducible repeat (first | apply Kd.R_alloc | apply Kd.R_drewN | apply Kd.R_drew)); exact HO_5.out)) k_ hk, Kd.fresh' (Kd.R_lt (by (with_reducible repeat (first | apply Kd.R_alloc | apply Kd.R_drewN | apply Kd.R_drew)); exact HO258.out)) k_ hk⟩))
            (case aO => exact (by (with_reducible repeat (first | apply Kd.R_alloc | apply Kd.R_drewN | apply Kd.R_drew)); exact HO_250001.out))
            (case aS => exact (below_size (by repeat (first | (with_reducible first | exact HB.out | apply below_alloc | apply pw_below_drewN | apply below_drew1 | refine below_set ?_ GE246.out | refine below_set ?_ GE247.out | refine below_set ?_ GE249.out) | exact HB.out))))
            (case aL => have := LMc23.out; omega)
            intro v261 w40 ho hb hg hat
            rw [← Ny260.out] at ho
            have n0_ := Aside0.mk (Kd.R_after (ok := (fun k_ => some k_ ≠ (.slice Ao36 y256.length co36 : Value).ownBlock)) (by (with_reducible repeat (first | apply Kd.R_alloc | apply Kd.R_drewN | apply Kd.R_drew)); exact Kd.R_mono HO_5.out (fun _ hk => ⟨hk.2, hk.1⟩)) hg hat)
            have n1_ := Aside0.mk (blk_grown (g := gb246) (o := .cells #[.slice A0_0 l0_0.length c0_0, .slice A0_1 l0_1.length c0_1, .int .i64 a0_2] 24 (0, 0)) (by (with_reducible repeat (first | refine blk_drewN ?_ _ | refine blk_drew ?_ | refine blk_alloc ?_ _)); exact BK246.out) hg (Kd.R_ne HO_250001.out BK246.out (by decide)))
            have n2_ := Aside0.mk (blk_grown (g := gb247) (o := .cells #[.slice none 0 0, .slice none 0 0, .int .i64 0] 24 (0, 0)) (by (with_reducible repeat (first | refine blk_drewN ?_ _ | refine blk_drew ?_ | refine blk_alloc ?_ _)); exact BK247.out) hg (Kd.R_ne HO_250001.out BK247.out (by decide)))
            have n3_ := Aside0.mk (blk_grown (g := gb249) (o := .cells #[.slice Ao36 y256.length co36, u250001, .int .i64 (wrap64 (x250002_1 - (ji20)))] 24 (0, 0)) (by (with_reducible repeat (first | refine blk_drewN ?_ _ | refine blk_drew ?_ | refine blk_alloc ?_ _)); exact BK249.out) hg (Kd.R_ne HO_250001.out BK249.out (by decide)))
            have n4_ := Aside0.mk (Kd.R_after (ok := (fun k_ => some k_ ≠ (.slice (some ad253) t250.length co29 : Value).ownBlock)) (by (with_reducible repeat (first | apply Kd.R_alloc | apply Kd.R_drewN | apply Kd.R_drew)); exact HO258.out) hg hat)
            have n5_ := Aside0.mk (hb)
            have n6_ := Aside0.mk (ho)
            clear HO_5
            clear BK246
            clear BK247
            clear BK249
            clear HO258
            clear HB
            clear HO_250001
            have HO_5 := n0_
            have BK246 := n1_
            have BK247 := n2_
            have BK249 := n3_
            have HO258 := n4_
            have HB := n5_
            have HO262 := n6_
            clear n0_ n1_ n2_ n3_ n4_ n5_ n6_
            clear ho hb hg hat
            obtain ⟨Ao41, co41, eo41⟩ := Kd.R_slice HO262.out
            (first | subst eo41 | (injection eo41 with f1_ f2_ f3_; have f4_ := f1_.symm; have f5_ := f3_.symm; clear f1_ f2_ f3_; subst f4_; subst f5_))
            refine hK.out _ _ ?_
            clear hK K
            refine norm_ (a' := ?_) ?_ ?_
            rotate_left
            ·
             show Act.put _ (some 59) _ = _
             simp only [Act.put, List.setIfInBounds_toArray, List.set_cons_zero, List.set_cons_succ, i64_w, i32_w]
             rfl
            refine pure_ (i := 8) (N := some 60) (v := ?_) (a' := ?_) (bl 10 511) rfl rfl (any_of HT_.out (by kernel_rfl)) (fun _ _ _ h => h) (Or.inl ⟨by rfl, ?_⟩) ?_ ?_; rotate_left; · (intro w'; go_simp; with_reducible rfl)
            rotate_left; · (simp only [Act.put, List.setIfInBounds_toArray, List.set_cons_zero, List.set_cons_succ, i64_w, i32_w]; rfl)
            refine last_ (i := 9) (N := none) (bl 10 1023) rfl rfl (one_of HT_.out (by kernel_rfl)) (by decide) (fun K hK => ?_)
            have hs42 : w40.cell? ⟨gb249, 1, none⟩ = some (u250001) := (blk_cell BK249.out 1).trans rfl
            have hfs42 := blk_frozen BK249.out 1
            have hns42_0 := NB246_249.out
            have hns42_1 := NB247_249.out
            have hms42_0 := NB249_246.out
            have hms42_1 := NB249_247.out
            refine skip_ (w1 := ?_) (by rfl) rfl ?_ ?_
            rotate_left
            ·
             go_simp
             rfl
            refine hK.out _ _ ?_
            clear hK K
            refine done_ (done_of HT_.out (by kernel_rfl)) ?_
            have hcz43_0 : w40.cell? ⟨gb249, 0, none⟩ = some (.slice Ao36 y256.length co36) := (blk_cell BK249.out 0).trans rfl
            have hcz43_1 : w40.cell? ⟨gb249, 1, none⟩ = some (u250001) := (blk_cell BK249.out 1).trans rfl
            have hcz43_2 : w40.cell? ⟨gb249, 2, none⟩ = some (.int .i64 (wrap64 (x250002_1 - (ji20)))) := (blk_cell BK249.out 2).trans rfl
            have hfz43_0 := blk_frozen BK249.out 0
            have hfz43_1 := blk_frozen BK249.out 1
            have hfz43_2 := blk_frozen BK249.out 2
            try go_wp2_with (first | ((with_reducible refine gate_builtin (b := .append) (xs := #[.tmp 65, .tmp 69]) rfl ?_); at_builtin; refine Kd.R_append (Kd.int .i64) (w0 := w) w.heap.size rfl (.tmp 65) (.tmp 69) 22 3 (.int .i64 0) 8 rfl Try.underlying22 info3 rfl (by decide) (by omega) (.slice Ao36 y256.length co36) y256 (wrap64 (t255 - t254)) [.int .i64 (wrap64 (t255 - t254))] (fun k_ => some k_ ≠ (.slice (some ad253) t250.length co29 : Value).ownBlock ∧ some k_ ≠ (.slice Ao41 y260.length co41 : Value).ownBlock) (fun _ => False) rfl (by first | (go_simp; done) | (go_simp; rfl)) ?aP (fun _ hk => hk.elim) ?aF ?aO ?aB ?aS ?aL ?_; (case aP => exact rfl); (case aB => exact (by repeat (first | (with_reducible first | exact HB.out | apply below_alloc | apply pw_below_drewN | apply below_drew1 | refine below_set ?_ GE246.out | refine below_set ?_ GE247.out | refine below_set ?_ GE249.out) | exact HB.out))); (case aF => exact (fun k_ hk => ⟨Kd.fresh' (Kd.R_lt (by (with_reducible repeat (first | apply Kd.R_alloc | apply Kd.R_drewN | apply Kd.R_drew)); exact (Kd.R_mono (Kd.R_far (p := ⟨gb249, 1, none⟩) (Kd.R_types HO_5.out BK249.out (by decide)) (fun _ hk => hk.2) (.slice Ao41 y260.length co41)) (fun _ h_ => h_.1)))) k_ hk, Kd.fresh' (Kd.R_lt (by (with_reducible repeat (first | apply Kd.R_alloc | apply Kd.R_drewN | apply Kd.R_drew)); exact (Kd.R_mono (Kd.R_far (p := ⟨gb249, 1, none⟩) (Kd.R_types HO262.out BK249.out (by decide)) (fun _ hk => hk.2) (.slice Ao41 y260.length co41)) (fun _ h_ => h_.1)))) k_ hk⟩)); (case aO => exact (by (with_reducible repeat (first | apply Kd.R_alloc | apply Kd.R_drewN | apply Kd.R_drew)); exact Kd.R_mono (Kd.R_far (p := ⟨gb249, 1, none⟩) (Kd.R_types HO258.out BK249.out (by decide)) (fun _ hk => hk.2) (.slice Ao41 y260.length co41)) (fun _ hk => ⟨hk.1.1, hk.1.2⟩))); (case aS => exact (below_size (by repeat (first | (with_reducible first | exact HB.out | apply below_alloc | apply pw_below_drewN | apply below_drew1 | refine below_set ?_ GE246.out | refine below_set ?_ GE247.out | refine below_set ?_ GE249.out) | exact HB.out)))); (case aL => have := LMc25.out; omega); intro v264 w44 ho hb hg hat; rw [← Ny263.out] at ho; have n0_ := Aside0.mk (Kd.R_after (ok := (fun k_ => some k_ ≠ (.slice Ao41 y260.length co41 : Value).ownBlock)) (by (with_reducible repeat (first | apply Kd.R_alloc | apply Kd.R_drewN | apply Kd.R_drew)); exact Kd.R_mono (Kd.R_far (p := ⟨gb249, 1, none⟩) (Kd.R_types HO_5.out BK249.out (by decide)) (fun _ hk => hk.2) (.slice Ao41 y260.length co41)) (fun _ hk => ⟨hk.1.2, hk.1.1⟩)) hg hat); have n1_ := Aside0.mk (blk_grown (g := gb246) (o := .cells #[.slice A0_0 l0_0.length c0_0, .slice A0_1 l0_1.length c0_1, .int .i64 a0_2] 24 (0, 0)) (by (with_reducible repeat (first | refine blk_drewN ?_ _ | refine blk_drew ?_ | refine blk_alloc ?_ _)); refine blk_far ?_ NB246_249.out _; (with_reducible repeat (first | refine blk_drewN ?_ _ | refine blk_drew ?_ | refine blk_alloc ?_ _)); exact BK246.out) hg (Kd.R_ne HO258.out BK246.out (by decide))); have n2_ := Aside0.mk (blk_grown (g := gb247) (o := .cells #[.slice none 0 0, .slice none 0 0, .int .i64 0] 24 (0, 0)) (by (with_reducible repeat (first | refine blk_drewN ?_ _ | refine blk_drew ?_ | refine blk_alloc ?_ _)); refine blk_far ?_ NB247_249.out _; (with_reducible repeat (first | refine blk_drewN ?_ _ | refine blk_drew ?_ | refine blk_alloc ?_ _)); exact BK247.out) hg (Kd.R_ne HO258.out BK247.out (by decide))); have n3_ := Aside0.mk (blk_grown (g := gb249) (o := .cells #[.slice Ao36 y256.length co36, .slice Ao41 y260.length co41, .int .i64 (wrap64 (x250002_1 - (ji20)))] 24 (0, 0)) (by (with_reducible repeat (first | refine blk_drewN ?_ _ | refine blk_drew ?_ | refine blk_alloc ?_ _)); refine blk_put (cs := #[.slice Ao36 y256.length co36, u250001, .int .i64 (wrap64 (x250002_1 - (ji20)))]) ?_ 1 _ rfl; (with_reducible repeat (first | refine blk_drewN ?_ _ | refine blk_drew ?_ | refine blk_alloc ?_ _)); exact BK249.out) hg (Kd.R_ne HO258.out BK249.out (by decide))); have n4_ := Aside0.mk (Kd.R_after (ok := (fun k_ => some k_ ≠ (.slice (some ad253) t250.length co29 : Value).ownBlock)) (by (with_reducible repeat (first | apply Kd.R_alloc | apply Kd.R_drewN | apply Kd.R_drew)); exact Kd.R_mono (Kd.R_far (p := ⟨gb249, 1, none⟩) (Kd.R_types HO262.out BK249.out (by decide)) (fun _ hk => hk.2) (.slice Ao41 y260.length co41)) (fun _ hk => ⟨hk.1.1, hk.1.2⟩)) hg hat); have n5_ := Aside0.mk (hb); have n6_ := Aside0.mk (ho); clear HO_5; clear BK246; clear BK247; clear BK249; clear HO262; clear HB; clear HO258; have HO_5 := n0_; have BK246 := n1_; have BK247 := n2_; have BK249 := n3_; have HO262 := n4_; have HB := n5_; have HO265 := n6_; clear n0_ n1_ n2_ n3_ n4_ n5_ n6_; clear ho hb hg hat; obtain ⟨Ao45, co45, eo45⟩ := Kd.R_slice HO265.out; subst eo45; have hcz46_0 : w44.cell? ⟨gb249, 0, none⟩ = some (.slice Ao36 y256.length co36) := (blk_cell BK249.out 0).trans rfl; have hcz46_1 : w44.cell? ⟨gb249, 1, none⟩ = some (.slice Ao41 y260.length co41) := (blk_cell BK249.out 1).trans rfl; have hcz46_2 : w44.cell? ⟨gb249, 2, none⟩ = some (.int .i64 (wrap64 (x250002_1 - (ji20)))) := (blk_cell BK249.out 2).trans rfl; have hfz46_0 := blk_frozen BK249.out 0; have hfz46_1 := blk_frozen BK249.out 1; have hfz46_2 := blk_frozen BK249.out 2))
            have n0_ : Aside0 (Kd.R (Kd.int .i64) 3 (w44.setCell ⟨gb249, 0, none⟩ (.slice Ao45 y263.length co45)) w.heap.size (fun k_ => some k_ ≠ (.slice Ao41 y260.length co41 : Value).ownBlock ∧ some k_ ≠ (.slice Ao45 y263.length co45 : Value).ownBlock) (.slice (some ad253) t250.length co29) t250) := ⟨by (with_reducible repeat (first | apply Kd.R_alloc | apply Kd.R_drewN | apply Kd.R_drew)); exact Kd.R_mono (Kd.R_far (p := ⟨gb249, 0, none⟩) (Kd.R_types HO_5.out BK249.out (by decide)) (fun _ hk => hk.2) (.slice Ao45 y263.length co45)) (fun _ hk => ⟨hk.1.1, hk.1.2⟩)⟩
            have n1_ : Aside0 (Kd.R (Kd.int .i64) 3 (w44.setCell ⟨gb249, 0, none⟩ (.slice Ao45 y263.length co45)) w.heap.size (fun k_ => some k_ ≠ (.slice (some ad253) t250.length co29 : Value).ownBlock ∧ some k_ ≠ (.slice Ao45 y263.length co45 : Value).ownBlock) (.slice Ao41 y260.length co41) y260) := ⟨by (with_reducible repeat (first | apply Kd.R_alloc | apply Kd.R_drewN | apply Kd.R_drew)); exact Kd.R_mono (Kd.R_far (p := ⟨gb249, 0, none⟩) (Kd.R_types HO262.out BK249.out (by decide)) (fun _ hk => hk.2) (.slice Ao45 y263.length co45)) (fun _ hk => ⟨hk.1.1, hk.1.2⟩)⟩
            have n2_ : Aside0 (Kd.R (Kd.int .i64) 3 (w44.setCell ⟨gb249, 0, none⟩ (.slice Ao45 y263.length co45)) w.heap.size (fun k_ => some k_ ≠ (.slice (some ad253) t250.length co29 : Value).ownBlock ∧ some k_ ≠ (.slice Ao41 y260.length co41 : Value).ownBlock) (.slice Ao45 y263.length co45) y263) := ⟨by (with_reducible repeat (first | apply Kd.R_alloc | apply Kd.R_drewN | apply Kd.R_drew)); exact Kd.R_mono (Kd.R_far (p := ⟨gb249, 0, none⟩) (Kd.R_types HO265.out BK249.out (by decide)) (fun _ hk => hk.2) (.slice Ao45 y263.length co45)) (fun _ hk => ⟨hk.1.1, hk.1.2⟩)⟩
            have n3_ : Aside0 ((w44.setCell ⟨gb249, 0, none⟩ (.slice Ao45 y263.length co45)).heap[gb246]? = some (.cells #[.slice A0_0 l0_0.length c0_0, .slice A0_1 l0_1.length c0_1, .int .i64 a0_2] 24 (0, 0))) := ⟨by (with_reducible repeat (first | refine blk_drewN ?_ _ | refine blk_drew ?_ | refine blk_alloc ?_ _)); refine blk_far ?_ NB246_249.out _; (with_reducible repeat (first | refine blk_drewN ?_ _ | refine blk_drew ?_ | refine blk_alloc ?_ _)); exact BK246.out⟩
            have n4_ : Aside0 ((w44.setCell ⟨gb249, 0, none⟩ (.slice Ao45 y263.length co45)).heap[gb247]? = some (.cells #[.slice none 0 0, .slice none 0 0, .int .i64 0] 24 (0, 0))) := ⟨by (with_reducible repeat (first | refine blk_drewN ?_ _ | refine blk_drew ?_ | refine blk_alloc ?_ _)); refine blk_far ?_ NB247_249.out _; (with_reducible repeat (first | refine blk_drewN ?_ _ | refine blk_drew ?_ | refine blk_alloc ?_ _)); exact BK247.out⟩
            have n5_ : Aside0 ((w44.setCell ⟨gb249, 0, none⟩ (.slice Ao45 y263.length co45)).heap[gb249]? = some (.cells #[.slice Ao45 y263.length co45, .slice Ao41 y260.length co41, .int .i64 (wrap64 (x250002_1 - (ji20)))] 24 (0, 0))) := ⟨by (with_reducible repeat (first | refine blk_drewN ?_ _ | refine blk_drew ?_ | refine blk_alloc ?_ _)); refine blk_put (cs := #[.slice Ao36 y256.length co36, .slice Ao41 y260.length co41, .int .i64 (wrap64 (x250002_1 - (ji20)))]) ?_ 0 _ rfl; (with_reducible repeat (first | refine blk_drewN ?_ _ | refine blk_drew ?_ | refine blk_alloc ?_ _)); exact BK249.out⟩
            have n6_ : Aside0 (Below w.heap.size w (w44.setCell ⟨gb249, 0, none⟩ (.slice Ao45 y263.length co45))) := ⟨by repeat (first | (with_reducible first | exact HB.out | apply below_alloc | apply pw_below_drewN | apply below_drew1 | refine below_set ?_ GE246.out | refine below_set ?_ GE247.out | refine below_set ?_ GE249.out) | exact HB.out)⟩
            (try clear HO_5)
            (try clear HO262)
            (try clear HO265)
            (try clear BK246)
            (try clear BK247)
            (try clear BK249)
            (try clear HB)
            generalize (w44.setCell ⟨gb249, 0, none⟩ (.slice Ao45 y263.length co45)) = w47 at n0_ n1_ n2_ n3_ n4_ n5_ n6_ ⊢
            have HO_5 := n0_
            have HO262 := n1_
            have HO265 := n2_
            have BK246 := n3_
            have BK247 := n4_
            have BK249 := n5_
            have HB := n6_
            clear n0_ n1_ n2_ n3_ n4_ n5_ n6_
            have n0_ := Aside0.mk (Kd.R_drew HO_5.out)
            have n1_ := Aside0.mk (Kd.R_drew HO262.out)
            have n2_ := Aside0.mk (Kd.R_drew HO265.out)
            have n3_ := Aside0.mk (blk_drew BK246.out)
            have n4_ := Aside0.mk (blk_drew BK247.out)
            have n5_ := Aside0.mk (blk_drew BK249.out)
            have n6_ := Aside0.mk (below_drew1 HB.out)
            clear HO_5
            clear HO262
            clear HO265
            clear BK246
            clear BK247
            clear BK249
            clear HB
            have HO_5 := n0_
            have HO262 := n1_
            have HO265 := n2_
            have BK246 := n3_
            have BK247 := n4_
            have BK249 := n5_
            have HB := n6_
            clear n0_ n1_ n2_ n3_ n4_ n5_ n6_
            have p266 : 0 ≤ (x6_1 : Int) := of_decide_eq_true (by first | (with_reducible assumption) | assumption)
            have q266 : x6_1 < (t250.length : Int) := of_decide_eq_true (by first | (with_reducible assumption) | assumption)
            obtain ⟨ad266, e266, hx266_0⟩ := Kd.at_int (Kd.R_reads' HO_5.out).2.2 x6_1 p266 q266
            obtain rfl : ad253 = ad266 := (by injection e266)
            replace p266 := eq_true p266
            replace q266 := eq_true q266
            refine start_ (n := 11) (S := fun w' => w'.cell? ⟨gb249, 0, none⟩ = some (.slice Ao45 y263.length co45) ∧ w'.cell? ⟨gb249, 1, none⟩ = some (.slice Ao41 y260.length co41) ∧ w'.cell? ⟨gb249, 2, none⟩ = some (.int .i64 (wrap64 (x250002_1 - (ji20)))) ∧ w'.cell? (ad253.add (x6_1).toNat) = some (.int .i64 (rd t250 x6_1))) (ds := [8, 10]) #[false, false, false, false, false, false, false, false, false, false, false] (by kernel_rfl) rfl rfl ⟨(blk_cell BK249.out 0).trans rfl, (blk_cell BK249.out 1).trans rfl, (blk_cell BK249.out 2).trans rfl, hx266_0⟩ (fun hHeld => ?_); refine with_tabW chalklineref12_Norm.tab16 chalklineref12_Norm.bits16 (fun HT_ HW_ => ?_)
            generalize w47.drew = w48 at HO_5 HO262 HO265 BK246 BK247 BK249 HB hx266_0 hHeld ⊢
            refine pure_ (i := 0) (N := some 72) (v := ?_) (a' := ?_) (bl 11 1) rfl rfl (any_of HT_.out (by kernel_rfl)) (fun _ _ _ h => h) (Or.inl ⟨by rfl, ?_⟩) ?_ ?_; rotate_left; · (intro w'; go_simp; with_reducible rfl)
            rotate_left; · (simp only [Act.put, List.setIfInBounds_toArray, List.set_cons_zero, List.set_cons_succ, i64_w, i32_w]; rfl)
            refine pure_ (i := 2) (N := some 74) (v := ?_) (a' := ?_) (bl 11 5) rfl rfl (any_of HT_.out (by kernel_rfl)) (fun _ _ _ h => h) (Or.inl ⟨by rfl, ?_⟩) ?_ ?_; rotate_left; · (intro w'; go_simp; with_reducible rfl)
            rotate_left; · (simp only [Act.put, List.setIfInBounds_toArray, List.set_cons_zero, List.set_cons_succ, i64_w, i32_w]; rfl)
            refine pure_ (i := 3) (N := some 75) (v := ?_) (a' := ?_) (bl 11 13) rfl rfl (any_of HT_.out (by kernel_rfl)) (fun _ _ _ h => h) (Or.inl ⟨by rfl, ?_⟩) ?_ ?_; rotate_left; · (intro w'; go_simp; with_reducible rfl)
            rotate_left; · (simp only [Act.put, List.setIfInBounds_toArray, List.set_cons_zero, List.set_cons_succ, i64_w, i32_w]; rfl)
            refine pure_ (i := 4) (N := some 76) (v := ?_) (a' := ?_) (bl 11 29) rfl rfl (any_of HT_.out (by kernel_rfl)) (fun _ _ _ h => h) (Or.inl ⟨by rfl, ?_⟩) ?_ ?_; rotate_left; · (intro w'; go_simp; with_reducible rfl)
            rotate_left; · (simp only [Act.put, List.setIfInBounds_toArray, List.set_cons_zero, List.set_cons_succ, i64_w, i32_w]; rfl)
            refine take_ (i := 1) (N := some 73) (v := ?_) (a' := ?_) (bl 11 31) rfl rfl (take_ofW HT_.out HW_.out (by kernel_rfl)) (fun _ _ _ h => h) (Or.inl ⟨by rfl, ?_⟩) hHeld ?_ ?_; rotate_left; · (rintro w' ⟨s0, s1, s2, s3⟩; go_simp; with_reducible rfl)
            rotate_left; · (simp only [Act.put, List.setIfInBounds_toArray, List.set_cons_zero, List.set_cons_succ, i64_w, i32_w]; rfl)
            refine take_ (i := 5) (N := some 77) (v := ?_) (a' := ?_) (bl 11 63) rfl rfl (take_ofW HT_.out HW_.out (by kernel_rfl)) (fun _ _ _ h => h) (Or.inl ⟨by rfl, ?_⟩) hHeld ?_ ?_; rotate_left; · (rintro w' ⟨s0, s1, s2, s3⟩; go_simp; with_reducible rfl)
            rotate_left; · (simp only [Act.put, List.setIfInBounds_toArray, List.set_cons_zero, List.set_cons_succ, i64_w, i32_w]; rfl)
            refine pure_ (i := 6) (N := some 78) (v := ?_) (a' := ?_) (bl 11 127) rfl rfl (any_of HT_.out (by kernel_rfl)) (fun _ _ _ h => h) (Or.inl ⟨by rfl, ?_⟩) ?_ ?_; rotate_left; · (intro w'; go_simp; with_reducible rfl)
            rotate_left; · (simp only [Act.put, List.setIfInBounds_toArray, List.set_cons_zero, List.set_cons_succ, i64_w, i32_w]; rfl)
            refine one_ (i := 7) (N := some 79) (bl 11 255) rfl rfl (one_of HT_.out (by kernel_rfl)) (by decide) (fun K hK => ?_)
            refine value_ (w1 := ?_) (v := ?_) (by rfl) rfl ?_ ?_
            rotate_left 2
            ·
             go_simp
             constructor
             ·
              rfl
             ·
              rfl
            refine hK.out _ _ ⟨(blk_cell (blk_alloc BK249.out _) 0).trans rfl, (blk_cell (blk_alloc BK249.out _) 1).trans rfl, (blk_cell (blk_alloc BK249.out _) 2).trans rfl, (World.cell?_alloc_lt _ _ _ (World.block_lt_of_cell? _ _ (hHeld.2.2.2))).trans (hHeld.2.2.2)⟩ (fun hHeld => ?_)
            clear hK K
            refine norm_ (a' := ?_) ?_ ?_
            rotate_left
            ·
             show Act.put _ (some 79) _ = _
             simp only [Act.put, List.setIfInBounds_toArray, List.set_cons_zero, List.set_cons_succ, i64_w, i32_w]
             rfl
            refine last_ (i := 8) (N := some 80) (bl 11 511) rfl rfl (one_of HT_.out (by kernel_rfl)) (by decide) (fun K hK => ?_)
            refine Kd.R_append_step (Kd.int .i64) (w0 := w) w.heap.size (by rfl) (.tmp 73) (.tmp 79) 22 3 (.int .i64 0) 8 rfl Try.underlying22 info3 rfl (by decide) (by omega) (.slice Ao41 y260.length co41) y260 (wrap64 (-(rd t250 x6_1))) [.int .i64 (wrap64 (-(rd t250 x6_1)))] (fun k_ => some k_ ≠ (.slice (some ad253) t250.length co29 : Value).ownBlock ∧ some k_ ≠ (.slice Ao45 y263.length co45 : Value).ownBlock) (fun _ => False) rfl rfl ?aP (fun _ hk => hk.elim) ?aF ?aO ?aB ?aS ?aL ?_
            (case aP => exact rfl)
            (case aB => exact (by repeat (first | (with_reducible first | exact HB.out | apply below_alloc | apply pw_below_drewN | apply below_drew1 | refine below_set ?_ GE246.out | refine below_set ?_ GE247.out | refine below_set ?_ GE249.out) | exact HB.out)))
            (case aF => exact (fun k_ hk => ⟨Kd.fresh' (Kd.R_lt (by (with_reducible repeat (first | apply Kd.R_alloc | apply Kd.R_drewN | apply Kd.R_drew)); exact HO_5.out)) k_ hk, Kd.fresh' (Kd.R_lt (by (with_reducible repeat (first | apply Kd.R_alloc | apply Kd.R_drewN | apply Kd.R_drew)); exact HO265.out)) k_ hk⟩))
            (case aO => exact (by (with_reducible repeat (first | apply Kd.R_alloc | apply Kd.R_drewN | apply Kd.R_drew)); exact HO262.out))
            (case aS => exact (below_size (by repeat (first | (with_reducible first | exact HB.out | apply below_alloc | apply pw_below_drewN | apply below_drew1 | refine below_set ?_ GE246.out | refine below_set ?_ GE247.out | refine below_set ?_ GE249.out) | exact HB.out))))
            (case aL => have := LMc26.out; omega)
            intro v268 w49 ho hb hg hat
            rw [← Ny267.out] at ho
            have n0_ := Aside0.mk (Kd.R_after (ok := (fun k_ => some k_ ≠ (.slice Ao45 y263.length co45 : Value).ownBlock)) (by (with_reducible repeat (first | apply Kd.R_alloc | apply Kd.R_drewN | apply Kd.R_drew)); exact Kd.R_mono HO_5.out (fun _ hk => ⟨hk.2, hk.1⟩)) hg hat)
            have n1_ := Aside0.mk (blk_grown (g := gb246) (o := .cells #[.slice A0_0 l0_0.length c0_0, .slice A0_1 l0_1.length c0_1, .int .i64 a0_2] 24 (0, 0)) (by (with_reducible repeat (first | refine blk_drewN ?_ _ | refine blk_drew ?_ | refine blk_alloc ?_ _)); exact BK246.out) hg (Kd.R_ne HO262.out BK246.out (by decide)))
            have n2_ := Aside0.mk (blk_grown (g := gb247) (o := .cells #[.slice none 0 0, .slice none 0 0, .int .i64 0] 24 (0, 0)) (by (with_reducible repeat (first | refine blk_drewN ?_ _ | refine blk_drew ?_ | refine blk_alloc ?_ _)); exact BK247.out) hg (Kd.R_ne HO262.out BK247.out (by decide)))
            have n3_ := Aside0.mk (blk_grown (g := gb249) (o := .cells #[.slice Ao45 y263.length co45, .slice Ao41 y260.length co41, .int .i64 (wrap64 (x250002_1 - (ji20)))] 24 (0, 0)) (by (with_reducible repeat (first | refine blk_drewN ?_ _ | refine blk_drew ?_ | refine blk_alloc ?_ _)); exact BK249.out) hg (Kd.R_ne HO262.out BK249.out (by decide)))
            have n4_ := Aside0.mk (Kd.R_after (ok := (fun k_ => some k_ ≠ (.slice (some ad253) t250.length co29 : Value).ownBlock)) (by (with_reducible repeat (first | apply Kd.R_alloc | apply Kd.R_drewN | apply Kd.R_drew)); exact HO265.out) hg hat)
            have n5_ := Aside0.mk (hb)
            have n6_ := Aside0.mk (ho)
            clear HO_5
            clear BK246
            clear BK247
            clear BK249
            clear HO265
            clear HB
            clear HO262
            have HO_5 := n0_
            have BK246 := n1_
            have BK247 := n2_
            have BK249 := n3_
            have HO265 := n4_
            have HB := n5_
            have HO269 := n6_
            clear n0_ n1_ n2_ n3_ n4_ n5_ n6_
            clear ho hb hg hat
            obtain ⟨Ao50, co50, eo50⟩ := Kd.R_slice HO269.out
            (first | subst eo50 | (injection eo50 with f1_ f2_ f3_; have f4_ := f1_.symm; have f5_ := f3_.symm; clear f1_ f2_ f3_; subst f4_; subst f5_))
            refine hK.out _ _ ?_
            clear hK K
            refine norm_ (a' := ?_) ?_ ?_
            rotate_left
            ·
             show Act.put _ (some 80) _ = _
             simp only [Act.put, List.setIfInBounds_toArray, List.set_cons_zero, List.set_cons_succ, i64_w, i32_w]
             rfl
            refine pure_ (i := 9) (N := some 81) (v := ?_) (a' := ?_) (bl 11 1023) rfl rfl (any_of HT_.out (by kernel_rfl)) (fun _ _ _ h => h) (Or.inl ⟨by rfl, ?_⟩) ?_ ?_; rotate_left; · (intro w'; go_simp; with_reducible rfl)
            rotate_left; · (simp only [Act.put, List.setIfInBounds_toArray, List.set_cons_zero, List.set_cons_succ, i64_w, i32_w]; rfl)
            refine last_ (i := 10) (N := none) (bl 11 2047) rfl rfl (one_of HT_.out (by kernel_rfl)) (by decide) (fun K hK => ?_)
            have hs51 : w49.cell? ⟨gb249, 1, none⟩ = some (.slice Ao41 y260.length co41) := (blk_cell BK249.out 1).trans rfl
            have hfs51 := blk_frozen BK249.out 1
            have hns51_0 := NB246_249.out
            have hns51_1 := NB247_249.out
            have hms51_0 := NB249_246.out
            have hms51_1 := NB249_247.out
            refine skip_ (w1 := ?_) (by rfl) rfl ?_ ?_
            rotate_left
            ·
             go_simp
             rfl
            refine hK.out _ _ ?_
            clear hK K
            refine done_ (done_of HT_.out (by kernel_rfl)) ?_
            try go_wp2
            go_roundg k1
            case measure => have := HK1.out; omega
            case rel => exact ⟨(wrap64 ((wrap64 (x4_1 + (ji27))) - (ji20))), (wrap64 (x6_1 + 1)), (y263), (y267), (wrap64 (x250002_1 - (ji20))), (.slice Ao45 y263.length co45), (.slice Ao50 y267.length co50), (by first | rfl | (simp; done) | (simp only [← hji20, ← hji27] <;> (first | rfl | simp)) | (simp [*]; done)), (by first | rfl | (simp; done) | (simp [*]; done)), H', ⟨by have := HK1.out; omega⟩, ⟨by (with_reducible repeat (first | apply Kd.R_alloc | apply Kd.R_drewN | apply Kd.R_drew)); exact Kd.R_mono (Kd.R_far (p := ⟨gb249, 1, none⟩) (Kd.R_types HO_5.out BK249.out (by decide)) (fun _ hk => hk.2) (.slice Ao50 y267.length co50)) (fun _ hk => ⟨hk.1.1, hk.1.2⟩)⟩, ⟨by (with_reducible repeat (first | apply Kd.R_alloc | apply Kd.R_drewN | apply Kd.R_drew)); exact Kd.R_mono (Kd.R_far (p := ⟨gb249, 1, none⟩) (Kd.R_types HO265.out BK249.out (by decide)) (fun _ hk => hk.2) (.slice Ao50 y267.length co50)) (fun _ hk => ⟨hk.1.1, hk.1.2⟩)⟩, ⟨by (with_reducible repeat (first | apply Kd.R_alloc | apply Kd.R_drewN | apply Kd.R_drew)); exact Kd.R_mono (Kd.R_far (p := ⟨gb249, 1, none⟩) (Kd.R_types HO269.out BK249.out (by decide)) (fun _ hk => hk.2) (.slice Ao50 y267.length co50)) (fun _ hk => ⟨hk.1.1, hk.1.2⟩)⟩, ⟨by (with_reducible repeat (first | refine blk_drewN ?_ _ | refine blk_drew ?_ | refine blk_alloc ?_ _)); refine blk_far ?_ NB246_249.out _; (with_reducible repeat (first | refine blk_drewN ?_ _ | refine blk_drew ?_ | refine blk_alloc ?_ _)); exact BK246.out⟩, ⟨by (with_reducible repeat (first | refine blk_drewN ?_ _ | refine blk_drew ?_ | refine blk_alloc ?_ _)); refine blk_far ?_ NB247_249.out _; (with_reducible repeat (first | refine blk_drewN ?_ _ | refine blk_drew ?_ | refine blk_alloc ?_ _)); exact BK247.out⟩, ⟨by (with_reducible repeat (first | refine blk_drewN ?_ _ | refine blk_drew ?_ | refine blk_alloc ?_ _)); refine blk_put (cs := #[.slice Ao45 y263.length co45, .slice Ao41 y260.length co41, .int .i64 (wrap64 (x250002_1 - (ji20)))]) ?_ 1 _ rfl; (with_reducible repeat (first | refine blk_drewN ?_ _ | refine blk_drew ?_ | refine blk_alloc ?_ _)); exact BK249.out⟩, ⟨by repeat (first | (with_reducible first | exact HB.out | apply below_alloc | apply pw_below_drewN | apply below_drew1 | refine below_set ?_ GE246.out | refine below_set ?_ GE247.out | refine below_set ?_ GE249.out) | exact HB.out)⟩⟩
           ·
            rw [if_neg c26] at H
            exact absurd H (by simp)
          ·
           rw [if_neg c25] at H
           exact absurd H (by simp)
         ·
          rw [if_neg c24] at H
          have c24b0 : decide (t254 < t255) = false := decide_eq_false c24
          clear c24
          obtain ⟨ji52, hji52⟩ : ∃ j_ : Int, (mx t254 t255) = j_ := ⟨_, rfl⟩
          replace H : (chalklineref12_Norm.l0 k1 (wrap64 ((wrap64 (x4_1 + (ji52))) - (ji20))) t250 (wrap64 (x6_1 + 1)) l0_0 l0_1 a0_2 y256 y260 (wrap64 (x250002_1 - (ji20)))) = some (r1, r2, r3) := by first | (rw [hji52] at H; exact H) | (simp only [hji52] at H ⊢; exact H)
          (try rw [hji52] at A19)
          have hji52_ : (if t254 < t255 then t255 else t254) = ji52 := hji52
          have H' := Aside0.mk H
          clear H
          obtain ⟨Ao54, co54, eo54⟩ := Kd.R_slice HO_5.out
          subst eo54
          try go_wp2
          have n0_ := Aside0.mk (Kd.R_drew HO_5.out)
          have n1_ := Aside0.mk (Kd.R_drew HO_250000.out)
          have n2_ := Aside0.mk (Kd.R_drew HO_250001.out)
          have n3_ := Aside0.mk (blk_drew BK246.out)
          have n4_ := Aside0.mk (blk_drew BK247.out)
          have n5_ := Aside0.mk (blk_drew BK249.out)
          have n6_ := Aside0.mk (below_drew1 HB.out)
          clear HO_5
          clear HO_250000
          clear HO_250001
          clear BK246
          clear BK247
          clear BK249
          clear HB
          have HO_5 := n0_
          have HO_250000 := n1_
          have HO_250001 := n2_
          have BK246 := n3_
          have BK247 := n4_
          have BK249 := n5_
          have HB := n6_
          clear n0_ n1_ n2_ n3_ n4_ n5_ n6_
          have p253 : 0 ≤ (x6_1 : Int) := of_decide_eq_true (by first | (with_reducible assumption) | assumption)
          have q253 : x6_1 < (t250.length : Int) := of_decide_eq_true (by first | (with_reducible assumption) | assumption)
          obtain ⟨ad253, e253, hx253_0⟩ := Kd.at_int (Kd.R_reads' HO_5.out).2.2 x6_1 p253 q253
          cases e253
          replace p253 := eq_true p253
          replace q253 := eq_true q253
          refine start_ (n := 11) (S := fun w' => w'.cell? ⟨gb246, 0, none⟩ = some (.slice A0_0 l0_0.length c0_0) ∧ w'.cell? ⟨gb246, 1, none⟩ = some (.slice A0_1 l0_1.length c0_1) ∧ w'.cell? ⟨gb246, 2, none⟩ = some (.int .i64 a0_2) ∧ w'.cell? (ad253.add (x6_1).toNat) = some (.int .i64 (rd t250 x6_1))) (ds := []) #[false, false, false, false, false, false, false, false, false, false, false] (by kernel_rfl) rfl rfl ⟨(blk_cell BK246.out 0).trans rfl, (blk_cell BK246.out 1).trans rfl, (blk_cell BK246.out 2).trans rfl, hx253_0⟩ (fun hHeld => ?_); refine with_tabW chalklineref12_Norm.tab9 chalklineref12_Norm.bits9 (fun HT_ HW_ => ?_)
          generalize wr.drew = w55 at HO_5 HO_250000 HO_250001 BK246 BK247 BK249 HB hx253_0 hHeld ⊢
          refine pure_ (i := 1) (N := some 27) (v := ?_) (a' := ?_) (bl 11 2) rfl rfl (any_of HT_.out (by kernel_rfl)) (fun _ _ _ h => h) (Or.inl ⟨by rfl, ?_⟩) ?_ ?_; rotate_left; · (intro w'; go_simp; with_reducible rfl)
          rotate_left; · (simp only [Act.put, List.setIfInBounds_toArray, List.set_cons_zero, List.set_cons_succ, i64_w, i32_w]; rfl)
          refine pure_ (i := 2) (N := some 28) (v := ?_) (a' := ?_) (bl 11 6) rfl rfl (any_of HT_.out (by kernel_rfl)) (fun _ _ _ h => h) (Or.inl ⟨by rfl, ?_⟩) ?_ ?_; rotate_left; · (intro w'; go_simp; with_reducible rfl)
          rotate_left; · (simp only [Act.put, List.setIfInBounds_toArray, List.set_cons_zero, List.set_cons_succ, i64_w, i32_w]; rfl)
          refine pure_ (i := 3) (N := some 29) (v := ?_) (a' := ?_) (bl 11 14) rfl rfl (any_of HT_.out (by kernel_rfl)) (fun _ _ _ h => h) (Or.inl ⟨by rfl, ?_⟩) ?_ ?_; rotate_left; · (intro w'; go_simp; with_reducible rfl)
          rotate_left; · (simp only [Act.put, List.setIfInBounds_toArray, List.set_cons_zero, List.set_cons_succ, i64_w, i32_w]; rfl)
          refine take_ (i := 0) (N := some 26) (v := ?_) (a' := ?_) (bl 11 15) rfl rfl (take_ofW HT_.out HW_.out (by kernel_rfl)) (fun _ _ _ h => h) (Or.inl ⟨by rfl, ?_⟩) hHeld ?_ ?_; rotate_left; · (rintro w' ⟨s0, s1, s2, s3⟩; go_simp; with_reducible rfl)
          rotate_left; · (simp only [Act.put, List.setIfInBounds_toArray, List.set_cons_zero, List.set_cons_succ, i64_w, i32_w]; rfl)
          refine take_ (i := 4) (N := some 30) (v := ?_) (a' := ?_) (bl 11 31) rfl rfl (take_ofW HT_.out HW_.out (by kernel_rfl)) (fun _ _ _ h => h) (Or.inl ⟨by rfl, ?_⟩) hHeld ?_ ?_; rotate_left; · (rintro w' ⟨s0, s1, s2, s3⟩; go_simp; with_reducible rfl)
          rotate_left; · (simp only [Act.put, List.setIfInBounds_toArray, List.set_cons_zero, List.set_cons_succ, i64_w, i32_w]; rfl)
          refine one_ (i := 5) (N := some 31) (bl 11 63) rfl rfl (one_of HT_.out (by kernel_rfl)) (by decide) (fun K hK => ?_)
          refine goes_ Try.func57 (by kernel_rfl) rfl #[.agg #[.slice A0_0 l0_0.length c0_0, .slice A0_1 l0_1.length c0_1, .int .i64 a0_2], .int .i64 (rd t250 x6_1)] (by rfl) rfl rfl (by (try simp only [List.map_toArray, List.map_cons, List.map_nil]); first | done | rfl | (simp only [List.length_drop, List.length_take]; rfl)) ?_
          with_reducible refine (chalklineref12_both.calls k1 _ _ l0_0 _ _ l0_1 a0_2 (rd t250 x6_1) t254 t255 _ ?side1 ?side2 ?side3 ?side4 A19.out).mono ?_
          (case side1 => repeat (first | exact (Kd.C_below HR0_0.out HB.out) | (with_reducible refine Kd.C_alloc ?_ _) | (with_reducible refine Kd.C_drewN ?_ _) | (with_reducible refine Kd.C_drew ?_)))
          (case side2 => exact HC0_0.out)
          (case side3 => repeat (first | exact (Kd.C_below HR0_1.out HB.out) | (with_reducible refine Kd.C_alloc ?_ _) | (with_reducible refine Kd.C_drewN ?_ _) | (with_reducible refine Kd.C_drew ?_)))
          (case side4 => exact HC0_1.out)
          rintro e w56 ⟨rfl, hb⟩
          have HS3_ := (hb.cell (World.block_lt_of_cell? _ _ (hHeld.2.2.2))).trans (hHeld.2.2.2)
          refine ⟨_, rfl, ?_⟩
          have n0_ := Aside0.mk (Kd.R_below (by (with_reducible repeat (first | apply Kd.R_alloc | apply Kd.R_drewN | apply Kd.R_drew)); exact HO_5.out) hb)
          have n1_ := Aside0.mk (Kd.R_below (by (with_reducible repeat (first | apply Kd.R_alloc | apply Kd.R_drewN | apply Kd.R_drew)); exact HO_250000.out) hb)
          have n2_ := Aside0.mk (Kd.R_below (by (with_reducible repeat (first | apply Kd.R_alloc | apply Kd.R_drewN | apply Kd.R_drew)); exact HO_250001.out) hb)
          have n3_ := Aside0.mk (blk_below (g := gb246) (o := .cells #[.slice A0_0 l0_0.length c0_0, .slice A0_1 l0_1.length c0_1, .int .i64 a0_2] 24 (0, 0)) (by (with_reducible repeat (first | refine blk_drewN ?_ _ | refine blk_drew ?_ | refine blk_alloc ?_ _)); exact BK246.out) hb)
          have n4_ := Aside0.mk (blk_below (g := gb247) (o := .cells #[.slice none 0 0, .slice none 0 0, .int .i64 0] 24 (0, 0)) (by (with_reducible repeat (first | refine blk_drewN ?_ _ | refine blk_drew ?_ | refine blk_alloc ?_ _)); exact BK247.out) hb)
          have n5_ := Aside0.mk (blk_below (g := gb249) (o := .cells #[u250000, u250001, .int .i64 x250002_1] 24 (0, 0)) (by (with_reducible repeat (first | refine blk_drewN ?_ _ | refine blk_drew ?_ | refine blk_alloc ?_ _)); exact BK249.out) hb)
          have n6_ := Aside0.mk (below_step (by repeat (first | (with_reducible first | exact HB.out | apply below_alloc | apply pw_below_drewN | apply below_drew1 | refine below_set ?_ GE246.out | refine below_set ?_ GE247.out | refine below_set ?_ GE249.out) | exact HB.out)) hb)
          clear HO_5
          clear HO_250000
          clear HO_250001
          clear BK246
          clear BK247
          clear BK249
          clear HB
          have HO_5 := n0_
          have HO_250000 := n1_
          have HO_250001 := n2_
          have BK246 := n3_
          have BK247 := n4_
          have BK249 := n5_
          have HB := n6_
          clear n0_ n1_ n2_ n3_ n4_ n5_ n6_
          (try clear hb)
          (try clear hb2)
          (try clear hk)
          (try clear hi)
          refine hK.out _ _ ⟨(blk_cell BK246.out 0).trans rfl, (blk_cell BK246.out 1).trans rfl, (blk_cell BK246.out 2).trans rfl, HS3_⟩ (fun hHeld => ?_)
          clear hK K
          refine norm_ (a' := ?_) ?_ ?_
          rotate_left
          ·
           show Act.put _ (some 31) _ = _
           simp only [Act.put, List.setIfInBounds_toArray, List.set_cons_zero, List.set_cons_succ, i64_w, i32_w]
           rfl
          refine pure_ (i := 6) (N := some 25) (v := ?_) (a' := ?_) (bl 11 127) rfl rfl (any_of HT_.out (by kernel_rfl)) (fun _ _ _ h => h) (Or.inl ⟨by rfl, ?_⟩) ?_ ?_; rotate_left; · (intro w'; go_simp; with_reducible rfl)
          rotate_left; · (simp only [Act.put, List.setIfInBounds_toArray, List.set_cons_zero, List.set_cons_succ, i64_w, i32_w]; rfl)
          refine pure_ (i := 7) (N := some 32) (v := ?_) (a' := ?_) (bl 11 255) rfl rfl (any_of HT_.out (by kernel_rfl)) (fun _ _ _ h => h) (Or.inl ⟨by rfl, ?_⟩) ?_ ?_; rotate_left; · (intro w'; go_simp; with_reducible rfl)
          rotate_left; · (simp only [Act.put, List.setIfInBounds_toArray, List.set_cons_zero, List.set_cons_succ, i64_w, i32_w]; rfl)
          refine pure_ (i := 8) (N := some 33) (v := ?_) (a' := ?_) (bl 11 511) rfl rfl (any_of HT_.out (by kernel_rfl)) (fun _ _ _ h => h) (Or.inl ⟨by rfl, ?_⟩) ?_ ?_; rotate_left; · (intro w'; go_simp; with_reducible rfl)
          rotate_left; · (simp only [Act.put, List.setIfInBounds_toArray, List.set_cons_zero, List.set_cons_succ, i64_w, i32_w]; rfl)
          refine pure_ (i := 9) (N := some 7) (v := ?_) (a' := ?_) (bl 11 1023) rfl rfl (any_of HT_.out (by kernel_rfl)) (fun _ _ _ h => h) (Or.inl ⟨by rfl, ?_⟩) ?_ ?_; rotate_left; · (intro w'; go_simp; with_reducible rfl)
          rotate_left; · (simp only [Act.put, List.setIfInBounds_toArray, List.set_cons_zero, List.set_cons_succ, i64_w, i32_w]; rfl)
          refine pure_ (i := 10) (N := some 8) (v := ?_) (a' := ?_) (bl 11 2047) rfl rfl (any_of HT_.out (by kernel_rfl)) (fun _ _ _ h => h) (Or.inl ⟨by rfl, ?_⟩) ?_ ?_; rotate_left; · (intro w'; go_simp; with_reducible rfl)
          rotate_left; · (simp only [Act.put, List.setIfInBounds_toArray, List.set_cons_zero, List.set_cons_succ, i64_w, i32_w]; rfl)
          refine done_ (done_of HT_.out (by kernel_rfl)) ?_
          have hnb57 := NB249_246.out
          have hnc57 := NB246_249.out
          have hnb58 := NB249_247.out
          have hnc58 := NB247_249.out
          have hcz59_0 : w56.cell? ⟨gb249, 0, none⟩ = some (u250000) := (blk_cell BK249.out 0).trans rfl
          have hcz59_1 : w56.cell? ⟨gb249, 1, none⟩ = some (u250001) := (blk_cell BK249.out 1).trans rfl
          have hcz59_2 : w56.cell? ⟨gb249, 2, none⟩ = some (.int .i64 x250002_1) := (blk_cell BK249.out 2).trans rfl
          have hfz59_0 := blk_frozen BK249.out 0
          have hfz59_1 := blk_frozen BK249.out 1
          have hfz59_2 := blk_frozen BK249.out 2
          try go_wp2_with (first | ((with_reducible refine gate_builtin (b := .append) (xs := #[.tmp 45, .tmp 49]) rfl ?_); at_builtin; refine Kd.R_append (Kd.int .i64) (w0 := w) w.heap.size rfl (.tmp 45) (.tmp 49) 22 3 (.int .i64 0) 8 rfl Try.underlying22 info3 rfl (by decide) (by omega) u250000 x250000_1 (wrap64 (t254 - t255)) [.int .i64 (wrap64 (t254 - t255))] (fun k_ => some k_ ≠ (.slice (some ad253) t250.length co54 : Value).ownBlock ∧ some k_ ≠ (u250001 : Value).ownBlock) (fun _ => False) rfl (by first | (go_simp; done) | (go_simp; rfl)) ?aP (fun _ hk => hk.elim) ?aF ?aO ?aB ?aS ?aL ?_; (case aP => exact rfl); (case aB => exact (by repeat (first | (with_reducible first | exact HB.out | apply below_alloc | apply pw_below_drewN | apply below_drew1 | refine below_set ?_ GE246.out | refine below_set ?_ GE247.out | refine below_set ?_ GE249.out) | exact HB.out))); (case aF => exact (fun k_ hk => ⟨Kd.fresh' (Kd.R_lt (by (with_reducible repeat (first | apply Kd.R_alloc | apply Kd.R_drewN | apply Kd.R_drew)); exact (Kd.R_mono (Kd.R_far (p := ⟨gb249, 2, none⟩) (Kd.R_types HO_5.out BK249.out (by decide)) (fun _ hk => hk.2) (.int .i64 (wrap64 (x250002_1 - (ji20))))) (fun _ h_ => h_.1)))) k_ hk, Kd.fresh' (Kd.R_lt (by (with_reducible repeat (first | apply Kd.R_alloc | apply Kd.R_drewN | apply Kd.R_drew)); exact (Kd.R_mono (Kd.R_far (p := ⟨gb249, 2, none⟩) (Kd.R_types HO_250001.out BK249.out (by decide)) (fun _ hk => hk.2) (.int .i64 (wrap64 (x250002_1 - (ji20))))) (fun _ h_ => h_.1)))) k_ hk⟩)); (case aO => exact (by (with_reducible repeat (first | apply Kd.R_alloc | apply Kd.R_drewN | apply Kd.R_drew)); exact Kd.R_mono (Kd.R_far (p := ⟨gb249, 2, none⟩) (Kd.R_types HO_250000.out BK249.out (by decide)) (fun _ hk => hk.2) (.int .i64 (wrap64 (x250002_1 - (ji20))))) (fun _ hk => ⟨hk.1.1, hk.1.2⟩))); (case aS => exact (below_size (by repeat (first | (with_reducible first | exact HB.out | apply below_alloc | apply pw_below_drewN | apply below_drew1 | refine below_set ?_ GE246.out | refine below_set ?_ GE247.out | refine below_set ?_ GE249.out) | exact HB.out)))); (case aL => have := LMc22.out; omega); intro v257 w60 ho hb hg hat; rw [← Ny256.out] at ho; have n0_ := Aside0.mk (Kd.R_after (ok := (fun k_ => some k_ ≠ (u250001 : Value).ownBlock)) (by (with_reducible repeat (first | apply Kd.R_alloc | apply Kd.R_drewN | apply Kd.R_drew)); exact Kd.R_mono (Kd.R_far (p := ⟨gb249, 2, none⟩) (Kd.R_types HO_5.out BK249.out (by decide)) (fun _ hk => hk.2) (.int .i64 (wrap64 (x250002_1 - (ji20))))) (fun _ hk => ⟨hk.1.2, hk.1.1⟩)) hg hat); have n1_ := Aside0.mk (Kd.R_after (ok := (fun k_ => some k_ ≠ (.slice (some ad253) t250.length co54 : Value).ownBlock)) (by (with_reducible repeat (first | apply Kd.R_alloc | apply Kd.R_drewN | apply Kd.R_drew)); exact Kd.R_mono (Kd.R_far (p := ⟨gb249, 2, none⟩) (Kd.R_types HO_250001.out BK249.out (by decide)) (fun _ hk => hk.2) (.int .i64 (wrap64 (x250002_1 - (ji20))))) (fun _ hk => ⟨hk.1.1, hk.1.2⟩)) hg hat); have n2_ := Aside0.mk (blk_grown (g := gb246) (o := .cells #[.slice A0_0 l0_0.length c0_0, .slice A0_1 l0_1.length c0_1, .int .i64 a0_2] 24 (0, 0)) (by (with_reducible repeat (first | refine blk_drewN ?_ _ | refine blk_drew ?_ | refine blk_alloc ?_ _)); refine blk_far ?_ NB246_249.out _; (with_reducible repeat (first | refine blk_drewN ?_ _ | refine blk_drew ?_ | refine blk_alloc ?_ _)); exact BK246.out) hg (Kd.R_ne HO_250000.out BK246.out (by decide))); have n3_ := Aside0.mk (blk_grown (g := gb247) (o := .cells #[.slice none 0 0, .slice none 0 0, .int .i64 0] 24 (0, 0)) (by (with_reducible repeat (first | refine blk_drewN ?_ _ | refine blk_drew ?_ | refine blk_alloc ?_ _)); refine blk_far ?_ NB247_249.out _; (with_reducible repeat (first | refine blk_drewN ?_ _ | refine blk_drew ?_ | refine blk_alloc ?_ _)); exact BK247.out) hg (Kd.R_ne HO_250000.out BK247.out (by decide))); have n4_ := Aside0.mk (blk_grown (g := gb249) (o := .cells #[u250000, u250001, .int .i64 (wrap64 (x250002_1 - (ji20)))] 24 (0, 0)) (by (with_reducible repeat (first | refine blk_drewN ?_ _ | refine blk_drew ?_ | refine blk_alloc ?_ _)); refine blk_put (cs := #[u250000, u250001, .int .i64 x250002_1]) ?_ 2 _ rfl; (with_reducible repeat (first | refine blk_drewN ?_ _ | refine blk_drew ?_ | refine blk_alloc ?_ _)); exact BK249.out) hg (Kd.R_ne HO_250000.out BK249.out (by decide))); have n5_ := Aside0.mk (hb); have n6_ := Aside0.mk (ho); clear HO_5; clear HO_250001; clear BK246; clear BK247; clear BK249; clear HB; clear HO_250000; have HO_5 := n0_; have HO_250001 := n1_; have BK246 := n2_; have BK247 := n3_; have BK249 := n4_; have HB := n5_; have HO258 := n6_; clear n0_ n1_ n2_ n3_ n4_ n5_ n6_; clear ho hb hg hat; obtain ⟨Ao61, co61, eo61⟩ := Kd.R_slice HO258.out; subst eo61; have hcz62_0 : w60.cell? ⟨gb249, 0, none⟩ = some (u250000) := (blk_cell BK249.out 0).trans rfl; have hcz62_1 : w60.cell? ⟨gb249, 1, none⟩ = some (u250001) := (blk_cell BK249.out 1).trans rfl; have hcz62_2 : w60.cell? ⟨gb249, 2, none⟩ = some (.int .i64 (wrap64 (x250002_1 - (ji20)))) := (blk_cell BK249.out 2).trans rfl; have hfz62_0 := blk_frozen BK249.out 0; have hfz62_1 := blk_frozen BK249.out 1; have hfz62_2 := blk_frozen BK249.out 2))
          have n0_ : Aside0 (Kd.R (Kd.int .i64) 3 (w60.setCell ⟨gb249, 0, none⟩ (.slice Ao61 y256.length co61)) w.heap.size (fun k_ => some k_ ≠ (u250001 : Value).ownBlock ∧ some k_ ≠ (.slice Ao61 y256.length co61 : Value).ownBlock) (.slice (some ad253) t250.length co54) t250) := ⟨by (with_reducible repeat (first | apply Kd.R_alloc | apply Kd.R_drewN | apply Kd.R_drew)); exact Kd.R_mono (Kd.R_far (p := ⟨gb249, 0, none⟩) (Kd.R_types HO_5.out BK249.out (by decide)) (fun _ hk => hk.2) (.slice Ao61 y256.length co61)) (fun _ hk => ⟨hk.1.1, hk.1.2⟩)⟩
          have n1_ : Aside0 (Kd.R (Kd.int .i64) 3 (w60.setCell ⟨gb249, 0, none⟩ (.slice Ao61 y256.length co61)) w.heap.size (fun k_ => some k_ ≠ (.slice (some ad253) t250.length co54 : Value).ownBlock ∧ some k_ ≠ (.slice Ao61 y256.length co61 : Value).ownBlock) u250001 x250001_1) := ⟨by (with_reducible repeat (first | apply Kd.R_alloc | apply Kd.R_drewN | apply Kd.R_drew)); exact Kd.R_mono (Kd.R_far (p := ⟨gb249, 0, none⟩) (Kd.R_types HO_250001.out BK249.out (by decide)) (fun _ hk => hk.2) (.slice Ao61 y256.length co61)) (fun _ hk => ⟨hk.1.1, hk.1.2⟩)⟩
          have n2_ : Aside0 (Kd.R (Kd.int .i64) 3 (w60.setCell ⟨gb249, 0, none⟩ (.slice Ao61 y256.length co61)) w.heap.size (fun k_ => some k_ ≠ (.slice (some ad253) t250.length co54 : Value).ownBlock ∧ some k_ ≠ (u250001 : Value).ownBlock) (.slice Ao61 y256.length co61) y256) := ⟨by (with_reducible repeat (first | apply Kd.R_alloc | apply Kd.R_drewN | apply Kd.R_drew)); exact Kd.R_mono (Kd.R_far (p := ⟨gb249, 0, none⟩) (Kd.R_types HO258.out BK249.out (by decide)) (fun _ hk => hk.2) (.slice Ao61 y256.length co61)) (fun _ hk => ⟨hk.1.1, hk.1.2⟩)⟩
          have n3_ : Aside0 ((w60.setCell ⟨gb249, 0, none⟩ (.slice Ao61 y256.length co61)).heap[gb246]? = some (.cells #[.slice A0_0 l0_0.length c0_0, .slice A0_1 l0_1.length c0_1, .int .i64 a0_2] 24 (0, 0))) := ⟨by (with_reducible repeat (first | refine blk_drewN ?_ _ | refine blk_drew ?_ | refine blk_alloc ?_ _)); refine blk_far ?_ NB246_249.out _; (with_reducible repeat (first | refine blk_drewN ?_ _ | refine blk_drew ?_ | refine blk_alloc ?_ _)); exact BK246.out⟩
          have n4_ : Aside0 ((w60.setCell ⟨gb249, 0, none⟩ (.slice Ao61 y256.length co61)).heap[gb247]? = some (.cells #[.slice none 0 0, .slice none 0 0, .int .i64 0] 24 (0, 0))) := ⟨by (with_reducible repeat (first | refine blk_drewN ?_ _ | refine blk_drew ?_ | refine blk_alloc ?_ _)); refine blk_far ?_ NB247_249.out _; (with_reducible repeat (first | refine blk_drewN ?_ _ | refine blk_drew ?_ | refine blk_alloc ?_ _)); exact BK247.out⟩
          have n5_ : Aside0 ((w60.setCell ⟨gb249, 0, none⟩ (.slice Ao61 y256.length co61)).heap[gb249]? = some (.cells #[.slice Ao61 y256.length co61, u250001, .int .i64 (wrap64 (x250002_1 - (ji20)))] 24 (0, 0))) := ⟨by (with_reducible repeat (first | refine blk_drewN ?_ _ | refine blk_drew ?_ | refine blk_alloc ?_ _)); refine blk_put (cs := #[u250000, u250001, .int .i64 (wrap64 (x250002_1 - (ji20)))]) ?_ 0 _ rfl; (with_reducible repeat (first | refine blk_drewN ?_ _ | refine blk_drew ?_ | refine blk_alloc ?_ _)); exact BK249.out⟩
          have n6_ : Aside0 (Below w.heap.size w (w60.setCell ⟨gb249, 0, none⟩ (.slice Ao61 y256.length co61))) := ⟨by repeat (first | (with_reducible first | exact HB.out | apply below_alloc | apply pw_below_drewN | apply below_drew1 | refine below_set ?_ GE246.out | refine below_set ?_ GE247.out | refine below_set ?_ GE249.out) | exact HB.out)⟩
          (try clear HO_5)
          (try clear HO_250001)
          (try clear HO258)
          (try clear BK246)
          (try clear BK247)
          (try clear BK249)
          (try clear HB)
          generalize (w60.setCell ⟨gb249, 0, none⟩ (.slice Ao61 y256.length co61)) = w63 at n0_ n1_ n2_ n3_ n4_ n5_ n6_ ⊢
          have HO_5 := n0_
          have HO_250001 := n1_
          have HO258 := n2_
          have BK246 := n3_
          have BK247 := n4_
          have BK249 := n5_
          have HB := n6_
          clear n0_ n1_ n2_ n3_ n4_ n5_ n6_
          have n0_ := Aside0.mk (Kd.R_drew HO_5.out)
          have n1_ := Aside0.mk (Kd.R_drew HO_250001.out)
          have n2_ := Aside0.mk (Kd.R_drew HO258.out)
          have n3_ := Aside0.mk (blk_drew BK246.out)
          have n4_ := Aside0.mk (blk_drew BK247.out)
          have n5_ := Aside0.mk (blk_drew BK249.out)
          have n6_ := Aside0.mk (below_drew1 HB.out)
          clear HO_5
          clear HO_250001
          clear HO258
          clear BK246
          clear BK247
          clear BK249
          clear HB
          have HO_5 := n0_
          have HO_250001 := n1_
          have HO258 := n2_
          have BK246 := n3_
          have BK247 := n4_
          have BK249 := n5_
          have HB := n6_
          clear n0_ n1_ n2_ n3_ n4_ n5_ n6_
          have p259 : 0 ≤ (x6_1 : Int) := of_decide_eq_true (by first | (with_reducible assumption) | assumption)
          have q259 : x6_1 < (t250.length : Int) := of_decide_eq_true (by first | (with_reducible assumption) | assumption)
          obtain ⟨ad259, e259, hx259_0⟩ := Kd.at_int (Kd.R_reads' HO_5.out).2.2 x6_1 p259 q259
          obtain rfl : ad253 = ad259 := (by injection e259)
          replace p259 := eq_true p259
          replace q259 := eq_true q259
          refine start_ (n := 10) (S := fun w' => w'.cell? ⟨gb249, 0, none⟩ = some (.slice Ao61 y256.length co61) ∧ w'.cell? ⟨gb249, 1, none⟩ = some (u250001) ∧ w'.cell? ⟨gb249, 2, none⟩ = some (.int .i64 (wrap64 (x250002_1 - (ji20)))) ∧ w'.cell? (ad253.add (x6_1).toNat) = some (.int .i64 (rd t250 x6_1))) (ds := [7, 9]) #[false, false, false, false, false, false, false, false, false, false] (by kernel_rfl) rfl rfl ⟨(blk_cell BK249.out 0).trans rfl, (blk_cell BK249.out 1).trans rfl, (blk_cell BK249.out 2).trans rfl, hx259_0⟩ (fun hHeld => ?_); refine with_tabW chalklineref12_Norm.tab13 chalklineref12_Norm.bits13 (fun HT_ HW_ => ?_)
          generalize w63.drew = w64 at HO_5 HO_250001 HO258 BK246 BK247 BK249 HB hx259_0 hHeld ⊢
          refine pure_ (i := 0) (N := some 52) (v := ?_) (a' := ?_) (bl 10 1) rfl rfl (any_of HT_.out (by kernel_rfl)) (fun _ _ _ h => h) (Or.inl ⟨by rfl, ?_⟩) ?_ ?_; rotate_left; · (intro w'; go_simp; with_reducible rfl)
          rotate_left; · (simp only [Act.put, List.setIfInBounds_toArray, List.set_cons_zero, List.set_cons_succ, i64_w, i32_w]; rfl)
          refine pure_ (i := 2) (N := some 54) (v := ?_) (a' := ?_) (bl 10 5) rfl rfl (any_of HT_.out (by kernel_rfl)) (fun _ _ _ h => h) (Or.inl ⟨by rfl, ?_⟩) ?_ ?_; rotate_left; · (intro w'; go_simp; with_reducible rfl)
          rotate_left; · (simp only [Act.put, List.setIfInBounds_toArray, List.set_cons_zero, List.set_cons_succ, i64_w, i32_w]; rfl)
          refine pure_ (i := 3) (N := some 55) (v := ?_) (a' := ?_) (bl 10 13) rfl rfl (any_of HT_.out (by kernel_rfl)) (fun _ _ _ h => h) (Or.inl ⟨by rfl, ?_⟩) ?_ ?_; rotate_left; · (intro w'; go_simp; with_reducible rfl)
          rotate_left; · (simp only [Act.put, List.setIfInBounds_toArray, List.set_cons_zero, List.set_cons_succ, i64_w, i32_w]; rfl)
          refine pure_ (i := 4) (N := some 56) (v := ?_) (a' := ?_) (bl 10 29) rfl rfl (any_of HT_.out (by kernel_rfl)) (fun _ _ _ h => h) (Or.inl ⟨by rfl, ?_⟩) ?_ ?_; rotate_left; · (intro w'; go_simp; with_reducible rfl)
          rotate_left; · (simp only [Act.put, List.setIfInBounds_toArray, List.set_cons_zero, List.set_cons_succ, i64_w, i32_w]; rfl)
          refine take_ (i := 1) (N := some 53) (v := ?_) (a' := ?_) (bl 10 31) rfl rfl (take_ofW HT_.out HW_.out (by kernel_rfl)) (fun _ _ _ h => h) (Or.inl ⟨by rfl, ?_⟩) hHeld ?_ ?_; rotate_left; · (rintro w' ⟨s0, s1, s2, s3⟩; go_simp; with_reducible rfl)
          rotate_left; · (simp only [Act.put, List.setIfInBounds_toArray, List.set_cons_zero, List.set_cons_succ, i64_w, i32_w]; rfl)
          refine take_ (i := 5) (N := some 57) (v := ?_) (a' := ?_) (bl 10 63) rfl rfl (take_ofW HT_.out HW_.out (by kernel_rfl)) (fun _ _ _ h => h) (Or.inl ⟨by rfl, ?_⟩) hHeld ?_ ?_; rotate_left; · (rintro w' ⟨s0, s1, s2, s3⟩; go_simp; with_reducible rfl)
          rotate_left; · (simp only [Act.put, List.setIfInBounds_toArray, List.set_cons_zero, List.set_cons_succ, i64_w, i32_w]; rfl)
          refine one_ (i := 6) (N := some 58) (bl 10 127) rfl rfl (one_of HT_.out (by kernel_rfl)) (by decide) (fun K hK => ?_)
          refine value_ (w1 := ?_) (v := ?_) (by rfl) rfl ?_ ?_
          rotate_left 2
          ·
           go_simp
           constructor
           ·
            rfl
           ·
            rfl
          refine hK.out _ _ ⟨(blk_cell (blk_alloc BK249.out _) 0).trans rfl, (blk_cell (blk_alloc BK249.out _) 1).trans rfl, (blk_cell (blk_alloc BK249.out _) 2).trans rfl, (World.cell?_alloc_lt _ _ _ (World.block_lt_of_cell? _ _ (hHeld.2.2.2))).trans (hHeld.2.2.2)⟩ (fun hHeld => ?_)
          clear hK K
          refine norm_ (a' := ?_) ?_ ?_
          rotate_left
          ·
           show Act.put _ (some 58) _ = _
           simp only [Act.put, List.setIfInBounds_toArray, List.set_cons_zero, List.set_cons_succ, i64_w, i32_w]
           rfl
          refine last_ (i := 7) (N := some 59) (bl 10 255) rfl rfl (one_of HT_.out (by kernel_rfl)) (by decide) (fun K hK => ?_)
          refine Kd.R_append_step (Kd.int .i64) (w0 := w) w.heap.size (by rfl) (.tmp 53) (.tmp 58) 22 3 (.int .i64 0) 8 rfl Try.underlying22 info3 rfl (by decide) (by omega) u250001 x250001_1 (rd t250 x6_1) [.int .i64 (rd t250 x6_1)] (fun k_ => some k_ ≠ (.slice (some ad253) t250.length co54 : Value).ownBlock ∧ some k_ ≠ (.slice Ao61 y256.length co61 : Value).ownBlock) (fun _ => False) rfl rfl ?aP (fun _ hk => hk.elim) ?aF ?aO ?aB ?aS ?aL ?_
          (case aP => exact rfl)
          (case aB => exact (by repeat (first | (with_reducible first | exact HB.out | apply below_alloc | apply pw_below_drewN | apply below_drew1 | refine below_set ?_ GE246.out | refine below_set ?_ GE247.out | refine below_set ?_ GE249.out) | exact HB.out)))
          (case aF => exact (fun k_ hk => ⟨Kd.fresh' (Kd.R_lt (by (with_reducible repeat (first | apply Kd.R_alloc | apply Kd.R_drewN | apply Kd.R_drew)); exact HO_5.out)) k_ hk, Kd.fresh' (Kd.R_lt (by (with_reducible repeat (first | apply Kd.R_alloc | apply Kd.R_drewN | apply Kd.R_drew)); exact HO258.out)) k_ hk⟩))
          (case aO => exact (by (with_reducible repeat (first | apply Kd.R_alloc | apply Kd.R_drewN | apply Kd.R_drew)); exact HO_250001.out))
          (case aS => exact (below_size (by repeat (first | (with_reducible first | exact HB.out | apply below_alloc | apply pw_below_drewN | apply below_drew1 | refine below_set ?_ GE246.out | refine below_set ?_ GE247.out | refine below_set ?_ GE249.out) | exact HB.out))))
          (case aL => have := LMc23.out; omega)
          intro v261 w65 ho hb hg hat
          rw [← Ny260.out] at ho
          have n0_ := Aside0.mk (Kd.R_after (ok := (fun k_ => some k_ ≠ (.slice Ao61 y256.length co61 : Value).ownBlock)) (by (with_reducible repeat (first | apply Kd.R_alloc | apply Kd.R_drewN | apply Kd.R_drew)); exact Kd.R_mono HO_5.out (fun _ hk => ⟨hk.2, hk.1⟩)) hg hat)
          have n1_ := Aside0.mk (blk_grown (g := gb246) (o := .cells #[.slice A0_0 l0_0.length c0_0, .slice A0_1 l0_1.length c0_1, .int .i64 a0_2] 24 (0, 0)) (by (with_reducible repeat (first | refine blk_drewN ?_ _ | refine blk_drew ?_ | refine blk_alloc ?_ _)); exact BK246.out) hg (Kd.R_ne HO_250001.out BK246.out (by decide)))
          have n2_ := Aside0.mk (blk_grown (g := gb247) (o := .cells #[.slice none 0 0, .slice none 0 0, .int .i64 0] 24 (0, 0)) (by (with_reducible repeat (first | refine blk_drewN ?_ _ | refine blk_drew ?_ | refine blk_alloc ?_ _)); exact BK247.out) hg (Kd.R_ne HO_250001.out BK247.out (by decide)))
          have n3_ := Aside0.mk (blk_grown (g := gb249) (o := .cells #[.slice Ao61 y256.length co61, u250001, .int .i64 (wrap64 (x250002_1 - (ji20)))] 24 (0, 0)) (by (with_reducible repeat (first | refine blk_drewN ?_ _ | refine blk_drew ?_ | refine blk_alloc ?_ _)); exact BK249.out) hg (Kd.R_ne HO_250001.out BK249.out (by decide)))
          have n4_ := Aside0.mk (Kd.R_after (ok := (fun k_ => some k_ ≠ (.slice (some ad253) t250.length co54 : Value).ownBlock)) (by (with_reducible repeat (first | apply Kd.R_alloc | apply Kd.R_drewN | apply Kd.R_drew)); exact HO258.out) hg hat)
          have n5_ := Aside0.mk (hb)
          have n6_ := Aside0.mk (ho)
          clear HO_5
          clear BK246
          clear BK247
          clear BK249
          clear HO258
          clear HB
          clear HO_250001
          have HO_5 := n0_
          have BK246 := n1_
          have BK247 := n2_
          have BK249 := n3_
          have HO258 := n4_
          have HB := n5_
          have HO262 := n6_
          clear n0_ n1_ n2_ n3_ n4_ n5_ n6_
          clear ho hb hg hat
          obtain ⟨Ao66, co66, eo66⟩ := Kd.R_slice HO262.out
          (first | subst eo66 | (injection eo66 with f1_ f2_ f3_; have f4_ := f1_.symm; have f5_ := f3_.symm; clear f1_ f2_ f3_; subst f4_; subst f5_))
          refine hK.out _ _ ?_
          clear hK K
          refine norm_ (a' := ?_) ?_ ?_
          rotate_left
          ·
           show Act.put _ (some 59) _ = _
           simp only [Act.put, List.setIfInBounds_toArray, List.set_cons_zero, List.set_cons_succ, i64_w, i32_w]
           rfl
          refine pure_ (i := 8) (N := some 60) (v := ?_) (a' := ?_) (bl 10 511) rfl rfl (any_of HT_.out (by kernel_rfl)) (fun _ _ _ h => h) (Or.inl ⟨by rfl, ?_⟩) ?_ ?_; rotate_left; · (intro w'; go_simp; with_reducible rfl)
          rotate_left; · (simp only [Act.put, List.setIfInBounds_toArray, List.set_cons_zero, List.set_cons_succ, i64_w, i32_w]; rfl)
          refine last_ (i := 9) (N := none) (bl 10 1023) rfl rfl (one_of HT_.out (by kernel_rfl)) (by decide) (fun K hK => ?_)
          have hs67 : w65.cell? ⟨gb249, 1, none⟩ = some (u250001) := (blk_cell BK249.out 1).trans rfl
          have hfs67 := blk_frozen BK249.out 1
          have hns67_0 := NB246_249.out
          have hns67_1 := NB247_249.out
          have hms67_0 := NB249_246.out
          have hms67_1 := NB249_247.out
          refine skip_ (w1 := ?_) (by rfl) rfl ?_ ?_
          rotate_left
          ·
           go_simp
           rfl
          refine hK.out _ _ ?_
          clear hK K
          refine done_ (done_of HT_.out (by kernel_rfl)) ?_
          try go_wp2
          go_roundg k1
          case measure => have := HK1.out; omega
          case rel => exact ⟨(wrap64 ((wrap64 (x4_1 + (ji52))) - (ji20))), (wrap64 (x6_1 + 1)), (y256), (y260), (wrap64 (x250002_1 - (ji20))), (.slice Ao61 y256.length co61), (.slice Ao66 y260.length co66), (by first | rfl | (simp; done) | (simp only [← hji20, ← hji52] <;> (first | rfl | simp)) | (simp [*]; done)), (by first | rfl | (simp; done) | (simp [*]; done)), H', ⟨by have := HK1.out; omega⟩, ⟨by (with_reducible repeat (first | apply Kd.R_alloc | apply Kd.R_drewN | apply Kd.R_drew)); exact Kd.R_mono (Kd.R_far (p := ⟨gb249, 1, none⟩) (Kd.R_types HO_5.out BK249.out (by decide)) (fun _ hk => hk.2) (.slice Ao66 y260.length co66)) (fun _ hk => ⟨hk.1.1, hk.1.2⟩)⟩, ⟨by (with_reducible repeat (first | apply Kd.R_alloc | apply Kd.R_drewN | apply Kd.R_drew)); exact Kd.R_mono (Kd.R_far (p := ⟨gb249, 1, none⟩) (Kd.R_types HO258.out BK249.out (by decide)) (fun _ hk => hk.2) (.slice Ao66 y260.length co66)) (fun _ hk => ⟨hk.1.1, hk.1.2⟩)⟩, ⟨by (with_reducible repeat (first | apply Kd.R_alloc | apply Kd.R_drewN | apply Kd.R_drew)); exact Kd.R_mono (Kd.R_far (p := ⟨gb249, 1, none⟩) (Kd.R_types HO262.out BK249.out (by decide)) (fun _ hk => hk.2) (.slice Ao66 y260.length co66)) (fun _ hk => ⟨hk.1.1, hk.1.2⟩)⟩, ⟨by (with_reducible repeat (first | refine blk_drewN ?_ _ | refine blk_drew ?_ | refine blk_alloc ?_ _)); refine blk_far ?_ NB246_249.out _; (with_reducible repeat (first | refine blk_drewN ?_ _ | refine blk_drew ?_ | refine blk_alloc ?_ _)); exact BK246.out⟩, ⟨by (with_reducible repeat (first | refine blk_drewN ?_ _ | refine blk_drew ?_ | refine blk_alloc ?_ _)); refine blk_far ?_ NB247_249.out _; (with_reducible repeat (first | refine blk_drewN ?_ _ | refine blk_drew ?_ | refine blk_alloc ?_ _)); exact BK247.out⟩, ⟨by (with_reducible repeat (first | refine blk_drewN ?_ _ | refine blk_drew ?_ | refine blk_alloc ?_ _)); refine blk_put (cs := #[.slice Ao61 y256.length co61, u250001, .int .i64 (wrap64 (x250002_1 - (ji20)))]) ?_ 1 _ rfl; (with_reducible repeat (first | refine blk_drewN ?_ _ | refine blk_drew ?_ | refine blk_alloc ?_ _)); exact BK249.out⟩, ⟨by repeat (first | (with_reducible first | exact HB.out | apply below_alloc | apply pw_below_drewN | apply below_drew1 | refine below_set ?_ GE246.out | refine below_set ?_ GE247.out | refine below_set ?_ GE249.out) | exact HB.out)⟩⟩
        ·
         rw [if_neg c23] at H
         exact absurd H (by simp)
       ·
        rw [if_neg c22] at H
        exact absurd H (by simp)
      ·
       rw [if_neg c21] at H
       have c21b0 : decide (t255 < t254) = false := decide_eq_false c21
       clear c21
       by_cases c68 : t255 > t254
       ·
        rw [if_pos c68] at H
        have c68b0 : decide (t254 < t255) = true := decide_eq_true c68
        clear c68
        by_cases c69 : x250000_1.length < 17592186044416
        ·
         rw [if_pos c69] at H
         have LMc69 := Aside0.mk c69
         clear c69
         obtain ⟨y270, hy270⟩ : ∃ y_ : List Int, y_ = (x250000_1 ++ [wrap64 (t255 - t254)]) := ⟨_, rfl⟩
         replace H : (if x250001_1.length < 17592186044416 then (chalklineref12_Norm.l0 k1 (wrap64 ((wrap64 (x4_1 + (mx t254 t255))) - (ji20))) t250 (wrap64 (x6_1 + 1)) l0_0 l0_1 a0_2 y270 (x250001_1 ++ [wrap64 (-(rd t250 x6_1))]) (wrap64 (x250002_1 - (ji20)))) else (none)) = some (r1, r2, r3) := by first | (rw [hy270]; with_reducible exact H) | (have H2_ := (Option.bind_some _ _).symm.trans H; rw [hy270]; with_reducible exact H2_) | (have H2_ := (Option.bind_some _ _).symm.trans H; with_reducible exact H2_) | with_reducible exact H | (rw [hy270]; exact H) | exact H
         have Ny270 := Aside0.mk hy270
         clear hy270
         by_cases c70 : x250001_1.length < 17592186044416
         ·
          rw [if_pos c70] at H
          have LMc70 := Aside0.mk c70
          clear c70
          obtain ⟨y274, hy274⟩ : ∃ y_ : List Int, y_ = (x250001_1 ++ [wrap64 (-(rd t250 x6_1))]) := ⟨_, rfl⟩
          replace H : (chalklineref12_Norm.l0 k1 (wrap64 ((wrap64 (x4_1 + (mx t254 t255))) - (ji20))) t250 (wrap64 (x6_1 + 1)) l0_0 l0_1 a0_2 y270 y274 (wrap64 (x250002_1 - (ji20)))) = some (r1, r2, r3) := by first | (rw [hy274]; with_reducible exact H) | (have H2_ := (Option.bind_some _ _).symm.trans H; rw [hy274]; with_reducible exact H2_) | (have H2_ := (Option.bind_some _ _).symm.trans H; with_reducible exact H2_) | with_reducible exact H | (rw [hy274]; exact H) | exact H
          have Ny274 := Aside0.mk hy274
          clear hy274
          obtain ⟨ji71, hji71⟩ : ∃ j_ : Int, (mx t254 t255) = j_ := ⟨_, rfl⟩
          replace H : (chalklineref12_Norm.l0 k1 (wrap64 ((wrap64 (x4_1 + (ji71))) - (ji20))) t250 (wrap64 (x6_1 + 1)) l0_0 l0_1 a0_2 y270 y274 (wrap64 (x250002_1 - (ji20)))) = some (r1, r2, r3) := by first | (rw [hji71] at H; exact H) | (simp only [hji71] at H ⊢; exact H)
          (try rw [hji71] at A19)
          have hji71_ : (if t254 < t255 then t255 else t254) = ji71 := hji71
          have H' := Aside0.mk H
          clear H
          obtain ⟨Ao73, co73, eo73⟩ := Kd.R_slice HO_5.out
          subst eo73
          try go_wp2
          have n0_ := Aside0.mk (Kd.R_drew HO_5.out)
          have n1_ := Aside0.mk (Kd.R_drew HO_250000.out)
          have n2_ := Aside0.mk (Kd.R_drew HO_250001.out)
          have n3_ := Aside0.mk (blk_drew BK246.out)
          have n4_ := Aside0.mk (blk_drew BK247.out)
          have n5_ := Aside0.mk (blk_drew BK249.out)
          have n6_ := Aside0.mk (below_drew1 HB.out)
          clear HO_5
          clear HO_250000
          clear HO_250001
          clear BK246
          clear BK247
          clear BK249
          clear HB
          have HO_5 := n0_
          have HO_250000 := n1_
          have HO_250001 := n2_
          have BK246 := n3_
          have BK247 := n4_
          have BK249 := n5_
          have HB := n6_
          clear n0_ n1_ n2_ n3_ n4_ n5_ n6_
          have p253 : 0 ≤ (x6_1 : Int) := of_decide_eq_true (by first | (with_reducible assumption) | assumption)
          have q253 : x6_1 < (t250.length : Int) := of_decide_eq_true (by first | (with_reducible assumption) | assumption)
          obtain ⟨ad253, e253, hx253_0⟩ := Kd.at_int (Kd.R_reads' HO_5.out).2.2 x6_1 p253 q253
          cases e253
          replace p253 := eq_true p253
          replace q253 := eq_true q253
          refine start_ (n := 11) (S := fun w' => w'.cell? ⟨gb246, 0, none⟩ = some (.slice A0_0 l0_0.length c0_0) ∧ w'.cell? ⟨gb246, 1, none⟩ = some (.slice A0_1 l0_1.length c0_1) ∧ w'.cell? ⟨gb246, 2, none⟩ = some (.int .i64 a0_2) ∧ w'.cell? (ad253.add (x6_1).toNat) = some (.int .i64 (rd t250 x6_1))) (ds := []) #[false, false, false, false, false, false, false, false, false, false, false] (by kernel_rfl) rfl rfl ⟨(blk_cell BK246.out 0).trans rfl, (blk_cell BK246.out 1).trans rfl, (blk_cell BK246.out 2).trans rfl, hx253_0⟩ (fun hHeld => ?_); refine with_tabW chalklineref12_Norm.tab9 chalklineref12_Norm.bits9 (fun HT_ HW_ => ?_)
          generalize wr.drew = w74 at HO_5 HO_250000 HO_250001 BK246 BK247 BK249 HB hx253_0 hHeld ⊢
          refine pure_ (i := 1) (N := some 27) (v := ?_) (a' := ?_) (bl 11 2) rfl rfl (any_of HT_.out (by kernel_rfl)) (fun _ _ _ h => h) (Or.inl ⟨by rfl, ?_⟩) ?_ ?_; rotate_left; · (intro w'; go_simp; with_reducible rfl)
          rotate_left; · (simp only [Act.put, List.setIfInBounds_toArray, List.set_cons_zero, List.set_cons_succ, i64_w, i32_w]; rfl)
          refine pure_ (i := 2) (N := some 28) (v := ?_) (a' := ?_) (bl 11 6) rfl rfl (any_of HT_.out (by kernel_rfl)) (fun _ _ _ h => h) (Or.inl ⟨by rfl, ?_⟩) ?_ ?_; rotate_left; · (intro w'; go_simp; with_reducible rfl)
          rotate_left; · (simp only [Act.put, List.setIfInBounds_toArray, List.set_cons_zero, List.set_cons_succ, i64_w, i32_w]; rfl)
          refine pure_ (i := 3) (N := some 29) (v := ?_) (a' := ?_) (bl 11 14) rfl rfl (any_of HT_.out (by kernel_rfl)) (fun _ _ _ h => h) (Or.inl ⟨by rfl, ?_⟩) ?_ ?_; rotate_left; · (intro w'; go_simp; with_reducible rfl)
          rotate_left; · (simp only [Act.put, List.setIfInBounds_toArray, List.set_cons_zero, List.set_cons_succ, i64_w, i32_w]; rfl)
          refine take_ (i := 0) (N := some 26) (v := ?_) (a' := ?_) (bl 11 15) rfl rfl (take_ofW HT_.out HW_.out (by kernel_rfl)) (fun _ _ _ h => h) (Or.inl ⟨by rfl, ?_⟩) hHeld ?_ ?_; rotate_left; · (rintro w' ⟨s0, s1, s2, s3⟩; go_simp; with_reducible rfl)
          rotate_left; · (simp only [Act.put, List.setIfInBounds_toArray, List.set_cons_zero, List.set_cons_succ, i64_w, i32_w]; rfl)
          refine take_ (i := 4) (N := some 30) (v := ?_) (a' := ?_) (bl 11 31) rfl rfl (take_ofW HT_.out HW_.out (by kernel_rfl)) (fun _ _ _ h => h) (Or.inl ⟨by rfl, ?_⟩) hHeld ?_ ?_; rotate_left; · (rintro w' ⟨s0, s1, s2, s3⟩; go_simp; with_reducible rfl)
          rotate_left; · (simp only [Act.put, List.setIfInBounds_toArray, List.set_cons_zero, List.set_cons_succ, i64_w, i32_w]; rfl)
          refine one_ (i := 5) (N := some 31) (bl 11 63) rfl rfl (one_of HT_.out (by kernel_rfl)) (by decide) (fun K hK => ?_)
          refine goes_ Try.func57 (by kernel_rfl) rfl #[.agg #[.slice A0_0 l0_0.length c0_0, .slice A0_1 l0_1.length c0_1, .int .i64 a0_2], .int .i64 (rd t250 x6_1)] (by rfl) rfl rfl (by (try simp only [List.map_toArray, List.map_cons, List.map_nil]); first | done | rfl | (simp only [List.length_drop, List.length_take]; rfl)) ?_
          with_reducible refine (chalklineref12_both.calls k1 _ _ l0_0 _ _ l0_1 a0_2 (rd t250 x6_1) t254 t255 _ ?side1 ?side2 ?side3 ?side4 A19.out).mono ?_
          (case side1 => repeat (first | exact (Kd.C_below HR0_0.out HB.out) | (with_reducible refine Kd.C_alloc ?_ _) | (with_reducible refine Kd.C_drewN ?_ _) | (with_reducible refine Kd.C_drew ?_)))
          (case side2 => exact HC0_0.out)
          (case side3 => repeat (first | exact (Kd.C_below HR0_1.out HB.out) | (with_reducible refine Kd.C_alloc ?_ _) | (with_reducible refine Kd.C_drewN ?_ _) | (with_reducible refine Kd.C_drew ?_)))
          (case side4 => exact HC0_1.out)
          rintro e w75 ⟨rfl, hb⟩
          have HS3_ := (hb.cell (World.block_lt_of_cell? _ _ (hHeld.2.2.2))).trans (hHeld.2.2.2)
          refine ⟨_, rfl, ?_⟩
          have n0_ := Aside0.mk (Kd.R_below (by (with_reducible repeat (first | apply Kd.R_alloc | apply Kd.R_drewN | apply Kd.R_drew)); exact HO_5.out) hb)
          have n1_ := Aside0.mk (Kd.R_below (by (with_reducible repeat (first | apply Kd.R_alloc | apply Kd.R_drewN | apply Kd.R_drew)); exact HO_250000.out) hb)
          have n2_ := Aside0.mk (Kd.R_below (by (with_reducible repeat (first | apply Kd.R_alloc | apply Kd.R_drewN | apply Kd.R_drew)); exact HO_250001.out) hb)
          have n3_ := Aside0.mk (blk_below (g := gb246) (o := .cells #[.slice A0_0 l0_0.length c0_0, .slice A0_1 l0_1.length c0_1, .int .i64 a0_2] 24 (0, 0)) (by (with_reducible repeat (first | refine blk_drewN ?_ _ | refine blk_drew ?_ | refine blk_alloc ?_ _)); exact BK246.out) hb)
          have n4_ := Aside0.mk (blk_below (g := gb247) (o := .cells #[.slice none 0 0, .slice none 0 0, .int .i64 0] 24 (0, 0)) (by (with_reducible repeat (first | refine blk_drewN ?_ _ | refine blk_drew ?_ | refine blk_alloc ?_ _)); exact BK247.out) hb)
          have n5_ := Aside0.mk (blk_below (g := gb249) (o := .cells #[u250000, u250001, .int .i64 x250002_1] 24 (0, 0)) (by (with_reducible repeat (first | refine blk_drewN ?_ _ | refine blk_drew ?_ | refine blk_alloc ?_ _)); exact BK249.out) hb)
          have n6_ := Aside0.mk (below_step (by repeat (first | (with_reducible first | exact HB.out | apply below_alloc | apply pw_below_drewN | apply below_drew1 | refine below_set ?_ GE246.out | refine below_set ?_ GE247.out | refine below_set ?_ GE249.out) | exact HB.out)) hb)
          clear HO_5
          clear HO_250000
          clear HO_250001
          clear BK246
          clear BK247
          clear BK249
          clear HB
          have HO_5 := n0_
          have HO_250000 := n1_
          have HO_250001 := n2_
          have BK246 := n3_
          have BK247 := n4_
          have BK249 := n5_
          have HB := n6_
          clear n0_ n1_ n2_ n3_ n4_ n5_ n6_
          (try clear hb)
          (try clear hb2)
          (try clear hk)
          (try clear hi)
          refine hK.out _ _ ⟨(blk_cell BK246.out 0).trans rfl, (blk_cell BK246.out 1).trans rfl, (blk_cell BK246.out 2).trans rfl, HS3_⟩ (fun hHeld => ?_)
          clear hK K
          refine norm_ (a' := ?_) ?_ ?_
          rotate_left
          ·
           show Act.put _ (some 31) _ = _
           simp only [Act.put, List.setIfInBounds_toArray, List.set_cons_zero, List.set_cons_succ, i64_w, i32_w]
           rfl
          refine pure_ (i := 6) (N := some 25) (v := ?_) (a' := ?_) (bl 11 127) rfl rfl (any_of HT_.out (by kernel_rfl)) (fun _ _ _ h => h) (Or.inl ⟨by rfl, ?_⟩) ?_ ?_; rotate_left; · (intro w'; go_simp; with_reducible rfl)
          rotate_left; · (simp only [Act.put, List.setIfInBounds_toArray, List.set_cons_zero, List.set_cons_succ, i64_w, i32_w]; rfl)
          refine pure_ (i := 7) (N := some 32) (v := ?_) (a' := ?_) (bl 11 255) rfl rfl (any_of HT_.out (by kernel_rfl)) (fun _ _ _ h => h) (Or.inl ⟨by rfl, ?_⟩) ?_ ?_; rotate_left; · (intro w'; go_simp; with_reducible rfl)
          rotate_left; · (simp only [Act.put, List.setIfInBounds_toArray, List.set_cons_zero, List.set_cons_succ, i64_w, i32_w]; rfl)
          refine pure_ (i := 8) (N := some 33) (v := ?_) (a' := ?_) (bl 11 511) rfl rfl (any_of HT_.out (by kernel_rfl)) (fun _ _ _ h => h) (Or.inl ⟨by rfl, ?_⟩) ?_ ?_; rotate_left; · (intro w'; go_simp; with_reducible rfl)
          rotate_left; · (simp only [Act.put, List.setIfInBounds_toArray, List.set_cons_zero, List.set_cons_succ, i64_w, i32_w]; rfl)
          refine pure_ (i := 9) (N := some 7) (v := ?_) (a' := ?_) (bl 11 1023) rfl rfl (any_of HT_.out (by kernel_rfl)) (fun _ _ _ h => h) (Or.inl ⟨by rfl, ?_⟩) ?_ ?_; rotate_left; · (intro w'; go_simp; with_reducible rfl)
          rotate_left; · (simp only [Act.put, List.setIfInBounds_toArray, List.set_cons_zero, List.set_cons_succ, i64_w, i32_w]; rfl)
          refine pure_ (i := 10) (N := some 8) (v := ?_) (a' := ?_) (bl 11 2047) rfl rfl (any_of HT_.out (by kernel_rfl)) (fun _ _ _ h => h) (Or.inl ⟨by rfl, ?_⟩) ?_ ?_; rotate_left; · (intro w'; go_simp; with_reducible rfl)
          rotate_left; · (simp only [Act.put, List.setIfInBounds_toArray, List.set_cons_zero, List.set_cons_succ, i64_w, i32_w]; rfl)
          refine done_ (done_of HT_.out (by kernel_rfl)) ?_
          have hnb76 := NB249_246.out
          have hnc76 := NB246_249.out
          have hnb77 := NB249_247.out
          have hnc77 := NB247_249.out
          have hcz78_0 : w75.cell? ⟨gb249, 0, none⟩ = some (u250000) := (blk_cell BK249.out 0).trans rfl
          have hcz78_1 : w75.cell? ⟨gb249, 1, none⟩ = some (u250001) := (blk_cell BK249.out 1).trans rfl
          have hcz78_2 : w75.cell? ⟨gb249, 2, none⟩ = some (.int .i64 x250002_1) := (blk_cell BK249.out 2).trans rfl
          have hfz78_0 := blk_frozen BK249.out 0
          have hfz78_1 := blk_frozen BK249.out 1
          have hfz78_2 := blk_frozen BK249.out 2
          try go_wp2_with (first | ((with_reducible refine gate_builtin (b := .append) (xs := #[.tmp 65, .tmp 69]) rfl ?_); at_builtin; refine Kd.R_append (Kd.int .i64) (w0 := w) w.heap.size rfl (.tmp 65) (.tmp 69) 22 3 (.int .i64 0) 8 rfl Try.underlying22 info3 rfl (by decide) (by omega) u250000 x250000_1 (wrap64 (t255 - t254)) [.int .i64 (wrap64 (t255 - t254))] (fun k_ => some k_ ≠ (.slice (some ad253) t250.length co73 : Value).ownBlock ∧ some k_ ≠ (u250001 : Value).ownBlock) (fun _ => False) rfl (by first | (go_simp; done) | (go_simp; rfl)) ?aP (fun _ hk => hk.elim) ?aF ?aO ?aB ?aS ?aL ?_; (case aP => exact rfl); (case aB => exact (by repeat (first | (with_reducible first | exact HB.out | apply below_alloc | apply pw_below_drewN | apply below_drew1 | refine below_set ?_ GE246.out | refine below_set ?_ GE247.out | refine below_set ?_ GE249.out) | exact HB.out))); (case aF => exact (fun k_ hk => ⟨Kd.fresh' (Kd.R_lt (by (with_reducible repeat (first | apply Kd.R_alloc | apply Kd.R_drewN | apply Kd.R_drew)); exact (Kd.R_mono (Kd.R_far (p := ⟨gb249, 2, none⟩) (Kd.R_types HO_5.out BK249.out (by decide)) (fun _ hk => hk.2) (.int .i64 (wrap64 (x250002_1 - (ji20))))) (fun _ h_ => h_.1)))) k_ hk, Kd.fresh' (Kd.R_lt (by (with_reducible repeat (first | apply Kd.R_alloc | apply Kd.R_drewN | apply Kd.R_drew)); exact (Kd.R_mono (Kd.R_far (p := ⟨gb249, 2, none⟩) (Kd.R_types HO_250001.out BK249.out (by decide)) (fun _ hk => hk.2) (.int .i64 (wrap64 (x250002_1 - (ji20))))) (fun _ h_ => h_.1)))) k_ hk⟩)); (case aO => exact (by (with_reducible repeat (first | apply Kd.R_alloc | apply Kd.R_drewN | apply Kd.R_drew)); exact Kd.R_mono (Kd.R_far (p := ⟨gb249, 2, none⟩) (Kd.R_types HO_250000.out BK249.out (by decide)) (fun _ hk => hk.2) (.int .i64 (wrap64 (x250002_1 - (ji20))))) (fun _ hk => ⟨hk.1.1, hk.1.2⟩))); (case aS => exact (below_size (by repeat (first | (with_reducible first | exact HB.out | apply below_alloc | apply pw_below_drewN | apply below_drew1 | refine below_set ?_ GE246.out | refine below_set ?_ GE247.out | refine below_set ?_ GE249.out) | exact HB.out)))); (case aL => have := LMc69.out; omega); intro v271 w79 ho hb hg hat; rw [← Ny270.out] at ho; have n0_ := Aside0.mk (Kd.R_after (ok := (fun k_ => some k_ ≠ (u250001 : Value).ownBlock)) (by (with_reducible repeat (first | apply Kd.R_alloc | apply Kd.R_drewN | apply Kd.R_drew)); exact Kd.R_mono (Kd.R_far (p := ⟨gb249, 2, none⟩) (Kd.R_types HO_5.out BK249.out (by decide)) (fun _ hk => hk.2) (.int .i64 (wrap64 (x250002_1 - (ji20))))) (fun _ hk => ⟨hk.1.2, hk.1.1⟩)) hg hat); have n1_ := Aside0.mk (Kd.R_after (ok := (fun k_ => some k_ ≠ (.slice (some ad253) t250.length co73 : Value).ownBlock)) (by (with_reducible repeat (first | apply Kd.R_alloc | apply Kd.R_drewN | apply Kd.R_drew)); exact Kd.R_mono (Kd.R_far (p := ⟨gb249, 2, none⟩) (Kd.R_types HO_250001.out BK249.out (by decide)) (fun _ hk => hk.2) (.int .i64 (wrap64 (x250002_1 - (ji20))))) (fun _ hk => ⟨hk.1.1, hk.1.2⟩)) hg hat); have n2_ := Aside0.mk (blk_grown (g := gb246) (o := .cells #[.slice A0_0 l0_0.length c0_0, .slice A0_1 l0_1.length c0_1, .int .i64 a0_2] 24 (0, 0)) (by (with_reducible repeat (first | refine blk_drewN ?_ _ | refine blk_drew ?_ | refine blk_alloc ?_ _)); refine blk_far ?_ NB246_249.out _; (with_reducible repeat (first | refine blk_drewN ?_ _ | refine blk_drew ?_ | refine blk_alloc ?_ _)); exact BK246.out) hg (Kd.R_ne HO_250000.out BK246.out (by decide))); have n3_ := Aside0.mk (blk_grown (g := gb247) (o := .cells #[.slice none 0 0, .slice none 0 0, .int .i64 0] 24 (0, 0)) (by (with_reducible repeat (first | refine blk_drewN ?_ _ | refine blk_drew ?_ | refine blk_alloc ?_ _)); refine blk_far ?_ NB247_249.out _; (with_reducible repeat (first | refine blk_drewN ?_ _ | refine blk_drew ?_ | refine blk_alloc ?_ _)); exact BK247.out) hg (Kd.R_ne HO_250000.out BK247.out (by decide))); have n4_ := Aside0.mk (blk_grown (g := gb249) (o := .cells #[u250000, u250001, .int .i64 (wrap64 (x250002_1 - (ji20)))] 24 (0, 0)) (by (with_reducible repeat (first | refine blk_drewN ?_ _ | refine blk_drew ?_ | refine blk_alloc ?_ _)); refine blk_put (cs := #[u250000, u250001, .int .i64 x250002_1]) ?_ 2 _ rfl; (with_reducible repeat (first | refine blk_drewN ?_ _ | refine blk_drew ?_ | refine blk_alloc ?_ _)); exact BK249.out) hg (Kd.R_ne HO_250000.out BK249.out (by decide))); have n5_ := Aside0.mk (hb); have n6_ := Aside0.mk (ho); clear HO_5; clear HO_250001; clear BK246; clear BK247; clear BK249; clear HB; clear HO_250000; have HO_5 := n0_; have HO_250001 := n1_; have BK246 := n2_; have BK247 := n3_; have BK249 := n4_; have HB := n5_; have HO272 := n6_; clear n0_ n1_ n2_ n3_ n4_ n5_ n6_; clear ho hb hg hat; obtain ⟨Ao80, co80, eo80⟩ := Kd.R_slice HO272.out; subst eo80; have hcz81_0 : w79.cell? ⟨gb249, 0, none⟩ = some (u250000) := (blk_cell BK249.out 0).trans rfl; have hcz81_1 : w79.cell? ⟨gb249, 1, none⟩ = some (u250001) := (blk_cell BK249.out 1).trans rfl; have hcz81_2 : w79.cell? ⟨gb249, 2, none⟩ = some (.int .i64 (wrap64 (x250002_1 - (ji20)))) := (blk_cell BK249.out 2).trans rfl; have hfz81_0 := blk_frozen BK249.out 0; have hfz81_1 := blk_frozen BK249.out 1; have hfz81_2 := blk_frozen BK249.out 2))
          have n0_ : Aside0 (Kd.R (Kd.int .i64) 3 (w79.setCell ⟨gb249, 0, none⟩ (.slice Ao80 y270.length co80)) w.heap.size (fun k_ => some k_ ≠ (u250001 : Value).ownBlock ∧ some k_ ≠ (.slice Ao80 y270.length co80 : Value).ownBlock) (.slice (some ad253) t250.length co73) t250) := ⟨by (with_reducible repeat (first | apply Kd.R_alloc | apply Kd.R_drewN | apply Kd.R_drew)); exact Kd.R_mono (Kd.R_far (p := ⟨gb249, 0, none⟩) (Kd.R_types HO_5.out BK249.out (by decide)) (fun _ hk => hk.2) (.slice Ao80 y270.length co80)) (fun _ hk => ⟨hk.1.1, hk.1.2⟩)⟩
          have n1_ : Aside0 (Kd.R (Kd.int .i64) 3 (w79.setCell ⟨gb249, 0, none⟩ (.slice Ao80 y270.length co80)) w.heap.size (fun k_ => some k_ ≠ (.slice (some ad253) t250.length co73 : Value).ownBlock ∧ some k_ ≠ (.slice Ao80 y270.length co80 : Value).ownBlock) u250001 x250001_1) := ⟨by (with_reducible repeat (first | apply Kd.R_alloc | apply Kd.R_drewN | apply Kd.R_drew)); exact Kd.R_mono (Kd.R_far (p := ⟨gb249, 0, none⟩) (Kd.R_types HO_250001.out BK249.out (by decide)) (fun _ hk => hk.2) (.slice Ao80 y270.length co80)) (fun _ hk => ⟨hk.1.1, hk.1.2⟩)⟩
          have n2_ : Aside0 (Kd.R (Kd.int .i64) 3 (w79.setCell ⟨gb249, 0, none⟩ (.slice Ao80 y270.length co80)) w.heap.size (fun k_ => some k_ ≠ (.slice (some ad253) t250.length co73 : Value).ownBlock ∧ some k_ ≠ (u250001 : Value).ownBlock) (.slice Ao80 y270.length co80) y270) := ⟨by (with_reducible repeat (first | apply Kd.R_alloc | apply Kd.R_drewN | apply Kd.R_drew)); exact Kd.R_mono (Kd.R_far (p := ⟨gb249, 0, none⟩) (Kd.R_types HO272.out BK249.out (by decide)) (fun _ hk => hk.2) (.slice Ao80 y270.length co80)) (fun _ hk => ⟨hk.1.1, hk.1.2⟩)⟩
          have n3_ : Aside0 ((w79.setCell ⟨gb249, 0, none⟩ (.slice Ao80 y270.length co80)).heap[gb246]? = some (.cells #[.slice A0_0 l0_0.length c0_0, .slice A0_1 l0_1.length c0_1, .int .i64 a0_2] 24 (0, 0))) := ⟨by (with_reducible repeat (first | refine blk_drewN ?_ _ | refine blk_drew ?_ | refine blk_alloc ?_ _)); refine blk_far ?_ NB246_249.out _; (with_reducible repeat (first | refine blk_drewN ?_ _ | refine blk_drew ?_ | refine blk_alloc ?_ _)); exact BK246.out⟩
          have n4_ : Aside0 ((w79.setCell ⟨gb249, 0, none⟩ (.slice Ao80 y270.length co80)).heap[gb247]? = some (.cells #[.slice none 0 0, .slice none 0 0, .int .i64 0] 24 (0, 0))) := ⟨by (with_reducible repeat (first | refine blk_drewN ?_ _ | refine blk_drew ?_ | refine blk_alloc ?_ _)); refine blk_far ?_ NB247_249.out _; (with_reducible repeat (first | refine blk_drewN ?_ _ | refine blk_drew ?_ | refine blk_alloc ?_ _)); exact BK247.out⟩
          have n5_ : Aside0 ((w79.setCell ⟨gb249, 0, none⟩ (.slice Ao80 y270.length co80)).heap[gb249]? = some (.cells #[.slice Ao80 y270.length co80, u250001, .int .i64 (wrap64 (x250002_1 - (ji20)))] 24 (0, 0))) := ⟨by (with_reducible repeat (first | refine blk_drewN ?_ _ | refine blk_drew ?_ | refine blk_alloc ?_ _)); refine blk_put (cs := #[u250000, u250001, .int .i64 (wrap64 (x250002_1 - (ji20)))]) ?_ 0 _ rfl; (with_reducible repeat (first | refine blk_drewN ?_ _ | refine blk_drew ?_ | refine blk_alloc ?_ _)); exact BK249.out⟩
          have n6_ : Aside0 (Below w.heap.size w (w79.setCell ⟨gb249, 0, none⟩ (.slice Ao80 y270.length co80))) := ⟨by repeat (first | (with_reducible first | exact HB.out | apply below_alloc | apply pw_below_drewN | apply below_drew1 | refine below_set ?_ GE246.out | refine below_set ?_ GE247.out | refine below_set ?_ GE249.out) | exact HB.out)⟩
          (try clear HO_5)
          (try clear HO_250001)
          (try clear HO272)
          (try clear BK246)
          (try clear BK247)
          (try clear BK249)
          (try clear HB)
          generalize (w79.setCell ⟨gb249, 0, none⟩ (.slice Ao80 y270.length co80)) = w82 at n0_ n1_ n2_ n3_ n4_ n5_ n6_ ⊢
          have HO_5 := n0_
          have HO_250001 := n1_
          have HO272 := n2_
          have BK246 := n3_
          have BK247 := n4_
          have BK249 := n5_
          have HB := n6_
          clear n0_ n1_ n2_ n3_ n4_ n5_ n6_
          have n0_ := Aside0.mk (Kd.R_drew HO_5.out)
          have n1_ := Aside0.mk (Kd.R_drew HO_250001.out)
          have n2_ := Aside0.mk (Kd.R_drew HO272.out)
          have n3_ := Aside0.mk (blk_drew BK246.out)
          have n4_ := Aside0.mk (blk_drew BK247.out)
          have n5_ := Aside0.mk (blk_drew BK249.out)
          have n6_ := Aside0.mk (below_drew1 HB.out)
          clear HO_5
          clear HO_250001
          clear HO272
          clear BK246
          clear BK247
          clear BK249
          clear HB
          have HO_5 := n0_
          have HO_250001 := n1_
          have HO272 := n2_
          have BK246 := n3_
          have BK247 := n4_
          have BK249 := n5_
          have HB := n6_
          clear n0_ n1_ n2_ n3_ n4_ n5_ n6_
          have p273 : 0 ≤ (x6_1 : Int) := of_decide_eq_true (by first | (with_reducible assumption) | assumption)
          have q273 : x6_1 < (t250.length : Int) := of_decide_eq_true (by first | (with_reducible assumption) | assumption)
          obtain ⟨ad273, e273, hx273_0⟩ := Kd.at_int (Kd.R_reads' HO_5.out).2.2 x6_1 p273 q273
          obtain rfl : ad253 = ad273 := (by injection e273)
          replace p273 := eq_true p273
          replace q273 := eq_true q273
          refine start_ (n := 11) (S := fun w' => w'.cell? ⟨gb249, 0, none⟩ = some (.slice Ao80 y270.length co80) ∧ w'.cell? ⟨gb249, 1, none⟩ = some (u250001) ∧ w'.cell? ⟨gb249, 2, none⟩ = some (.int .i64 (wrap64 (x250002_1 - (ji20)))) ∧ w'.cell? (ad253.add (x6_1).toNat) = some (.int .i64 (rd t250 x6_1))) (ds := [8, 10]) #[false, false, false, false, false, false, false, false, false, false, false] (by kernel_rfl) rfl rfl ⟨(blk_cell BK249.out 0).trans rfl, (blk_cell BK249.out 1).trans rfl, (blk_cell BK249.out 2).trans rfl, hx273_0⟩ (fun hHeld => ?_); refine with_tabW chalklineref12_Norm.tab16 chalklineref12_Norm.bits16 (fun HT_ HW_ => ?_)
          generalize w82.drew = w83 at HO_5 HO_250001 HO272 BK246 BK247 BK249 HB hx273_0 hHeld ⊢
          refine pure_ (i := 0) (N := some 72) (v := ?_) (a' := ?_) (bl 11 1) rfl rfl (any_of HT_.out (by kernel_rfl)) (fun _ _ _ h => h) (Or.inl ⟨by rfl, ?_⟩) ?_ ?_; rotate_left; · (intro w'; go_simp; with_reducible rfl)
          rotate_left; · (simp only [Act.put, List.setIfInBounds_toArray, List.set_cons_zero, List.set_cons_succ, i64_w, i32_w]; rfl)
          refine pure_ (i := 2) (N := some 74) (v := ?_) (a' := ?_) (bl 11 5) rfl rfl (any_of HT_.out (by kernel_rfl)) (fun _ _ _ h => h) (Or.inl ⟨by rfl, ?_⟩) ?_ ?_; rotate_left; · (intro w'; go_simp; with_reducible rfl)
          rotate_left; · (simp only [Act.put, List.setIfInBounds_toArray, List.set_cons_zero, List.set_cons_succ, i64_w, i32_w]; rfl)
          refine pure_ (i := 3) (N := some 75) (v := ?_) (a' := ?_) (bl 11 13) rfl rfl (any_of HT_.out (by kernel_rfl)) (fun _ _ _ h => h) (Or.inl ⟨by rfl, ?_⟩) ?_ ?_; rotate_left; · (intro w'; go_simp; with_reducible rfl)
          rotate_left; · (simp only [Act.put, List.setIfInBounds_toArray, List.set_cons_zero, List.set_cons_succ, i64_w, i32_w]; rfl)
          refine pure_ (i := 4) (N := some 76) (v := ?_) (a' := ?_) (bl 11 29) rfl rfl (any_of HT_.out (by kernel_rfl)) (fun _ _ _ h => h) (Or.inl ⟨by rfl, ?_⟩) ?_ ?_; rotate_left; · (intro w'; go_simp; with_reducible rfl)
          rotate_left; · (simp only [Act.put, List.setIfInBounds_toArray, List.set_cons_zero, List.set_cons_succ, i64_w, i32_w]; rfl)
          refine take_ (i := 1) (N := some 73) (v := ?_) (a' := ?_) (bl 11 31) rfl rfl (take_ofW HT_.out HW_.out (by kernel_rfl)) (fun _ _ _ h => h) (Or.inl ⟨by rfl, ?_⟩) hHeld ?_ ?_; rotate_left; · (rintro w' ⟨s0, s1, s2, s3⟩; go_simp; with_reducible rfl)
          rotate_left; · (simp only [Act.put, List.setIfInBounds_toArray, List.set_cons_zero, List.set_cons_succ, i64_w, i32_w]; rfl)
          refine take_ (i := 5) (N := some 77) (v := ?_) (a' := ?_) (bl 11 63) rfl rfl (take_ofW HT_.out HW_.out (by kernel_rfl)) (fun _ _ _ h => h) (Or.inl ⟨by rfl, ?_⟩) hHeld ?_ ?_; rotate_left; · (rintro w' ⟨s0, s1, s2, s3⟩; go_simp; with_reducible rfl)
          rotate_left; · (simp only [Act.put, List.setIfInBounds_toArray, List.set_cons_zero, List.set_cons_succ, i64_w, i32_w]; rfl)
          refine pure_ (i := 6) (N := some 78) (v := ?_) (a' := ?_) (bl 11 127) rfl rfl (any_of HT_.out (by kernel_rfl)) (fun _ _ _ h => h) (Or.inl ⟨by rfl, ?_⟩) ?_ ?_; rotate_left; · (intro w'; go_simp; with_reducible rfl)
          rotate_left; · (simp only [Act.put, List.setIfInBounds_toArray, List.set_cons_zero, List.set_cons_succ, i64_w, i32_w]; rfl)
          refine one_ (i := 7) (N := some 79) (bl 11 255) rfl rfl (one_of HT_.out (by kernel_rfl)) (by decide) (fun K hK => ?_)
          refine value_ (w1 := ?_) (v := ?_) (by rfl) rfl ?_ ?_
          rotate_left 2
          ·
           go_simp
           constructor
           ·
            rfl
           ·
            rfl
          refine hK.out _ _ ⟨(blk_cell (blk_alloc BK249.out _) 0).trans rfl, (blk_cell (blk_alloc BK249.out _) 1).trans rfl, (blk_cell (blk_alloc BK249.out _) 2).trans rfl, (World.cell?_alloc_lt _ _ _ (World.block_lt_of_cell? _ _ (hHeld.2.2.2))).trans (hHeld.2.2.2)⟩ (fun hHeld => ?_)
          clear hK K
          refine norm_ (a' := ?_) ?_ ?_
          rotate_left
          ·
           show Act.put _ (some 79) _ = _
           simp only [Act.put, List.setIfInBounds_toArray, List.set_cons_zero, List.set_cons_succ, i64_w, i32_w]
           rfl
          refine last_ (i := 8) (N := some 80) (bl 11 511) rfl rfl (one_of HT_.out (by kernel_rfl)) (by decide) (fun K hK => ?_)
          refine Kd.R_append_step (Kd.int .i64) (w0 := w) w.heap.size (by rfl) (.tmp 73) (.tmp 79) 22 3 (.int .i64 0) 8 rfl Try.underlying22 info3 rfl (by decide) (by omega) u250001 x250001_1 (wrap64 (-(rd t250 x6_1))) [.int .i64 (wrap64 (-(rd t250 x6_1)))] (fun k_ => some k_ ≠ (.slice (some ad253) t250.length co73 : Value).ownBlock ∧ some k_ ≠ (.slice Ao80 y270.length co80 : Value).ownBlock) (fun _ => False) rfl rfl ?aP (fun _ hk => hk.elim) ?aF ?aO ?aB ?aS ?aL ?_
          (case aP => exact rfl)
          (case aB => exact (by repeat (first | (with_reducible first | exact HB.out | apply below_alloc | apply pw_below_drewN | apply below_drew1 | refine below_set ?_ GE246.out | refine below_set ?_ GE247.out | refine below_set ?_ GE249.out) | exact HB.out)))
          (case aF => exact (fun k_ hk => ⟨Kd.fresh' (Kd.R_lt (by (with_reducible repeat (first | apply Kd.R_alloc | apply Kd.R_drewN | apply Kd.R_drew)); exact HO_5.out)) k_ hk, Kd.fresh' (Kd.R_lt (by (with_reducible repeat (first | apply Kd.R_alloc | apply Kd.R_drewN | apply Kd.R_drew)); exact HO272.out)) k_ hk⟩))
          (case aO => exact (by (with_reducible repeat (first | apply Kd.R_alloc | apply Kd.R_drewN | apply Kd.R_drew)); exact HO_250001.out))
          (case aS => exact (below_size (by repeat (first | (with_reducible first | exact HB.out | apply below_alloc | apply pw_below_drewN | apply below_drew1 | refine below_set ?_ GE246.out | refine below_set ?_ GE247.out | refine below_set ?_ GE249.out) | exact HB.out))))
          (case aL => have := LMc70.out; omega)
          intro v275 w84 ho hb hg hat
          rw [← Ny274.out] at ho
          have n0_ := Aside0.mk (Kd.R_after (ok := (fun k_ => some k_ ≠ (.slice Ao80 y270.length co80 : Value).ownBlock)) (by (with_reducible repeat (first | apply Kd.R_alloc | apply Kd.R_drewN | apply Kd.R_drew)); exact Kd.R_mono HO_5.out (fun _ hk => ⟨hk.2, hk.1⟩)) hg hat)
          have n1_ := Aside0.mk (blk_grown (g := gb246) (o := .cells #[.slice A0_0 l0_0.length c0_0, .slice A0_1 l0_1.length c0_1, .int .i64 a0_2] 24 (0, 0)) (by (with_reducible repeat (first | refine blk_drewN ?_ _ | refine blk_drew ?_ | refine blk_alloc ?_ _)); exact BK246.out) hg (Kd.R_ne HO_250001.out BK246.out (by decide)))
          have n2_ := Aside0.mk (blk_grown (g := gb247) (o := .cells #[.slice none 0 0, .slice none 0 0, .int .i64 0] 24 (0, 0)) (by (with_reducible repeat (first | refine blk_drewN ?_ _ | refine blk_drew ?_ | refine blk_alloc ?_ _)); exact BK247.out) hg (Kd.R_ne HO_250001.out BK247.out (by decide)))
          have n3_ := Aside0.mk (blk_grown (g := gb249) (o := .cells #[.slice Ao80 y270.length co80, u250001, .int .i64 (wrap64 (x250002_1 - (ji20)))] 24 (0, 0)) (by (with_reducible repeat (first | refine blk_drewN ?_ _ | refine blk_drew ?_ | refine blk_alloc ?_ _)); exact BK249.out) hg (Kd.R_ne HO_250001.out BK249.out (by decide)))
          have n4_ := Aside0.mk (Kd.R_after (ok := (fun k_ => some k_ ≠ (.slice (some ad253) t250.length co73 : Value).ownBlock)) (by (with_reducible repeat (first | apply Kd.R_alloc | apply Kd.R_drewN | apply Kd.R_drew)); exact HO272.out) hg hat)
          have n5_ := Aside0.mk (hb)
          have n6_ := Aside0.mk (ho)
          clear HO_5
          clear BK246
          clear BK247
          clear BK249
          clear HO272
          clear HB
          clear HO_250001
          have HO_5 := n0_
          have BK246 := n1_
          have BK247 := n2_
          have BK249 := n3_
          have HO272 := n4_
          have HB := n5_
          have HO276 := n6_
          clear n0_ n1_ n2_ n3_ n4_ n5_ n6_
          clear ho hb hg hat
          obtain ⟨Ao85, co85, eo85⟩ := Kd.R_slice HO276.out
          (first | subst eo85 | (injection eo85 with f1_ f2_ f3_; have f4_ := f1_.symm; have f5_ := f3_.symm; clear f1_ f2_ f3_; subst f4_; subst f5_))
          refine hK.out _ _ ?_
          clear hK K
          refine norm_ (a' := ?_) ?_ ?_
          rotate_left
          ·
           show Act.put _ (some 80) _ = _
           simp only [Act.put, List.setIfInBounds_toArray, List.set_cons_zero, List.set_cons_succ, i64_w, i32_w]
           rfl
          refine pure_ (i := 9) (N := some 81) (v := ?_) (a' := ?_) (bl 11 1023) rfl rfl (any_of HT_.out (by kernel_rfl)) (fun _ _ _ h => h) (Or.inl ⟨by rfl, ?_⟩) ?_ ?_; rotate_left; · (intro w'; go_simp; with_reducible rfl)
          rotate_left; · (simp only [Act.put, List.setIfInBounds_toArray, List.set_cons_zero, List.set_cons_succ, i64_w, i32_w]; rfl)
          refine last_ (i := 10) (N := none) (bl 11 2047) rfl rfl (one_of HT_.out (by kernel_rfl)) (by decide) (fun K hK => ?_)
          have hs86 : w84.cell? ⟨gb249, 1, none⟩ = some (u250001) := (blk_cell BK249.out 1).trans rfl
          have hfs86 := blk_frozen BK249.out 1
          have hns86_0 := NB246_249.out
          have hns86_1 := NB247_249.out
          have hms86_0 := NB249_246.out
          have hms86_1 := NB249_247.out
          refine skip_ (w1 := ?_) (by rfl) rfl ?_ ?_
          rotate_left
          ·
           go_simp
           rfl
          refine hK.out _ _ ?_
          clear hK K
          refine done_ (done_of HT_.out (by kernel_rfl)) ?_
          try go_wp2
          go_roundg k1
          case measure => have := HK1.out; omega
          case rel => exact ⟨(wrap64 ((wrap64 (x4_1 + (ji71))) - (ji20))), (wrap64 (x6_1 + 1)), (y270), (y274), (wrap64 (x250002_1 - (ji20))), (.slice Ao80 y270.length co80), (.slice Ao85 y274.length co85), (by first | rfl | (simp; done) | (simp only [← hji20, ← hji71] <;> (first | rfl | simp)) | (simp [*]; done)), (by first | rfl | (simp; done) | (simp [*]; done)), H', ⟨by have := HK1.out; omega⟩, ⟨by (with_reducible repeat (first | apply Kd.R_alloc | apply Kd.R_drewN | apply Kd.R_drew)); exact Kd.R_mono (Kd.R_far (p := ⟨gb249, 1, none⟩) (Kd.R_types HO_5.out BK249.out (by decide)) (fun _ hk => hk.2) (.slice Ao85 y274.length co85)) (fun _ hk => ⟨hk.1.1, hk.1.2⟩)⟩, ⟨by (with_reducible repeat (first | apply Kd.R_alloc | apply Kd.R_drewN | apply Kd.R_drew)); exact Kd.R_mono (Kd.R_far (p := ⟨gb249, 1, none⟩) (Kd.R_types HO272.out BK249.out (by decide)) (fun _ hk => hk.2) (.slice Ao85 y274.length co85)) (fun _ hk => ⟨hk.1.1, hk.1.2⟩)⟩, ⟨by (with_reducible repeat (first | apply Kd.R_alloc | apply Kd.R_drewN | apply Kd.R_drew)); exact Kd.R_mono (Kd.R_far (p := ⟨gb249, 1, none⟩) (Kd.R_types HO276.out BK249.out (by decide)) (fun _ hk => hk.2) (.slice Ao85 y274.length co85)) (fun _ hk => ⟨hk.1.1, hk.1.2⟩)⟩, ⟨by (with_reducible repeat (first | refine blk_drewN ?_ _ | refine blk_drew ?_ | refine blk_alloc ?_ _)); refine blk_far ?_ NB246_249.out _; (with_reducible repeat (first | refine blk_drewN ?_ _ | refine blk_drew ?_ | refine blk_alloc ?_ _)); exact BK246.out⟩, ⟨by (with_reducible repeat (first | refine blk_drewN ?_ _ | refine blk_drew ?_ | refine blk_alloc ?_ _)); refine blk_far ?_ NB247_249.out _; (with_reducible repeat (first | refine blk_drewN ?_ _ | refine blk_drew ?_ | refine blk_alloc ?_ _)); exact BK247.out⟩, ⟨by (with_reducible repeat (first | refine blk_drewN ?_ _ | refine blk_drew ?_ | refine blk_alloc ?_ _)); refine blk_put (cs := #[.slice Ao80 y270.length co80, u250001, .int .i64 (wrap64 (x250002_1 - (ji20)))]) ?_ 1 _ rfl; (with_reducible repeat (first | refine blk_drewN ?_ _ | refine blk_drew ?_ | refine blk_alloc ?_ _)); exact BK249.out⟩, ⟨by repeat (first | (with_reducible first | exact HB.out | apply below_alloc | apply pw_below_drewN | apply below_drew1 | refine below_set ?_ GE246.out | refine below_set ?_ GE247.out | refine below_set ?_ GE249.out) | exact HB.out)⟩⟩
         ·
          rw [if_neg c70] at H
          exact absurd H (by simp)
        ·
         rw [if_neg c69] at H
         exact absurd H (by simp)
       ·
        rw [if_neg c68] at H
        have c68b0 : decide (t254 < t255) = false := decide_eq_false c68
        clear c68
        obtain ⟨ji87, hji87⟩ : ∃ j_ : Int, (mx t254 t255) = j_ := ⟨_, rfl⟩
        replace H : (chalklineref12_Norm.l0 k1 (wrap64 ((wrap64 (x4_1 + (ji87))) - (ji20))) t250 (wrap64 (x6_1 + 1)) l0_0 l0_1 a0_2 x250000_1 x250001_1 (wrap64 (x250002_1 - (ji20)))) = some (r1, r2, r3) := by first | (rw [hji87] at H; exact H) | (simp only [hji87] at H ⊢; exact H)
        (try rw [hji87] at A19)
        have hji87_ : (if t254 < t255 then t255 else t254) = ji87 := hji87
        have H' := Aside0.mk H
        clear H
        obtain ⟨Ao89, co89, eo89⟩ := Kd.R_slice HO_5.out
        subst eo89
        try go_wp2
        have n0_ := Aside0.mk (Kd.R_drew HO_5.out)
        have n1_ := Aside0.mk (Kd.R_drew HO_250000.out)
        have n2_ := Aside0.mk (Kd.R_drew HO_250001.out)
        have n3_ := Aside0.mk (blk_drew BK246.out)
        have n4_ := Aside0.mk (blk_drew BK247.out)
        have n5_ := Aside0.mk (blk_drew BK249.out)
        have n6_ := Aside0.mk (below_drew1 HB.out)
        clear HO_5
        clear HO_250000
        clear HO_250001
        clear BK246
        clear BK247
        clear BK249
        clear HB
        have HO_5 := n0_
        have HO_250000 := n1_
        have HO_250001 := n2_
        have BK246 := n3_
        have BK247 := n4_
        have BK249 := n5_
        have HB := n6_
        clear n0_ n1_ n2_ n3_ n4_ n5_ n6_
        have p253 : 0 ≤ (x6_1 : Int) := of_decide_eq_true (by first | (with_reducible assumption) | assumption)
        have q253 : x6_1 < (t250.length : Int) := of_decide_eq_true (by first | (with_reducible assumption) | assumption)
        obtain ⟨ad253, e253, hx253_0⟩ := Kd.at_int (Kd.R_reads' HO_5.out).2.2 x6_1 p253 q253
        cases e253
        replace p253 := eq_true p253
        replace q253 := eq_true q253
        refine start_ (n := 11) (S := fun w' => w'.cell? ⟨gb246, 0, none⟩ = some (.slice A0_0 l0_0.length c0_0) ∧ w'.cell? ⟨gb246, 1, none⟩ = some (.slice A0_1 l0_1.length c0_1) ∧ w'.cell? ⟨gb246, 2, none⟩ = some (.int .i64 a0_2) ∧ w'.cell? (ad253.add (x6_1).toNat) = some (.int .i64 (rd t250 x6_1))) (ds := []) #[false, false, false, false, false, false, false, false, false, false, false] (by kernel_rfl) rfl rfl ⟨(blk_cell BK246.out 0).trans rfl, (blk_cell BK246.out 1).trans rfl, (blk_cell BK246.out 2).trans rfl, hx253_0⟩ (fun hHeld => ?_); refine with_tabW chalklineref12_Norm.tab9 chalklineref12_Norm.bits9 (fun HT_ HW_ => ?_)
        generalize wr.drew = w90 at HO_5 HO_250000 HO_250001 BK246 BK247 BK249 HB hx253_0 hHeld ⊢
        refine pure_ (i := 1) (N := some 27) (v := ?_) (a' := ?_) (bl 11 2) rfl rfl (any_of HT_.out (by kernel_rfl)) (fun _ _ _ h => h) (Or.inl ⟨by rfl, ?_⟩) ?_ ?_; rotate_left; · (intro w'; go_simp; with_reducible rfl)
        rotate_left; · (simp only [Act.put, List.setIfInBounds_toArray, List.set_cons_zero, List.set_cons_succ, i64_w, i32_w]; rfl)
        refine pure_ (i := 2) (N := some 28) (v := ?_) (a' := ?_) (bl 11 6) rfl rfl (any_of HT_.out (by kernel_rfl)) (fun _ _ _ h => h) (Or.inl ⟨by rfl, ?_⟩) ?_ ?_; rotate_left; · (intro w'; go_simp; with_reducible rfl)
        rotate_left; · (simp only [Act.put, List.setIfInBounds_toArray, List.set_cons_zero, List.set_cons_succ, i64_w, i32_w]; rfl)
        refine pure_ (i := 3) (N := some 29) (v := ?_) (a' := ?_) (bl 11 14) rfl rfl (any_of HT_.out (by kernel_rfl)) (fun _ _ _ h => h) (Or.inl ⟨by rfl, ?_⟩) ?_ ?_; rotate_left; · (intro w'; go_simp; with_reducible rfl)
        rotate_left; · (simp only [Act.put, List.setIfInBounds_toArray, List.set_cons_zero, List.set_cons_succ, i64_w, i32_w]; rfl)
        refine take_ (i := 0) (N := some 26) (v := ?_) (a' := ?_) (bl 11 15) rfl rfl (take_ofW HT_.out HW_.out (by kernel_rfl)) (fun _ _ _ h => h) (Or.inl ⟨by rfl, ?_⟩) hHeld ?_ ?_; rotate_left; · (rintro w' ⟨s0, s1, s2, s3⟩; go_simp; with_reducible rfl)
        rotate_left; · (simp only [Act.put, List.setIfInBounds_toArray, List.set_cons_zero, List.set_cons_succ, i64_w, i32_w]; rfl)
        refine take_ (i := 4) (N := some 30) (v := ?_) (a' := ?_) (bl 11 31) rfl rfl (take_ofW HT_.out HW_.out (by kernel_rfl)) (fun _ _ _ h => h) (Or.inl ⟨by rfl, ?_⟩) hHeld ?_ ?_; rotate_left; · (rintro w' ⟨s0, s1, s2, s3⟩; go_simp; with_reducible rfl)
        rotate_left; · (simp only [Act.put, List.setIfInBounds_toArray, List.set_cons_zero, List.set_cons_succ, i64_w, i32_w]; rfl)
        refine one_ (i := 5) (N := some 31) (bl 11 63) rfl rfl (one_of HT_.out (by kernel_rfl)) (by decide) (fun K hK => ?_)
        refine goes_ Try.func57 (by kernel_rfl) rfl #[.agg #[.slice A0_0 l0_0.length c0_0, .slice A0_1 l0_1.length c0_1, .int .i64 a0_2], .int .i64 (rd t250 x6_1)] (by rfl) rfl rfl (by (try simp only [List.map_toArray, List.map_cons, List.map_nil]); first | done | rfl | (simp only [List.length_drop, List.length_take]; rfl)) ?_
        with_reducible refine (chalklineref12_both.calls k1 _ _ l0_0 _ _ l0_1 a0_2 (rd t250 x6_1) t254 t255 _ ?side1 ?side2 ?side3 ?side4 A19.out).mono ?_
        (case side1 => repeat (first | exact (Kd.C_below HR0_0.out HB.out) | (with_reducible refine Kd.C_alloc ?_ _) | (with_reducible refine Kd.C_drewN ?_ _) | (with_reducible refine Kd.C_drew ?_)))
        (case side2 => exact HC0_0.out)
        (case side3 => repeat (first | exact (Kd.C_below HR0_1.out HB.out) | (with_reducible refine Kd.C_alloc ?_ _) | (with_reducible refine Kd.C_drewN ?_ _) | (with_reducible refine Kd.C_drew ?_)))
        (case side4 => exact HC0_1.out)
        rintro e w91 ⟨rfl, hb⟩
        have HS3_ := (hb.cell (World.block_lt_of_cell? _ _ (hHeld.2.2.2))).trans (hHeld.2.2.2)
        refine ⟨_, rfl, ?_⟩
        have n0_ := Aside0.mk (Kd.R_below (by (with_reducible repeat (first | apply Kd.R_alloc | apply Kd.R_drewN | apply Kd.R_drew)); exact HO_5.out) hb)
        have n1_ := Aside0.mk (Kd.R_below (by (with_reducible repeat (first | apply Kd.R_alloc | apply Kd.R_drewN | apply Kd.R_drew)); exact HO_250000.out) hb)
        have n2_ := Aside0.mk (Kd.R_below (by (with_reducible repeat (first | apply Kd.R_alloc | apply Kd.R_drewN | apply Kd.R_drew)); exact HO_250001.out) hb)
        have n3_ := Aside0.mk (blk_below (g := gb246) (o := .cells #[.slice A0_0 l0_0.length c0_0, .slice A0_1 l0_1.length c0_1, .int .i64 a0_2] 24 (0, 0)) (by (with_reducible repeat (first | refine blk_drewN ?_ _ | refine blk_drew ?_ | refine blk_alloc ?_ _)); exact BK246.out) hb)
        have n4_ := Aside0.mk (blk_below (g := gb247) (o := .cells #[.slice none 0 0, .slice none 0 0, .int .i64 0] 24 (0, 0)) (by (with_reducible repeat (first | refine blk_drewN ?_ _ | refine blk_drew ?_ | refine blk_alloc ?_ _)); exact BK247.out) hb)
        have n5_ := Aside0.mk (blk_below (g := gb249) (o := .cells #[u250000, u250001, .int .i64 x250002_1] 24 (0, 0)) (by (with_reducible repeat (first | refine blk_drewN ?_ _ | refine blk_drew ?_ | refine blk_alloc ?_ _)); exact BK249.out) hb)
        have n6_ := Aside0.mk (below_step (by repeat (first | (with_reducible first | exact HB.out | apply below_alloc | apply pw_below_drewN | apply below_drew1 | refine below_set ?_ GE246.out | refine below_set ?_ GE247.out | refine below_set ?_ GE249.out) | exact HB.out)) hb)
        clear HO_5
        clear HO_250000
        clear HO_250001
        clear BK246
        clear BK247
        clear BK249
        clear HB
        have HO_5 := n0_
        have HO_250000 := n1_
        have HO_250001 := n2_
        have BK246 := n3_
        have BK247 := n4_
        have BK249 := n5_
        have HB := n6_
        clear n0_ n1_ n2_ n3_ n4_ n5_ n6_
        (try clear hb)
        (try clear hb2)
        (try clear hk)
        (try clear hi)
        refine hK.out _ _ ⟨(blk_cell BK246.out 0).trans rfl, (blk_cell BK246.out 1).trans rfl, (blk_cell BK246.out 2).trans rfl, HS3_⟩ (fun hHeld => ?_)
        clear hK K
        refine norm_ (a' := ?_) ?_ ?_
        rotate_left
        ·
         show Act.put _ (some 31) _ = _
         simp only [Act.put, List.setIfInBounds_toArray, List.set_cons_zero, List.set_cons_succ, i64_w, i32_w]
         rfl
        refine pure_ (i := 6) (N := some 25) (v := ?_) (a' := ?_) (bl 11 127) rfl rfl (any_of HT_.out (by kernel_rfl)) (fun _ _ _ h => h) (Or.inl ⟨by rfl, ?_⟩) ?_ ?_; rotate_left; · (intro w'; go_simp; with_reducible rfl)
        rotate_left; · (simp only [Act.put, List.setIfInBounds_toArray, List.set_cons_zero, List.set_cons_succ, i64_w, i32_w]; rfl)
        refine pure_ (i := 7) (N := some 32) (v := ?_) (a' := ?_) (bl 11 255) rfl rfl (any_of HT_.out (by kernel_rfl)) (fun _ _ _ h => h) (Or.inl ⟨by rfl, ?_⟩) ?_ ?_; rotate_left; · (intro w'; go_simp; with_reducible rfl)
        rotate_left; · (simp only [Act.put, List.setIfInBounds_toArray, List.set_cons_zero, List.set_cons_succ, i64_w, i32_w]; rfl)
        refine pure_ (i := 8) (N := some 33) (v := ?_) (a' := ?_) (bl 11 511) rfl rfl (any_of HT_.out (by kernel_rfl)) (fun _ _ _ h => h) (Or.inl ⟨by rfl, ?_⟩) ?_ ?_; rotate_left; · (intro w'; go_simp; with_reducible rfl)
        rotate_left; · (simp only [Act.put, List.setIfInBounds_toArray, List.set_cons_zero, List.set_cons_succ, i64_w, i32_w]; rfl)
        refine pure_ (i := 9) (N := some 7) (v := ?_) (a' := ?_) (bl 11 1023) rfl rfl (any_of HT_.out (by kernel_rfl)) (fun _ _ _ h => h) (Or.inl ⟨by rfl, ?_⟩) ?_ ?_; rotate_left; · (intro w'; go_simp; with_reducible rfl)
        rotate_left; · (simp only [Act.put, List.setIfInBounds_toArray, List.set_cons_zero, List.set_cons_succ, i64_w, i32_w]; rfl)
        refine pure_ (i := 10) (N := some 8) (v := ?_) (a' := ?_) (bl 11 2047) rfl rfl (any_of HT_.out (by kernel_rfl)) (fun _ _ _ h => h) (Or.inl ⟨by rfl, ?_⟩) ?_ ?_; rotate_left; · (intro w'; go_simp; with_reducible rfl)
        rotate_left; · (simp only [Act.put, List.setIfInBounds_toArray, List.set_cons_zero, List.set_cons_succ, i64_w, i32_w]; rfl)
        refine done_ (done_of HT_.out (by kernel_rfl)) ?_
        have hnb92 := NB249_246.out
        have hnc92 := NB246_249.out
        have hnb93 := NB249_247.out
        have hnc93 := NB247_249.out
        have hcz94_0 : w91.cell? ⟨gb249, 0, none⟩ = some (u250000) := (blk_cell BK249.out 0).trans rfl
        have hcz94_1 : w91.cell? ⟨gb249, 1, none⟩ = some (u250001) := (blk_cell BK249.out 1).trans rfl
        have hcz94_2 : w91.cell? ⟨gb249, 2, none⟩ = some (.int .i64 x250002_1) := (blk_cell BK249.out 2).trans rfl
        have hfz94_0 := blk_frozen BK249.out 0
        have hfz94_1 := blk_frozen BK249.out 1
        have hfz94_2 := blk_frozen BK249.out 2
        try go_wp2
        go_roundg k1
        case measure => have := HK1.out; omega
        case rel => exact ⟨(wrap64 ((wrap64 (x4_1 + (ji87))) - (ji20))), (wrap64 (x6_1 + 1)), (x250000_1), (x250001_1), (wrap64 (x250002_1 - (ji20))), (u250000), (u250001), (by first | rfl | (simp; done) | (simp only [← hji20, ← hji87] <;> (first | rfl | simp)) | (simp [*]; done)), (by first | rfl | (simp; done) | (simp [*]; done)), H', ⟨by have := HK1.out; omega⟩, ⟨by (with_reducible repeat (first | apply Kd.R_alloc | apply Kd.R_drewN | apply Kd.R_drew)); exact Kd.R_mono (Kd.R_far (p := ⟨gb249, 2, none⟩) (Kd.R_types HO_5.out BK249.out (by decide)) (fun _ hk => hk.2) (.int .i64 (wrap64 (x250002_1 - (ji20))))) (fun _ hk => ⟨hk.1.1, hk.1.2⟩)⟩, ⟨by (with_reducible repeat (first | apply Kd.R_alloc | apply Kd.R_drewN | apply Kd.R_drew)); exact Kd.R_mono (Kd.R_far (p := ⟨gb249, 2, none⟩) (Kd.R_types HO_250000.out BK249.out (by decide)) (fun _ hk => hk.2) (.int .i64 (wrap64 (x250002_1 - (ji20))))) (fun _ hk => ⟨hk.1.1, hk.1.2⟩)⟩, ⟨by (with_reducible repeat (first | apply Kd.R_alloc | apply Kd.R_drewN | apply Kd.R_drew)); exact Kd.R_mono (Kd.R_far (p := ⟨gb249, 2, none⟩) (Kd.R_types HO_250001.out BK249.out (by decide)) (fun _ hk => hk.2) (.int .i64 (wrap64 (x250002_1 - (ji20))))) (fun _ hk => ⟨hk.1.1, hk.1.2⟩)⟩, ⟨by (with_reducible repeat (first | refine blk_drewN ?_ _ | refine blk_drew ?_ | refine blk_alloc ?_ _)); refine blk_far ?_ NB246_249.out _; (with_reducible repeat (first | refine blk_drewN ?_ _ | refine blk_drew ?_ | refine blk_alloc ?_ _)); exact BK246.out⟩, ⟨by (with_reducible repeat (first | refine blk_drewN ?_ _ | refine blk_drew ?_ | refine blk_alloc ?_ _)); refine blk_far ?_ NB247_249.out _; (with_reducible repeat (first | refine blk_drewN ?_ _ | refine blk_drew ?_ | refine blk_alloc ?_ _)); exact BK247.out⟩, ⟨by (with_reducible repeat (first | refine blk_drewN ?_ _ | refine blk_drew ?_ | refine blk_alloc ?_ _)); refine blk_put (cs := #[u250000, u250001, .int .i64 x250002_1]) ?_ 2 _ rfl; (with_reducible repeat (first | refine blk_drewN ?_ _ | refine blk_drew ?_ | refine blk_alloc ?_ _)); exact BK249.out⟩, ⟨by repeat (first | (with_reducible first | exact HB.out | apply below_alloc | apply pw_below_drewN | apply below_drew1 | refine below_set ?_ GE246.out | refine below_set ?_ GE247.out | refine below_set ?_ GE249.out) | exact HB.out)⟩⟩
     ·
      rw [if_neg c18] at H
      exact absurd H (by simp)
    ·
     rw [if_neg c17] at H
     have c17b0 : decide (x6_1 < (t250.length : Int)) = false := decide_eq_false c17
     clear c17
     by_cases c95 : x250002_1 ≤ 0
     ·
      rw [if_pos c95] at H
      have c95b0 : decide (x250002_1 ≤ 0) = true := decide_eq_true c95
      clear c95
      simp only [Option.some.injEq, Prod.mk.injEq] at H
      obtain ⟨rfl, rfl, rfl⟩ := H
      obtain ⟨Ao96, co96, eo96⟩ := Kd.R_slice HO_5.out
      subst eo96
      have hnb97 := NB249_246.out
      have hnc97 := NB246_249.out
      have hnb98 := NB249_247.out
      have hnc98 := NB247_249.out
      have hcz99_0 : wr.cell? ⟨gb249, 0, none⟩ = some (u250000) := (blk_cell BK249.out 0).trans rfl
      have hcz99_1 : wr.cell? ⟨gb249, 1, none⟩ = some (u250001) := (blk_cell BK249.out 1).trans rfl
      have hcz99_2 : wr.cell? ⟨gb249, 2, none⟩ = some (.int .i64 x250002_1) := (blk_cell BK249.out 2).trans rfl
      have hfz99_0 := blk_frozen BK249.out 0
      have hfz99_1 := blk_frozen BK249.out 1
      have hfz99_2 := blk_frozen BK249.out 2
      have hnb100 := NB247_246.out
      have hnc100 := NB246_247.out
      have hcz101_0 : wr.cell? ⟨gb247, 0, none⟩ = some (.slice none 0 0) := (blk_cell BK247.out 0).trans rfl
      have hcz101_1 : wr.cell? ⟨gb247, 1, none⟩ = some (.slice none 0 0) := (blk_cell BK247.out 1).trans rfl
      have hcz101_2 : wr.cell? ⟨gb247, 2, none⟩ = some (.int .i64 0) := (blk_cell BK247.out 2).trans rfl
      have hfz101_0 := blk_frozen BK247.out 0
      have hfz101_1 := blk_frozen BK247.out 1
      have hfz101_2 := blk_frozen BK247.out 2
      go_wp2
      refine bodyPost_ret (results_cell_row rfl _ _ gb247 24 #[.slice none 0 0, .slice none 0 0, .int .i64 0] (0, 0) _ rfl (by (with_reducible repeat (first | refine blk_drewN ?_ _ | refine blk_drew ?_ | refine blk_alloc ?_ _)); refine blk_put (cs := #[.slice none 0 0, .slice none 0 0, .int .i64 0]) ?_ 2 _ rfl; (with_reducible repeat (first | refine blk_drewN ?_ _ | refine blk_drew ?_ | refine blk_alloc ?_ _)); refine blk_put (cs := #[.slice none 0 0, .slice none 0 0, .int .i64 0]) ?_ 1 _ rfl; (with_reducible repeat (first | refine blk_drewN ?_ _ | refine blk_drew ?_ | refine blk_alloc ?_ _)); refine blk_put (cs := #[.slice none 0 0, .slice none 0 0, .int .i64 0]) ?_ 0 _ rfl; (with_reducible repeat (first | refine blk_drewN ?_ _ | refine blk_drew ?_ | refine blk_alloc ?_ _)); exact BK247.out) Try.underlying24 rfl (by kernel_rfl)) rfl ?_
      exact ⟨_, _, by first | rfl | (simp [errW_none, errW_some] <;> rfl) | (simp [*, errW_none, errW_some] <;> rfl), by first | exact Kd.R_nil _ _ _ _ _ | exact Kd.N_nil _ _ _ _ _ | exact Kd.V_nil _ _ _ _ _ | exact Kd.Q_nil _ _ _ _ _ | exact Kd.S_nil _ _ _ _ _, by first | exact Kd.R_nil _ _ _ _ _ | exact Kd.N_nil _ _ _ _ _ | exact Kd.V_nil _ _ _ _ _ | exact Kd.Q_nil _ _ _ _ _ | exact Kd.S_nil _ _ _ _ _, by repeat (first | (with_reducible first | exact HB.out | apply below_alloc | apply pw_below_drewN | apply below_drew1 | refine below_set ?_ GE246.out | refine below_set ?_ GE247.out | refine below_set ?_ GE249.out) | exact HB.out)⟩
     ·
      rw [if_neg c95] at H
      have c95b0 : decide (x250002_1 ≤ 0) = false := decide_eq_false c95
      clear c95
      by_cases c102 : x4_1 < x250002_1
      ·
       rw [if_pos c102] at H
       have c102b0 : decide (x4_1 < x250002_1) = true := decide_eq_true c102
       clear c102
       simp only [Option.some.injEq, Prod.mk.injEq] at H
       obtain ⟨rfl, rfl, rfl⟩ := H
       obtain ⟨Ao103, co103, eo103⟩ := Kd.R_slice HO_5.out
       subst eo103
       have hnb104 := NB249_246.out
       have hnc104 := NB246_249.out
       have hnb105 := NB249_247.out
       have hnc105 := NB247_249.out
       have hcz106_0 : wr.cell? ⟨gb249, 0, none⟩ = some (u250000) := (blk_cell BK249.out 0).trans rfl
       have hcz106_1 : wr.cell? ⟨gb249, 1, none⟩ = some (u250001) := (blk_cell BK249.out 1).trans rfl
       have hcz106_2 : wr.cell? ⟨gb249, 2, none⟩ = some (.int .i64 x250002_1) := (blk_cell BK249.out 2).trans rfl
       have hfz106_0 := blk_frozen BK249.out 0
       have hfz106_1 := blk_frozen BK249.out 1
       have hfz106_2 := blk_frozen BK249.out 2
       have hnb107 := NB247_246.out
       have hnc107 := NB246_247.out
       have hcz108_0 : wr.cell? ⟨gb247, 0, none⟩ = some (.slice none 0 0) := (blk_cell BK247.out 0).trans rfl
       have hcz108_1 : wr.cell? ⟨gb247, 1, none⟩ = some (.slice none 0 0) := (blk_cell BK247.out 1).trans rfl
       have hcz108_2 : wr.cell? ⟨gb247, 2, none⟩ = some (.int .i64 0) := (blk_cell BK247.out 2).trans rfl
       have hfz108_0 := blk_frozen BK247.out 0
       have hfz108_1 := blk_frozen BK247.out 1
       have hfz108_2 := blk_frozen BK247.out 2
       go_wp2
       refine bodyPost_ret (results_cell_row rfl _ _ gb247 24 #[.slice none 0 0, .slice none 0 0, .int .i64 1] (0, 0) _ rfl (by (with_reducible repeat (first | refine blk_drewN ?_ _ | refine blk_drew ?_ | refine blk_alloc ?_ _)); refine blk_put (cs := #[.slice none 0 0, .slice none 0 0, .int .i64 0]) ?_ 2 _ rfl; (with_reducible repeat (first | refine blk_drewN ?_ _ | refine blk_drew ?_ | refine blk_alloc ?_ _)); refine blk_put (cs := #[.slice none 0 0, .slice none 0 0, .int .i64 0]) ?_ 1 _ rfl; (with_reducible repeat (first | refine blk_drewN ?_ _ | refine blk_drew ?_ | refine blk_alloc ?_ _)); refine blk_put (cs := #[.slice none 0 0, .slice none 0 0, .int .i64 0]) ?_ 0 _ rfl; (with_reducible repeat (first | refine blk_drewN ?_ _ | refine blk_drew ?_ | refine blk_alloc ?_ _)); exact BK247.out) Try.underlying24 rfl (by kernel_rfl)) rfl ?_
       exact ⟨_, _, by first | rfl | (simp [errW_none, errW_some] <;> rfl) | (simp [*, errW_none, errW_some] <;> rfl), by first | exact Kd.R_nil _ _ _ _ _ | exact Kd.N_nil _ _ _ _ _ | exact Kd.V_nil _ _ _ _ _ | exact Kd.Q_nil _ _ _ _ _ | exact Kd.S_nil _ _ _ _ _, by first | exact Kd.R_nil _ _ _ _ _ | exact Kd.N_nil _ _ _ _ _ | exact Kd.V_nil _ _ _ _ _ | exact Kd.Q_nil _ _ _ _ _ | exact Kd.S_nil _ _ _ _ _, by repeat (first | (with_reducible first | exact HB.out | apply below_alloc | apply pw_below_drewN | apply below_drew1 | refine below_set ?_ GE246.out | refine below_set ?_ GE247.out | refine below_set ?_ GE249.out) | exact HB.out)⟩
      ·
       rw [if_neg c102] at H
       have c102b0 : decide (x4_1 < x250002_1) = false := decide_eq_false c102
       clear c102
       have H' := Aside0.mk H
       clear H
       obtain ⟨Ao109, co109, eo109⟩ := Kd.R_slice HO_5.out
       subst eo109
       have hnb110 := NB249_246.out
       have hnc110 := NB246_249.out
       have hnb111 := NB249_247.out
       have hnc111 := NB247_249.out
       have hcz112_0 : wr.cell? ⟨gb249, 0, none⟩ = some (u250000) := (blk_cell BK249.out 0).trans rfl
       have hcz112_1 : wr.cell? ⟨gb249, 1, none⟩ = some (u250001) := (blk_cell BK249.out 1).trans rfl
       have hcz112_2 : wr.cell? ⟨gb249, 2, none⟩ = some (.int .i64 x250002_1) := (blk_cell BK249.out 2).trans rfl
       have hfz112_0 := blk_frozen BK249.out 0
       have hfz112_1 := blk_frozen BK249.out 1
       have hfz112_2 := blk_frozen BK249.out 2
       go_wp2
       go_loopg [9] k1 (fun kq v9 w' => ∃ (x9_2 : Int) (x250000_2 : List Int) (x250001_2 : List Int) (u250000 : Value) (u250001 : Value), v9 = .int .i64 x9_2 ∧ Aside0 (chalklineref12_Norm.l1 kq x9_2 x250000_2 x250001_2 x250002_1 = some (r1, r2, r3)) ∧ Aside0 (kq ≤ k1) ∧ Aside0 (Kd.R (Kd.int .i64) 3 w' w.heap.size (fun k_ => some k_ ≠ (u250001 : Value).ownBlock) u250000 x250000_2) ∧ Aside0 (Kd.R (Kd.int .i64) 3 w' w.heap.size (fun k_ => some k_ ≠ (u250000 : Value).ownBlock) u250001 x250001_2) ∧ Aside0 (w'.heap[gb246]? = some (.cells #[(.slice A0_0 l0_0.length c0_0), (.slice A0_1 l0_1.length c0_1), .int .i64 a0_2] 24 (0, 0))) ∧ Aside0 (w'.heap[gb247]? = some (.cells #[(.slice none 0 0), (.slice none 0 0), .int .i64 0] 24 (0, 0))) ∧ Aside0 (w'.heap[gb249]? = some (.cells #[u250000, u250001, .int .i64 x250002_1] 24 (0, 0))) ∧ Aside0 (Below w.heap.size w w'))
       case atStart => exact ⟨(0), (x250000_1), (x250001_1), (u250000), (u250001), (by first | rfl | (simp; done) | (simp [*]; done)), H', ⟨Nat.le_refl _⟩, ⟨by (with_reducible repeat (first | apply Kd.R_alloc | apply Kd.R_drewN | apply Kd.R_drew)); exact Kd.R_mono HO_250000.out (fun _ hk => hk.2)⟩, ⟨by (with_reducible repeat (first | apply Kd.R_alloc | apply Kd.R_drewN | apply Kd.R_drew)); exact Kd.R_mono HO_250001.out (fun _ hk => hk.2)⟩, ⟨by (with_reducible repeat (first | refine blk_drewN ?_ _ | refine blk_drew ?_ | refine blk_alloc ?_ _)); exact BK246.out⟩, ⟨by (with_reducible repeat (first | refine blk_drewN ?_ _ | refine blk_drew ?_ | refine blk_alloc ?_ _)); exact BK247.out⟩, ⟨by (with_reducible repeat (first | refine blk_drewN ?_ _ | refine blk_drew ?_ | refine blk_alloc ?_ _)); exact BK249.out⟩, ⟨by repeat (first | (with_reducible first | exact HB.out | apply below_alloc | apply pw_below_drewN | apply below_drew1 | refine below_set ?_ GE246.out | refine below_set ?_ GE247.out | refine below_set ?_ GE249.out) | exact HB.out)⟩⟩
       case round =>
        clear H'
        obtain ⟨x9_2, x250000_2, x250001_2, u250000, u250001, rfl, HA, HK2, HO_250000, HO_250001, BK246, BK247, BK249, HB⟩ := hrel
        cases gk with
        | zero => exact absurd HA.out (by simp [chalklineref12_Norm.l1])
        | succ k2 =>
         have H := HA.out
         clear HA
         simp only [chalklineref12_Norm.l1] at H
         by_cases c113 : x9_2 < (x250000_2.length : Int)
         ·
          rw [if_pos c113] at H
          have c113b0 : decide (x9_2 < (x250000_2.length : Int)) = true := decide_eq_true c113
          clear c113
          by_cases c114 : 0 ≤ x9_2
          ·
           rw [if_pos c114] at H
           have c114b0 : decide (0 ≤ x9_2) = true := decide_eq_true c114
           clear c114
           obtain ⟨ji115, hji115⟩ : ∃ j_ : Int, (mn (rd x250000_2 x9_2) x250002_1) = j_ := ⟨_, rfl⟩
           replace H : (chalklineref12_Norm.l1 k2 (wrap64 (x9_2 + 1)) (x250000_2.set (x9_2 : Int).toNat (ji115)) x250001_2 x250002_1) = some (r1, r2, r3) := by first | (rw [hji115] at H; exact H) | (simp only [hji115] at H ⊢; exact H)
           have hji115_ : (if x250002_1 < (rd x250000_2 x9_2) then x250002_1 else (rd x250000_2 x9_2)) = ji115 := hji115
           obtain ⟨y278, hy278⟩ : ∃ y_ : List Int, y_ = (x250000_2.set (x9_2 : Int).toNat (ji115)) := ⟨_, rfl⟩
           replace H : (chalklineref12_Norm.l1 k2 (wrap64 (x9_2 + 1)) y278 x250001_2 x250002_1) = some (r1, r2, r3) := by first | (rw [hy278]; with_reducible exact H) | (have H2_ := (Option.bind_some _ _).symm.trans H; rw [hy278]; with_reducible exact H2_) | (have H2_ := (Option.bind_some _ _).symm.trans H; with_reducible exact H2_) | with_reducible exact H | (rw [hy278]; exact H) | exact H
           have Ny278 := Aside0.mk hy278
           clear hy278
           have H' := Aside0.mk H
           clear H
           have hnb117 := NB249_246.out
           have hnc117 := NB246_249.out
           have hnb118 := NB249_247.out
           have hnc118 := NB247_249.out
           have hcz119_0 : wr.cell? ⟨gb249, 0, none⟩ = some (u250000) := (blk_cell BK249.out 0).trans rfl
           have hcz119_1 : wr.cell? ⟨gb249, 1, none⟩ = some (u250001) := (blk_cell BK249.out 1).trans rfl
           have hcz119_2 : wr.cell? ⟨gb249, 2, none⟩ = some (.int .i64 x250002_1) := (blk_cell BK249.out 2).trans rfl
           have hfz119_0 := blk_frozen BK249.out 0
           have hfz119_1 := blk_frozen BK249.out 1
           have hfz119_2 := blk_frozen BK249.out 2
           obtain ⟨Ao120, co120, eo120⟩ := Kd.R_slice HO_250000.out
           subst eo120
           try go_wp2
           have n0_ := Aside0.mk (Kd.R_drew HO_250000.out)
           have n1_ := Aside0.mk (Kd.R_drew HO_250001.out)
           have n2_ := Aside0.mk (blk_drew BK246.out)
           have n3_ := Aside0.mk (blk_drew BK247.out)
           have n4_ := Aside0.mk (blk_drew BK249.out)
           have n5_ := Aside0.mk (below_drew1 HB.out)
           clear HO_250000
           clear HO_250001
           clear BK246
           clear BK247
           clear BK249
           clear HB
           have HO_250000 := n0_
           have HO_250001 := n1_
           have BK246 := n2_
           have BK247 := n3_
           have BK249 := n4_
           have HB := n5_
           clear n0_ n1_ n2_ n3_ n4_ n5_
           have p277 : 0 ≤ (x9_2 : Int) := of_decide_eq_true (by first | (with_reducible assumption) | assumption)
           have q277 : x9_2 < (x250000_2.length : Int) := of_decide_eq_true (by first | (with_reducible assumption) | assumption)
           obtain ⟨ad277, e277, hx277_0⟩ := Kd.at_int (Kd.R_reads' HO_250000.out).2.2 x9_2 p277 q277
           cases e277
           replace p277 := eq_true p277
           replace q277 := eq_true q277
           have p116 : 0 ≤ (x9_2 : Int) := of_decide_eq_true (by first | (with_reducible assumption) | assumption)
           have q116 : (x9_2 : Int) < ((x250000_2.length : Int) : Int) := of_decide_eq_true (by first | (with_reducible assumption) | assumption)
           obtain ⟨go116, co116, eo116, gb116, gl116, cl116, HG116⟩ := Kd.R_form HO_250000.out (by omega)
           (first | cases eo116 | (injection eo116 with ea_ en_ ec_; (first | subst ea_ | (injection ea_ with ea_; subst ea_)); subst ec_; clear en_))
           have GB116 := Aside0.mk gb116
           have GG116 := Aside0.mk HG116
           clear gb116 gl116 HG116
           (first | simp only [add_plain] at hx277_0 | skip)
           obtain ⟨hx116_0, hf116_0⟩ := Kd.R_celln 0 HO_250000.out (x9_2 : Int) p116 q116
           replace p116 := eq_true p116
           replace q116 := eq_true q116
           have HP122 := Kd.R_putn HO_250000.out (x9_2 : Int) ji115
           rw [← Ny278.out] at HP122
           have HQ122 := Aside0.mk HP122
           clear HP122
           refine start_ (n := 13) (S := fun w' => w'.cell? ⟨gb249, 0, none⟩ = some (.slice (some ⟨go116, 0, none⟩) x250000_2.length co120) ∧ w'.cell? ⟨gb249, 1, none⟩ = some (u250001) ∧ w'.cell? ⟨gb249, 2, none⟩ = some (.int .i64 x250002_1) ∧ w'.cell? ⟨go116, (x9_2).toNat, none⟩ = some (.int .i64 (rd x250000_2 x9_2))) (ds := [12]) #[false, false, false, false, false, false, false, false, false, false, false, false, false] (by kernel_rfl) rfl rfl ⟨(blk_cell BK249.out 0).trans rfl, (blk_cell BK249.out 1).trans rfl, (blk_cell BK249.out 2).trans rfl, hx277_0⟩ (fun hHeld => ?_); refine with_tabW chalklineref12_Norm.tab25 chalklineref12_Norm.bits25 (fun HT_ HW_ => ?_)
           generalize wr.drew = w121 at HO_250000 HO_250001 BK246 BK247 BK249 HB GG116 HQ122 hf116_0 hx116_0 hx277_0 hHeld ⊢
           refine pure_ (i := 0) (N := some 107) (v := ?_) (a' := ?_) (bl 13 1) rfl rfl (any_of HT_.out (by kernel_rfl)) (fun _ _ _ h => h) (Or.inl ⟨by rfl, ?_⟩) ?_ ?_; rotate_left; · (intro w'; go_simp; with_reducible rfl)
           rotate_left; · (simp only [Act.put, List.setIfInBounds_toArray, List.set_cons_zero, List.set_cons_succ, i64_w, i32_w]; rfl)
           refine pure_ (i := 2) (N := some 109) (v := ?_) (a' := ?_) (bl 13 5) rfl rfl (any_of HT_.out (by kernel_rfl)) (fun _ _ _ h => h) (Or.inl ⟨by rfl, ?_⟩) ?_ ?_; rotate_left; · (intro w'; go_simp; with_reducible rfl)
           rotate_left; · (simp only [Act.put, List.setIfInBounds_toArray, List.set_cons_zero, List.set_cons_succ, i64_w, i32_w]; rfl)
           refine pure_ (i := 3) (N := some 110) (v := ?_) (a' := ?_) (bl 13 13) rfl rfl (any_of HT_.out (by kernel_rfl)) (fun _ _ _ h => h) (Or.inl ⟨by rfl, ?_⟩) ?_ ?_; rotate_left; · (intro w'; go_simp; with_reducible rfl)
           rotate_left; · (simp only [Act.put, List.setIfInBounds_toArray, List.set_cons_zero, List.set_cons_succ, i64_w, i32_w]; rfl)
           refine pure_ (i := 5) (N := some 112) (v := ?_) (a' := ?_) (bl 13 45) rfl rfl (any_of HT_.out (by kernel_rfl)) (fun _ _ _ h => h) (Or.inl ⟨by rfl, ?_⟩) ?_ ?_; rotate_left; · (intro w'; go_simp; with_reducible rfl)
           rotate_left; · (simp only [Act.put, List.setIfInBounds_toArray, List.set_cons_zero, List.set_cons_succ, i64_w, i32_w]; rfl)
           refine pure_ (i := 8) (N := some 115) (v := ?_) (a' := ?_) (bl 13 301) rfl rfl (any_of HT_.out (by kernel_rfl)) (fun _ _ _ h => h) (Or.inl ⟨by rfl, ?_⟩) ?_ ?_; rotate_left; · (intro w'; go_simp; with_reducible rfl)
           rotate_left; · (simp only [Act.put, List.setIfInBounds_toArray, List.set_cons_zero, List.set_cons_succ, i64_w, i32_w]; rfl)
           refine take_ (i := 1) (N := some 108) (v := ?_) (a' := ?_) (bl 13 303) rfl rfl (take_ofW HT_.out HW_.out (by kernel_rfl)) (fun _ _ _ h => h) (Or.inl ⟨by rfl, ?_⟩) hHeld ?_ ?_; rotate_left; · (rintro w' ⟨s0, s1, s2, s3⟩; go_simp; with_reducible rfl)
           rotate_left; · (simp only [Act.put, List.setIfInBounds_toArray, List.set_cons_zero, List.set_cons_succ, i64_w, i32_w]; rfl)
           refine take_ (i := 4) (N := some 111) (v := ?_) (a' := ?_) (bl 13 319) rfl rfl (take_ofW HT_.out HW_.out (by kernel_rfl)) (fun _ _ _ h => h) (Or.inl ⟨by rfl, ?_⟩) hHeld ?_ ?_; rotate_left; · (rintro w' ⟨s0, s1, s2, s3⟩; go_simp; with_reducible rfl)
           rotate_left; · (simp only [Act.put, List.setIfInBounds_toArray, List.set_cons_zero, List.set_cons_succ, i64_w, i32_w]; rfl)
           refine pure_ (i := 6) (N := some 113) (v := ?_) (a' := ?_) (bl 13 383) rfl rfl (any_of HT_.out (by kernel_rfl)) (fun _ _ _ h => h) (Or.inl ⟨by rfl, ?_⟩) ?_ ?_; rotate_left; · (intro w'; go_simp; with_reducible rfl)
           rotate_left; · (simp only [Act.put, List.setIfInBounds_toArray, List.set_cons_zero, List.set_cons_succ, i64_w, i32_w]; rfl)
           refine take_ (i := 7) (N := some 114) (v := ?_) (a' := ?_) (bl 13 511) rfl rfl (take_ofW HT_.out HW_.out (by kernel_rfl)) (fun _ _ _ h => h) (Or.inl ⟨by rfl, ?_⟩) hHeld ?_ ?_; rotate_left; · (rintro w' ⟨s0, s1, s2, s3⟩; go_simp; with_reducible rfl)
           rotate_left; · (simp only [Act.put, List.setIfInBounds_toArray, List.set_cons_zero, List.set_cons_succ, i64_w, i32_w]; rfl)
           refine take_ (i := 9) (N := some 116) (v := ?_) (a' := ?_) (bl 13 1023) rfl rfl (take_ofW HT_.out HW_.out (by kernel_rfl)) (fun _ _ _ h => h) (Or.inl ⟨by rfl, ?_⟩) hHeld ?_ ?_; rotate_left; · (rintro w' ⟨s0, s1, s2, s3⟩; go_simp; with_reducible rfl)
           rotate_left; · (simp only [Act.put, List.setIfInBounds_toArray, List.set_cons_zero, List.set_cons_succ, i64_w, i32_w]; rfl)
           refine pure_ (i := 10) (N := some 117) (v := ?_) (a' := ?_) (bl 13 2047) rfl rfl (any_of HT_.out (by kernel_rfl)) (fun _ _ _ h => h) (Or.inl ⟨by rfl, ?_⟩) ?_ ?_; rotate_left; · (intro w'; go_simp; with_reducible rfl)
           rotate_left; · (simp only [Act.put, List.setIfInBounds_toArray, List.set_cons_zero, List.set_cons_succ, i64_w, i32_w]; rfl)
           refine pure_ (i := 11) (N := some 118) (v := ?_) (a' := ?_) (bl 13 4095) rfl rfl (any_of HT_.out (by kernel_rfl)) (fun _ _ _ h => h) (Or.inl ⟨by rfl, ?_⟩) ?_ ?_; rotate_left; · (intro w'; go_simp; with_reducible rfl)
           rotate_left; · (simp only [Act.put, List.setIfInBounds_toArray, List.set_cons_zero, List.set_cons_succ, i64_w, i32_w]; rfl)
           refine last_ (i := 12) (N := none) (bl 13 8191) rfl rfl (one_of HT_.out (by kernel_rfl)) (by decide) (fun K hK => ?_)
           refine skip_ (w1 := ?_) (by rfl) rfl ?_ ?_
           rotate_left
           ·
            go_simp
            rfl
           refine hK.out _ _ ?_
           clear hK K
           refine done_ (done_of HT_.out (by kernel_rfl)) ?_
           try go_wp2
           go_roundg k2
           case measure => have := HK1.out; have := HK2.out; omega
           case rel => exact ⟨(wrap64 (x9_2 + 1)), (y278), (x250001_2), (.slice (some ⟨go116, 0, none⟩) x250000_2.length co120), (u250001), (by first | rfl | (simp; done) | (simp [*]; done)), H', ⟨by have := HK1.out; have := HK2.out; omega⟩, ⟨by (with_reducible repeat (first | apply Kd.R_alloc | apply Kd.R_drewN | apply Kd.R_drew)); exact HQ122.out⟩, ⟨by (with_reducible repeat (first | apply Kd.R_alloc | apply Kd.R_drewN | apply Kd.R_drew)); exact Kd.R_mono (Kd.R_far (p := ⟨go116, (x9_2 : Int).toNat, none⟩) (Kd.R_mono HO_250001.out (fun k_ hk => (⟨hk, fun e_ => hk (by rw [e_]; rfl)⟩ : _ ∧ k_ ≠ go116))) (fun _ hk => hk.2) (.int .i64 ji115)) (fun _ hk => hk.1)⟩, ⟨by (with_reducible repeat (first | refine blk_drewN ?_ _ | refine blk_drew ?_ | refine blk_alloc ?_ _)); refine blk_far ?_ (by have h_ := Kd.R_ne HO_250000.out BK246.out (by decide); intro e_; exact h_ (by rw [e_]; rfl)) _; (with_reducible repeat (first | refine blk_drewN ?_ _ | refine blk_drew ?_ | refine blk_alloc ?_ _)); exact BK246.out⟩, ⟨by (with_reducible repeat (first | refine blk_drewN ?_ _ | refine blk_drew ?_ | refine blk_alloc ?_ _)); refine blk_far ?_ (by have h_ := Kd.R_ne HO_250000.out BK247.out (by decide); intro e_; exact h_ (by rw [e_]; rfl)) _; (with_reducible repeat (first | refine blk_drewN ?_ _ | refine blk_drew ?_ | refine blk_alloc ?_ _)); exact BK247.out⟩, ⟨by (with_reducible repeat (first | refine blk_drewN ?_ _ | refine blk_drew ?_ | refine blk_alloc ?_ _)); refine blk_far ?_ (by have h_ := Kd.R_ne HO_250000.out BK249.out (by decide); intro e_; exact h_ (by rw [e_]; rfl)) _; (with_reducible repeat (first | refine blk_drewN ?_ _ | refine blk_drew ?_ | refine blk_alloc ?_ _)); exact BK249.out⟩, ⟨by repeat (first | (with_reducible first | exact HB.out | apply below_alloc | apply pw_below_drewN | apply below_drew1 | refine below_set ?_ GB116.out | refine below_set ?_ GE246.out | refine below_set ?_ GE247.out | refine below_set ?_ GE249.out) | exact HB.out)⟩⟩
          ·
           rw [if_neg c114] at H
           exact absurd H (by simp)
         ·
          rw [if_neg c113] at H
          have c113b0 : decide (x9_2 < (x250000_2.length : Int)) = false := decide_eq_false c113
          clear c113
          simp only [Option.some.injEq, Prod.mk.injEq] at H
          obtain ⟨rfl, rfl, rfl⟩ := H
          have hnb123 := NB249_246.out
          have hnc123 := NB246_249.out
          have hnb124 := NB249_247.out
          have hnc124 := NB247_249.out
          have hcz125_0 : wr.cell? ⟨gb249, 0, none⟩ = some (u250000) := (blk_cell BK249.out 0).trans rfl
          have hcz125_1 : wr.cell? ⟨gb249, 1, none⟩ = some (u250001) := (blk_cell BK249.out 1).trans rfl
          have hcz125_2 : wr.cell? ⟨gb249, 2, none⟩ = some (.int .i64 x250002_1) := (blk_cell BK249.out 2).trans rfl
          have hfz125_0 := blk_frozen BK249.out 0
          have hfz125_1 := blk_frozen BK249.out 1
          have hfz125_2 := blk_frozen BK249.out 2
          obtain ⟨Ao126, co126, eo126⟩ := Kd.R_slice HO_250000.out
          subst eo126
          have hnb127 := NB247_246.out
          have hnc127 := NB246_247.out
          have hcz128_0 : wr.cell? ⟨gb247, 0, none⟩ = some (.slice none 0 0) := (blk_cell BK247.out 0).trans rfl
          have hcz128_1 : wr.cell? ⟨gb247, 1, none⟩ = some (.slice none 0 0) := (blk_cell BK247.out 1).trans rfl
          have hcz128_2 : wr.cell? ⟨gb247, 2, none⟩ = some (.int .i64 0) := (blk_cell BK247.out 2).trans rfl
          have hfz128_0 := blk_frozen BK247.out 0
          have hfz128_1 := blk_frozen BK247.out 1
          have hfz128_2 := blk_frozen BK247.out 2
          obtain ⟨Ao129, co129, eo129⟩ := Kd.R_slice HO_250001.out
          subst eo129
          go_wp2
          refine bodyPost_ret (results_cell_row rfl _ _ gb247 24 #[.slice Ao126 x250000_2.length co126, .slice Ao129 x250001_2.length co129, .int .i64 x250002_1] (0, 0) _ rfl (by (with_reducible repeat (first | refine blk_drewN ?_ _ | refine blk_drew ?_ | refine blk_alloc ?_ _)); refine blk_put (cs := #[.slice Ao126 x250000_2.length co126, .slice Ao129 x250001_2.length co129, .int .i64 0]) ?_ 2 _ rfl; (with_reducible repeat (first | refine blk_drewN ?_ _ | refine blk_drew ?_ | refine blk_alloc ?_ _)); refine blk_put (cs := #[.slice Ao126 x250000_2.length co126, .slice none 0 0, .int .i64 0]) ?_ 1 _ rfl; (with_reducible repeat (first | refine blk_drewN ?_ _ | refine blk_drew ?_ | refine blk_alloc ?_ _)); refine blk_put (cs := #[.slice none 0 0, .slice none 0 0, .int .i64 0]) ?_ 0 _ rfl; (with_reducible repeat (first | refine blk_drewN ?_ _ | refine blk_drew ?_ | refine blk_alloc ?_ _)); exact BK247.out) Try.underlying24 rfl (by kernel_rfl)) rfl ?_
          exact ⟨_, _, by first | rfl | (simp [errW_none, errW_some] <;> rfl) | (simp [*, errW_none, errW_some] <;> rfl), by (with_reducible repeat (first | apply Kd.R_alloc | apply Kd.R_drewN | apply Kd.R_drew)); exact Kd.R_mono (Kd.R_far (p := ⟨gb247, 2, none⟩) (Kd.R_far (p := ⟨gb247, 1, none⟩) (Kd.R_far (p := ⟨gb247, 0, none⟩) (Kd.R_types HO_250000.out BK247.out (by decide)) (fun _ hk => hk.2) (.slice Ao126 x250000_2.length co126)) (fun _ hk => hk.2) (.slice Ao129 x250001_2.length co129)) (fun _ hk => hk.2) (.int .i64 x250002_1)) (fun _ hk => hk.1), by (with_reducible repeat (first | apply Kd.R_alloc | apply Kd.R_drewN | apply Kd.R_drew)); exact Kd.R_mono (Kd.R_far (p := ⟨gb247, 2, none⟩) (Kd.R_far (p := ⟨gb247, 1, none⟩) (Kd.R_far (p := ⟨gb247, 0, none⟩) (Kd.R_types HO_250001.out BK247.out (by decide)) (fun _ hk => hk.2) (.slice Ao126 x250000_2.length co126)) (fun _ hk => hk.2) (.slice Ao129 x250001_2.length co129)) (fun _ hk => hk.2) (.int .i64 x250002_1)) (fun _ hk => hk.1), by repeat (first | (with_reducible first | exact HB.out | apply below_alloc | apply pw_below_drewN | apply below_drew1 | refine below_set ?_ GE246.out | refine below_set ?_ GE247.out | refine below_set ?_ GE249.out) | exact HB.out)⟩
 ·
  rw [if_neg c3] at H
  have c3b0 : (t248 == 0) = false := beq_eq_false_iff_ne.mpr c3
  have c3b1 : (t248 != 0) = true := bne_iff_ne.mpr c3
  simp only [Option.some.injEq, Prod.mk.injEq] at H
  obtain ⟨rfl, rfl, rfl⟩ := H
  go_enter Try.func22, Try.ntmps22
  go_wp2_with (first | ((with_reducible refine gate_dst (N := 1) rfl ?_); refine box_event ?hg (N := 1) ?hd (cs := #[.slice A0_0 l0_0.length c0_0, .slice A0_1 l0_1.length c0_1, .int .i64 a0_2]) (t := 24) ?hr ?_; (case hd => rfl); (case hg => rfl); (case hr => first | (go_simp; done) | (go_simp; rfl)); intro gb246 hg w130 hbox hb; have n0_ := Aside0.mk (below_step (by repeat (first | (with_reducible first | exact HB.out | apply below_alloc | apply pw_below_drewN | apply below_drew1) | exact HB.out)) hb); have n1_ := Aside0.mk (hbox); have n2_ := Aside0.mk ((by rw [hg]; exact (below_size (by repeat (first | (with_reducible first | exact HB.out | apply below_alloc | apply pw_below_drewN | apply below_drew1) | exact HB.out))) : w.heap.size ≤ gb246)); have n3_ := Aside0.mk ((by rw [hg]; exact (below_size (by repeat (first | (with_reducible first | exact HB.out | apply below_alloc | apply pw_below_drewN | apply below_drew1) | exact HB.out))) : w.heap.size ≤ gb246)); clear HB; have HB := n0_; have BK246 := n1_; have GW246 := n2_; have GE246 := n3_; clear n0_ n1_ n2_ n3_; clear hb hbox hg) | ((with_reducible refine gate_dst (N := 2) rfl ?_); refine box_event ?hg (N := 2) ?hd (cs := #[.slice none 0 0, .slice none 0 0, .int .i64 0]) (t := 24) ?hr ?_; (case hd => rfl); (case hg => rfl); (case hr => first | (go_simp; done) | (go_simp; rfl)); intro gb247 hg w131 hbox hb; have n0_ := Aside0.mk (blk_below (g := gb246) (o := .cells #[.slice A0_0 l0_0.length c0_0, .slice A0_1 l0_1.length c0_1, .int .i64 a0_2] 24 (0, 0)) (by (with_reducible repeat (first | refine blk_drewN ?_ _ | refine blk_drew ?_ | refine blk_alloc ?_ _)); exact BK246.out) hb); have n1_ := Aside0.mk (below_step (by repeat (first | (with_reducible first | exact HB.out | apply below_alloc | apply pw_below_drewN | apply below_drew1 | refine below_set ?_ GE246.out) | exact HB.out)) hb); have n2_ := Aside0.mk (hbox); have n3_ := Aside0.mk ((by rw [hg]; exact (below_size (by repeat (first | (with_reducible first | exact HB.out | apply below_alloc | apply pw_below_drewN | apply below_drew1 | refine below_set ?_ GE246.out) | exact HB.out))) : w.heap.size ≤ gb247)); have n4_ := Aside0.mk ((by rw [hg]; exact (below_size (by repeat (first | (with_reducible first | exact HB.out | apply below_alloc | apply pw_below_drewN | apply below_drew1 | refine below_set ?_ GE246.out) | exact HB.out))) : w.heap.size ≤ gb247)); have n5_ := Aside0.mk ((by rw [hg]; exact Nat.ne_of_lt (blk_lt (g := gb246) (o := .cells #[.slice A0_0 l0_0.length c0_0, .slice A0_1 l0_1.length c0_1, .int .i64 a0_2] 24 (0, 0)) (by (with_reducible repeat (first | refine blk_drewN ?_ _ | refine blk_drew ?_ | refine blk_alloc ?_ _)); exact BK246.out)) : gb246 ≠ gb247)); have n6_ := Aside0.mk ((by rw [hg]; exact Nat.ne_of_gt (blk_lt (g := gb246) (o := .cells #[.slice A0_0 l0_0.length c0_0, .slice A0_1 l0_1.length c0_1, .int .i64 a0_2] 24 (0, 0)) (by (with_reducible repeat (first | refine blk_drewN ?_ _ | refine blk_drew ?_ | refine blk_alloc ?_ _)); exact BK246.out)) : gb247 ≠ gb246)); clear BK246; clear HB; have BK246 := n0_; have HB := n1_; have BK247 := n2_; have GW247 := n3_; have GE247 := n4_; have NB246_247 := n5_; have NB247_246 := n6_; clear n0_ n1_ n2_ n3_ n4_ n5_ n6_; clear hb hbox hg; have hnb132 := NB246_247.out; have hnc132 := NB247_246.out; have hcz133_0 : w131.cell? ⟨gb246, 0, none⟩ = some (.slice A0_0 l0_0.length c0_0) := (blk_cell BK246.out 0).trans rfl; have hcz133_1 : w131.cell? ⟨gb246, 1, none⟩ = some (.slice A0_1 l0_1.length c0_1) := (blk_cell BK246.out 1).trans rfl; have hcz133_2 : w131.cell? ⟨gb246, 2, none⟩ = some (.int .i64 a0_2) := (blk_cell BK246.out 2).trans rfl; have hfz133_0 := blk_frozen BK246.out 0; have hfz133_1 := blk_frozen BK246.out 1; have hfz133_2 := blk_frozen BK246.out 2) | ((with_reducible refine gate_callee (f := 23) rfl ?_); refine goesL_ (some 11) rfl rfl Try.func23 (by kernel_rfl) rfl #[.agg #[.slice A0_0 l0_0.length c0_0, .slice A0_1 l0_1.length c0_1, .int .i64 a0_2], .int .i64 65536] rfl (by (try simp only [List.map_toArray, List.map_cons, List.map_nil]); first | done | rfl | (simp only [List.length_drop, List.length_take]; rfl)) ?_; (with_reducible refine (chalklineref12_Check.calls k _ _ l0_0 _ _ l0_1 a0_2 65536 t248 _ ?side1 ?side2 ?side3 ?side4 A2.out).mono ?_); (case side1 => repeat (first | exact (Kd.C_below HR0_0.out HB.out) | (with_reducible refine Kd.C_alloc ?_ _) | (with_reducible refine Kd.C_drewN ?_ _) | (with_reducible refine Kd.C_drew ?_))); (case side2 => exact HC0_0.out); (case side3 => repeat (first | exact (Kd.C_below HR0_1.out HB.out) | (with_reducible refine Kd.C_alloc ?_ _) | (with_reducible refine Kd.C_drewN ?_ _) | (with_reducible refine Kd.C_drew ?_))); (case side4 => exact HC0_1.out); rintro e w134 ⟨rfl, hb⟩; refine ⟨_, rfl, ?_⟩; have n0_ := Aside0.mk (blk_below (g := gb246) (o := .cells #[.slice A0_0 l0_0.length c0_0, .slice A0_1 l0_1.length c0_1, .int .i64 a0_2] 24 (0, 0)) (by (with_reducible repeat (first | refine blk_drewN ?_ _ | refine blk_drew ?_ | refine blk_alloc ?_ _)); exact BK246.out) hb); have n1_ := Aside0.mk (blk_below (g := gb247) (o := .cells #[.slice none 0 0, .slice none 0 0, .int .i64 0] 24 (0, 0)) (by (with_reducible repeat (first | refine blk_drewN ?_ _ | refine blk_drew ?_ | refine blk_alloc ?_ _)); exact BK247.out) hb); have n2_ := Aside0.mk (below_step (by repeat (first | (with_reducible first | exact HB.out | apply below_alloc | apply pw_below_drewN | apply below_drew1 | refine below_set ?_ GE246.out | refine below_set ?_ GE247.out) | exact HB.out)) hb); clear BK246; clear BK247; clear HB; have BK246 := n0_; have BK247 := n1_; have HB := n2_; clear n0_ n1_ n2_; (try clear hb); (try clear hb2); (try clear hk); (try clear hi); have hcz135_0 : w134.cell? ⟨gb247, 0, none⟩ = some (.slice none 0 0) := (blk_cell BK247.out 0).trans rfl; have hcz135_1 : w134.cell? ⟨gb247, 1, none⟩ = some (.slice none 0 0) := (blk_cell BK247.out 1).trans rfl; have hcz135_2 : w134.cell? ⟨gb247, 2, none⟩ = some (.int .i64 0) := (blk_cell BK247.out 2).trans rfl; have hfz135_0 := blk_frozen BK247.out 0; have hfz135_1 := blk_frozen BK247.out 1; have hfz135_2 := blk_frozen BK247.out 2))
  refine bodyPost_ret (results_cell_row rfl _ _ gb247 24 #[.slice none 0 0, .slice none 0 0, .int .i64 0] (0, 0) _ rfl (by (with_reducible repeat (first | refine blk_drewN ?_ _ | refine blk_drew ?_ | refine blk_alloc ?_ _)); refine blk_put (cs := #[.slice none 0 0, .slice none 0 0, .int .i64 0]) ?_ 2 _ rfl; (with_reducible repeat (first | refine blk_drewN ?_ _ | refine blk_drew ?_ | refine blk_alloc ?_ _)); refine blk_put (cs := #[.slice none 0 0, .slice none 0 0, .int .i64 0]) ?_ 1 _ rfl; (with_reducible repeat (first | refine blk_drewN ?_ _ | refine blk_drew ?_ | refine blk_alloc ?_ _)); refine blk_put (cs := #[.slice none 0 0, .slice none 0 0, .int .i64 0]) ?_ 0 _ rfl; (with_reducible repeat (first | refine blk_drewN ?_ _ | refine blk_drew ?_ | refine blk_alloc ?_ _)); exact BK247.out) Try.underlying24 rfl (by kernel_rfl)) rfl ?_
  exact ⟨_, _, by first | rfl | (simp [errW_none, errW_some] <;> rfl) | (simp [*, errW_none, errW_some] <;> rfl), by first | exact Kd.R_nil _ _ _ _ _ | exact Kd.N_nil _ _ _ _ _ | exact Kd.V_nil _ _ _ _ _ | exact Kd.Q_nil _ _ _ _ _ | exact Kd.S_nil _ _ _ _ _, by first | exact Kd.R_nil _ _ _ _ _ | exact Kd.N_nil _ _ _ _ _ | exact Kd.V_nil _ _ _ _ _ | exact Kd.Q_nil _ _ _ _ _ | exact Kd.S_nil _ _ _ _ _, by repeat (first | (with_reducible first | exact HB.out | apply below_alloc | apply pw_below_drewN | apply below_drew1 | refine below_set ?_ GE246.out | refine below_set ?_ GE247.out) | exact HB.out)⟩

end Go.Proofs.Ytmcljhjmmipagaa.PL
