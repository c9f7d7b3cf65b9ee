/- Lean functions that tell what the Go functions named below answer, and a proof for each that the Go function comes to just that answer; the conditions stand in each statement. -/
import Derived.Test.YtmcljhjmmipagaaPLx0
import Derived.Test.YtmcljhjmmipagaaPLx3
import Derived.Test.YtmcljhjmmipagaaPLx5
namespace Go.Proofs.Ytmcljhjmmipagaa.PL
open Go.RowKit Go.Proofs.YtmcljhjmmipagaaW.PrintWords Go.Proofs.YtmcljhjmmipagaaW.PrintLast Go.Proofs.YtmcljhjmmipagaaW.PrintMore
attribute [local go_sem] max2_int min2_int max_two min_two max_three min_three max_four min_four   -- for this text's walks alone
set_option linter.unusedVariables false
set_option linter.unusedSimpArgs false

/-! ### chalklineref12_Add: function 28 -/
def chalklineref12_Add.j0 : Nat → Int → List Int → List Int → Int → List Int → List Int → Int → Option (List Int × List Int × Int × Int)
 | 0, _, _, _, _, _, _, _ => none
 | k + 1, x6, x362000, x362001, x362002, x363000, x363001, x363002 => if x6 = 0 then (if (wrap64 ((x362001.length : Int) + (x363001.length : Int))) > 4096 then (some (([] : List Int), ([] : List Int), 0, 2)) else (if (wrap64 (x362002 + x363002)) < (-1099511627776) then (some (([] : List Int), ([] : List Int), 0, 2)) else (if (wrap64 (x362002 + x363002)) > 1099511627776 then (some (([] : List Int), ([] : List Int), 0, 2)) else (if ([] : List Int).length + x362000.length < 17592186044416 then ((some (([] : List Int) ++ x362000 : List Int)).bind fun y367 => (if y367.length + x363000.length < 17592186044416 then (if ([] : List Int).length + x362001.length < 17592186044416 then ((some (([] : List Int) ++ x362001 : List Int)).bind fun y373 => (if y373.length + x363001.length < 17592186044416 then (some ((y367 ++ x363000), (y373 ++ x363001), wrap64 (x362002 + x363002), 0)) else (none))) else (none)) else (none))) else (none))))) else (some (([] : List Int), ([] : List Int), 0, x6))
def chalklineref12_Add.f (k : Nat) (l0_0 : List Int) (l0_1 : List Int) (a0_2 : Int) (l1_0 : List Int) (l1_1 : List Int) (a1_2 : Int) : Option (List Int × List Int × Int × Int) := (chalklineref12_Check.f k l0_0 l0_1 a0_2 65536).bind fun t364 => (if t364 = 0 then ((chalklineref12_Check.f k l1_0 l1_1 a1_2 65536).bind fun t365 => (chalklineref12_Add.j0 k t365 l0_0 l0_1 a0_2 l1_0 l1_1 a1_2)) else (chalklineref12_Add.j0 k t364 l0_0 l0_1 a0_2 l1_0 l1_1 a1_2))
set_option maxHeartbeats 8000000 in
set_option maxRecDepth 100000 in
theorem chalklineref12_Add.calls (k : Nat) (A0_0 : Option Addr) (c0_0 : Nat) (l0_0 : List Int) (A0_1 : Option Addr) (c0_1 : Nat) (l0_1 : List Int) (a0_2 : Int) (A1_0 : Option Addr) (c1_0 : Nat) (l1_0 : List Int) (A1_1 : Option Addr) (c1_1 : Nat) (l1_1 : List Int) (a1_2 : Int) (r1 : List Int) (r2 : List Int) (r3 : Int) (r4 : Int) (w : World) (hr0_0 : Kd.C (Kd.int .i64) w A0_0 l0_0.length l0_0) (hc0_0 : l0_0.length ≤ c0_0) (hr0_1 : Kd.C (Kd.int .i64) w A0_1 l0_1.length l0_1) (hc0_1 : l0_1.length ≤ c0_1) (hr1_0 : Kd.C (Kd.int .i64) w A1_0 l1_0.length l1_0) (hc1_0 : l1_0.length ≤ c1_0) (hr1_1 : Kd.C (Kd.int .i64) w A1_1 l1_1.length l1_1) (hc1_1 : l1_1.length ≤ c1_1) (h : chalklineref12_Add.f k l0_0 l0_1 a0_2 l1_0 l1_1 a1_2 = some (r1, r2, r3, r4)) :
  Calls Try.prog 28 #[.agg #[.slice A0_0 l0_0.length c0_0, .slice A0_1 l0_1.length c0_1, .int .i64 a0_2], .agg #[.slice A1_0 l1_0.length c1_0, .slice A1_1 l1_1.length c1_1, .int .i64 a1_2]] w fun e w' => ∃ v0_ v1_ : Value, e = .returned (.tuple #[.agg #[v0_, v1_, .int .i64 r3], .int .i64 r4]) ∧ Kd.R (Kd.int .i64) 3 w' w.heap.size (fun k_ => some k_ ≠ (v1_ : Value).ownBlock) v0_ r1 ∧ Kd.R (Kd.int .i64) 3 w' w.heap.size (fun k_ => some k_ ≠ (v0_ : Value).ownBlock) v1_ r2 ∧ Below w.heap.size w w' := by
 have hu24 := Try.underlying24
 have HR0_0 := Aside0.mk hr0_0
 have HC0_0 := Aside0.mk hc0_0
 clear hr0_0 hc0_0
 have HR0_1 := Aside0.mk hr0_1
 have HC0_1 := Aside0.mk hc0_1
 clear hr0_1 hc0_1
 have HR1_0 := Aside0.mk hr1_0
 have HC1_0 := Aside0.mk hc1_0
 clear hr1_0 hc1_0
 have HR1_1 := Aside0.mk hr1_1
 have HC1_1 := Aside0.mk hc1_1
 clear hr1_1 hc1_1
 have HB := Aside0.mk (Below.refl w.heap.size w)
 have H : ((chalklineref12_Check.f k l0_0 l0_1 a0_2 65536).bind fun t364 => (if t364 = 0 then ((chalklineref12_Check.f k l1_0 l1_1 a1_2 65536).bind fun t365 => (chalklineref12_Add.j0 k t365 l0_0 l0_1 a0_2 l1_0 l1_1 a1_2)) else (chalklineref12_Add.j0 k t364 l0_0 l0_1 a0_2 l1_0 l1_1 a1_2))) = some (r1, r2, r3, r4) := h
 clear h
 replace H := Option.bind_eq_some_iff.mp H
 obtain ⟨t364, A30, H⟩ := H
 replace H : (if t364 = 0 then ((chalklineref12_Check.f k l1_0 l1_1 a1_2 65536).bind fun t365 => (chalklineref12_Add.j0 k t365 l0_0 l0_1 a0_2 l1_0 l1_1 a1_2)) else (chalklineref12_Add.j0 k t364 l0_0 l0_1 a0_2 l1_0 l1_1 a1_2)) = some (r1, r2, r3, r4) := H
 have A3 := Aside0.mk A30
 clear A30
 have HC4 := Aside0.mk H
 clear H
 go_enter Try.func28, Try.ntmps28
 go_upto_if 12 with (first | ((with_reducible refine gate_dst (N := 2) rfl ?_); refine box_event ?hg (N := 2) ?hd (cs := #[.slice A0_0 l0_0.length c0_0, .slice A0_1 l0_1.length c0_1, .int .i64 a0_2]) (t := 24) ?hr ?_; (case hd => rfl); (case hg => rfl); (case hr => first | (go_simp; done) | (go_simp; rfl)); intro gb361 hg w5 hbox hb; have n0_ := Aside0.mk (below_step (by repeat (first | (with_reducible first | exact HB.out | apply below_alloc | apply pw_below_drewN | apply below_drew1) | exact HB.out)) hb); have n1_ := Aside0.mk (hbox); have n2_ := Aside0.mk ((by rw [hg]; exact (below_size (by repeat (first | (with_reducible first | exact HB.out | apply below_alloc | apply pw_below_drewN | apply below_drew1) | exact HB.out))) : w.heap.size ≤ gb361)); have n3_ := Aside0.mk ((by rw [hg]; exact (below_size (by repeat (first | (with_reducible first | exact HB.out | apply below_alloc | apply pw_below_drewN | apply below_drew1) | exact HB.out))) : w.heap.size ≤ gb361)); clear HB; have HB := n0_; have BK361 := n1_; have GW361 := n2_; have GE361 := n3_; clear n0_ n1_ n2_ n3_; clear hb hbox hg) | ((with_reducible refine gate_dst (N := 3) rfl ?_); refine box_event ?hg (N := 3) ?hd (cs := #[.slice A1_0 l1_0.length c1_0, .slice A1_1 l1_1.length c1_1, .int .i64 a1_2]) (t := 24) ?hr ?_; (case hd => rfl); (case hg => rfl); (case hr => first | (go_simp; done) | (go_simp; rfl)); intro gb362 hg w6 hbox hb; have n0_ := Aside0.mk (blk_below (g := gb361) (o := .cells #[.slice A0_0 l0_0.length c0_0, .slice A0_1 l0_1.length c0_1, .int .i64 a0_2] 24 (0, 0)) (by (with_reducible repeat (first | refine blk_drewN ?_ _ | refine blk_drew ?_ | refine blk_alloc ?_ _)); exact BK361.out) hb); have n1_ := Aside0.mk (below_step (by repeat (first | (with_reducible first | exact HB.out | apply below_alloc | apply pw_below_drewN | apply below_drew1 | refine below_set ?_ GE361.out) | exact HB.out)) hb); have n2_ := Aside0.mk (hbox); have n3_ := Aside0.mk ((by rw [hg]; exact (below_size (by repeat (first | (with_reducible first | exact HB.out | apply below_alloc | apply pw_below_drewN | apply below_drew1 | refine below_set ?_ GE361.out) | exact HB.out))) : w.heap.size ≤ gb362)); have n4_ := Aside0.mk ((by rw [hg]; exact (below_size (by repeat (first | (with_reducible first | exact HB.out | apply below_alloc | apply pw_below_drewN | apply below_drew1 | refine below_set ?_ GE361.out) | exact HB.out))) : w.heap.size ≤ gb362)); have n5_ := Aside0.mk ((by rw [hg]; exact Nat.ne_of_lt (blk_lt (g := gb361) (o := .cells #[.slice A0_0 l0_0.length c0_0, .slice A0_1 l0_1.length c0_1, .int .i64 a0_2] 24 (0, 0)) (by (with_reducible repeat (first | refine blk_drewN ?_ _ | refine blk_drew ?_ | refine blk_alloc ?_ _)); exact BK361.out)) : gb361 ≠ gb362)); have n6_ := Aside0.mk ((by rw [hg]; exact Nat.ne_of_gt (blk_lt (g := gb361) (o := .cells #[.slice A0_0 l0_0.length c0_0, .slice A0_1 l0_1.length c0_1, .int .i64 a0_2] 24 (0, 0)) (by (with_reducible repeat (first | refine blk_drewN ?_ _ | refine blk_drew ?_ | refine blk_alloc ?_ _)); exact BK361.out)) : gb362 ≠ gb361)); clear BK361; clear HB; have BK361 := n0_; have HB := n1_; have BK362 := n2_; have GW362 := n3_; have GE362 := n4_; have NB361_362 := n5_; have NB362_361 := n6_; clear n0_ n1_ n2_ n3_ n4_ n5_ n6_; clear hb hbox hg) | ((with_reducible refine gate_dst (N := 4) rfl ?_); refine box_event ?hg (N := 4) ?hd (cs := #[.slice none 0 0, .slice none 0 0, .int .i64 0]) (t := 24) ?hr ?_; (case hd => rfl); (case hg => rfl); (case hr => first | (go_simp; done) | (go_simp; rfl)); intro gb363 hg w7 hbox hb; have n0_ := Aside0.mk (blk_below (g := gb361) (o := .cells #[.slice A0_0 l0_0.length c0_0, .slice A0_1 l0_1.length c0_1, .int .i64 a0_2] 24 (0, 0)) (by (with_reducible repeat (first | refine blk_drewN ?_ _ | refine blk_drew ?_ | refine blk_alloc ?_ _)); exact BK361.out) hb); have n1_ := Aside0.mk (blk_below (g := gb362) (o := .cells #[.slice A1_0 l1_0.length c1_0, .slice A1_1 l1_1.length c1_1, .int .i64 a1_2] 24 (0, 0)) (by (with_reducible repeat (first | refine blk_drewN ?_ _ | refine blk_drew ?_ | refine blk_alloc ?_ _)); exact BK362.out) hb); have n2_ := Aside0.mk (below_step (by repeat (first | (with_reducible first | exact HB.out | apply below_alloc | apply pw_below_drewN | apply below_drew1 | refine below_set ?_ GE361.out | refine below_set ?_ GE362.out) | exact HB.out)) hb); have n3_ := Aside0.mk (hbox); have n4_ := Aside0.mk ((by rw [hg]; exact (below_size (by repeat (first | (with_reducible first | exact HB.out | apply below_alloc | apply pw_below_drewN | apply below_drew1 | refine below_set ?_ GE361.out | refine below_set ?_ GE362.out) | exact HB.out))) : w.heap.size ≤ gb363)); have n5_ := Aside0.mk ((by rw [hg]; exact (below_size (by repeat (first | (with_reducible first | exact HB.out | apply below_alloc | apply pw_below_drewN | apply below_drew1 | refine below_set ?_ GE361.out | refine below_set ?_ GE362.out) | exact HB.out))) : w.heap.size ≤ gb363)); have n6_ := Aside0.mk ((by rw [hg]; exact Nat.ne_of_lt (blk_lt (g := gb361) (o := .cells #[.slice A0_0 l0_0.length c0_0, .slice A0_1 l0_1.length c0_1, .int .i64 a0_2] 24 (0, 0)) (by (with_reducible repeat (first | refine blk_drewN ?_ _ | refine blk_drew ?_ | refine blk_alloc ?_ _)); exact BK361.out)) : gb361 ≠ gb363)); have n7_ := Aside0.mk ((by rw [hg]; exact Nat.ne_of_gt (blk_lt (g := gb361) (o := .cells #[.slice A0_0 l0_0.length c0_0, .slice A0_1 l0_1.length c0_1, .int .i64 a0_2] 24 (0, 0)) (by (with_reducible repeat (first | refine blk_drewN ?_ _ | refine blk_drew ?_ | refine blk_alloc ?_ _)); exact BK361.out)) : gb363 ≠ gb361)); have n8_ := Aside0.mk ((by rw [hg]; exact Nat.ne_of_lt (blk_lt (g := gb362) (o := .cells #[.slice A1_0 l1_0.length c1_0, .slice A1_1 l1_1.length c1_1, .int .i64 a1_2] 24 (0, 0)) (by (with_reducible repeat (first | refine blk_drewN ?_ _ | refine blk_drew ?_ | refine blk_alloc ?_ _)); exact BK362.out)) : gb362 ≠ gb363)); have n9_ := Aside0.mk ((by rw [hg]; exact Nat.ne_of_gt (blk_lt (g := gb362) (o := .cells #[.slice A1_0 l1_0.length c1_0, .slice A1_1 l1_1.length c1_1, .int .i64 a1_2] 24 (0, 0)) (by (with_reducible repeat (first | refine blk_drewN ?_ _ | refine blk_drew ?_ | refine blk_alloc ?_ _)); exact BK362.out)) : gb363 ≠ gb362)); clear BK361; clear BK362; clear HB; have BK361 := n0_; have BK362 := n1_; have HB := n2_; have BK363 := n3_; have GW363 := n4_; have GE363 := n5_; have NB361_363 := n6_; have NB363_361 := n7_; have NB362_363 := n8_; have NB363_362 := n9_; clear n0_ n1_ n2_ n3_ n4_ n5_ n6_ n7_ n8_ n9_; clear hb hbox hg; have hnb8 := NB361_362.out; have hnc8 := NB362_361.out; have hnb9 := NB361_363.out; have hnc9 := NB363_361.out; have hcz10_0 : w7.cell? ⟨gb361, 0, none⟩ = some (.slice A0_0 l0_0.length c0_0) := (blk_cell BK361.out 0).trans rfl; have hcz10_1 : w7.cell? ⟨gb361, 1, none⟩ = some (.slice A0_1 l0_1.length c0_1) := (blk_cell BK361.out 1).trans rfl; have hcz10_2 : w7.cell? ⟨gb361, 2, none⟩ = some (.int .i64 a0_2) := (blk_cell BK361.out 2).trans rfl; have hfz10_0 := blk_frozen BK361.out 0; have hfz10_1 := blk_frozen BK361.out 1; have hfz10_2 := blk_frozen BK361.out 2) | ((with_reducible refine gate_callee (f := 23) rfl ?_); refine goesL_ (some 10) rfl rfl Try.func23 (by kernel_rfl) rfl #[.agg #[.slice A0_0 l0_0.length c0_0, .slice A0_1 l0_1.length c0_1, .int .i64 a0_2], .int .i64 65536] rfl (by (try simp only [List.map_toArray, List.map_cons, List.map_nil]); first | done | rfl | (simp only [List.length_drop, List.length_take]; rfl)) ?_; (with_reducible refine (chalklineref12_Check.calls k _ _ l0_0 _ _ l0_1 a0_2 65536 t364 _ ?side1 ?side2 ?side3 ?side4 A3.out).mono ?_); (case side1 => repeat (first | exact (Kd.C_below HR0_0.out HB.out) | (with_reducible refine Kd.C_alloc ?_ _) | (with_reducible refine Kd.C_drewN ?_ _) | (with_reducible refine Kd.C_drew ?_))); (case side2 => exact HC0_0.out); (case side3 => repeat (first | exact (Kd.C_below HR0_1.out HB.out) | (with_reducible refine Kd.C_alloc ?_ _) | (with_reducible refine Kd.C_drewN ?_ _) | (with_reducible refine Kd.C_drew ?_))); (case side4 => exact HC0_1.out); rintro e w11 ⟨rfl, hb⟩; refine ⟨_, rfl, ?_⟩; have n0_ := Aside0.mk (blk_below (g := gb361) (o := .cells #[.slice A0_0 l0_0.length c0_0, .slice A0_1 l0_1.length c0_1, .int .i64 a0_2] 24 (0, 0)) (by (with_reducible repeat (first | refine blk_drewN ?_ _ | refine blk_drew ?_ | refine blk_alloc ?_ _)); exact BK361.out) hb); have n1_ := Aside0.mk (blk_below (g := gb362) (o := .cells #[.slice A1_0 l1_0.length c1_0, .slice A1_1 l1_1.length c1_1, .int .i64 a1_2] 24 (0, 0)) (by (with_reducible repeat (first | refine blk_drewN ?_ _ | refine blk_drew ?_ | refine blk_alloc ?_ _)); exact BK362.out) hb); have n2_ := Aside0.mk (blk_below (g := gb363) (o := .cells #[.slice none 0 0, .slice none 0 0, .int .i64 0] 24 (0, 0)) (by (with_reducible repeat (first | refine blk_drewN ?_ _ | refine blk_drew ?_ | refine blk_alloc ?_ _)); exact BK363.out) hb); have n3_ := Aside0.mk (below_step (by repeat (first | (with_reducible first | exact HB.out | apply below_alloc | apply pw_below_drewN | apply below_drew1 | refine below_set ?_ GE361.out | refine below_set ?_ GE362.out | refine below_set ?_ GE363.out) | exact HB.out)) hb); clear BK361; clear BK362; clear BK363; clear HB; have BK361 := n0_; have BK362 := n1_; have BK363 := n2_; have HB := n3_; clear n0_ n1_ n2_ n3_; (try clear hb); (try clear hb2); (try clear hk); (try clear hi)))
 (try simp only [Act.put, List.setIfInBounds_toArray, List.set_cons_zero, List.set_cons_succ])
 go_cut [6] (fun v6 wc => ∃ (kq : Nat) (x6_3 : Int), v6 = .int .i64 x6_3 ∧ Aside0 (chalklineref12_Add.j0 kq x6_3 l0_0 l0_1 a0_2 l1_0 l1_1 a1_2 = some (r1, r2, r3, r4)) ∧ Aside0 (kq ≤ k) ∧ Aside0 (wc.heap[gb361]? = some (.cells #[(.slice A0_0 l0_0.length c0_0), (.slice A0_1 l0_1.length c0_1), .int .i64 a0_2] 24 (0, 0))) ∧ Aside0 (wc.heap[gb362]? = some (.cells #[(.slice A1_0 l1_0.length c1_0), (.slice A1_1 l1_1.length c1_1), .int .i64 a1_2] 24 (0, 0))) ∧ Aside0 (wc.heap[gb363]? = some (.cells #[(.slice none 0 0), (.slice none 0 0), .int .i64 0] 24 (0, 0))) ∧ Aside0 (Below w.heap.size w wc))
 case first =>
  have H := HC4.out
  clear HC4
  by_cases c12 : t364 = 0
  ·
   rw [if_pos c12] at H
   have c12b0 : (t364 == 0) = true := beq_iff_eq.mpr c12
   have c12b1 : (t364 != 0) = false := bne_eq_false_iff_eq.mpr c12
   clear c12
   (first | rw [c12b0] | (simp only [i64_w, i32_w]; rw [c12b0]) | skip)
   replace H := Option.bind_eq_some_iff.mp H
   obtain ⟨t365, A130, H⟩ := H
   replace H : (chalklineref12_Add.j0 k t365 l0_0 l0_1 a0_2 l1_0 l1_1 a1_2) = some (r1, r2, r3, r4) := H
   have A13 := Aside0.mk A130
   clear A130
   have H' := Aside0.mk H
   clear H
   have hnb14 := NB362_361.out
   have hnc14 := NB361_362.out
   have hnb15 := NB362_363.out
   have hnc15 := NB363_362.out
   have hcz16_0 : w11.cell? ⟨gb362, 0, none⟩ = some (.slice A1_0 l1_0.length c1_0) := (blk_cell BK362.out 0).trans rfl
   have hcz16_1 : w11.cell? ⟨gb362, 1, none⟩ = some (.slice A1_1 l1_1.length c1_1) := (blk_cell BK362.out 1).trans rfl
   have hcz16_2 : w11.cell? ⟨gb362, 2, none⟩ = some (.int .i64 a1_2) := (blk_cell BK362.out 2).trans rfl
   have hfz16_0 := blk_frozen BK362.out 0
   have hfz16_1 := blk_frozen BK362.out 1
   have hfz16_2 := blk_frozen BK362.out 2
   go_wp2_with (first | ((with_reducible refine gate_callee (f := 23) rfl ?_); refine goesL_ (some 14) rfl rfl Try.func23 (by kernel_rfl) rfl #[.agg #[.slice A1_0 l1_0.length c1_0, .slice A1_1 l1_1.length c1_1, .int .i64 a1_2], .int .i64 65536] rfl (by (try simp only [List.map_toArray, List.map_cons, List.map_nil]); first | done | rfl | (simp only [List.length_drop, List.length_take]; rfl)) ?_; (with_reducible refine (chalklineref12_Check.calls k _ _ l1_0 _ _ l1_1 a1_2 65536 t365 _ ?side1 ?side2 ?side3 ?side4 A13.out).mono ?_); (case side1 => repeat (first | exact (Kd.C_below HR1_0.out HB.out) | (with_reducible refine Kd.C_alloc ?_ _) | (with_reducible refine Kd.C_drewN ?_ _) | (with_reducible refine Kd.C_drew ?_))); (case side2 => exact HC1_0.out); (case side3 => repeat (first | exact (Kd.C_below HR1_1.out HB.out) | (with_reducible refine Kd.C_alloc ?_ _) | (with_reducible refine Kd.C_drewN ?_ _) | (with_reducible refine Kd.C_drew ?_))); (case side4 => exact HC1_1.out); rintro e w17 ⟨rfl, hb⟩; refine ⟨_, rfl, ?_⟩; have n0_ := Aside0.mk (blk_below (g := gb361) (o := .cells #[.slice A0_0 l0_0.length c0_0, .slice A0_1 l0_1.length c0_1, .int .i64 a0_2] 24 (0, 0)) (by (with_reducible repeat (first | refine blk_drewN ?_ _ | refine blk_drew ?_ | refine blk_alloc ?_ _)); exact BK361.out) hb); have n1_ := Aside0.mk (blk_below (g := gb362) (o := .cells #[.slice A1_0 l1_0.length c1_0, .slice A1_1 l1_1.length c1_1, .int .i64 a1_2] 24 (0, 0)) (by (with_reducible repeat (first | refine blk_drewN ?_ _ | refine blk_drew ?_ | refine blk_alloc ?_ _)); exact BK362.out) hb); have n2_ := Aside0.mk (blk_below (g := gb363) (o := .cells #[.slice none 0 0, .slice none 0 0, .int .i64 0] 24 (0, 0)) (by (with_reducible repeat (first | refine blk_drewN ?_ _ | refine blk_drew ?_ | refine blk_alloc ?_ _)); exact BK363.out) hb); have n3_ := Aside0.mk (below_step (by repeat (first | (with_reducible first | exact HB.out | apply below_alloc | apply pw_below_drewN | apply below_drew1 | refine below_set ?_ GE361.out | refine below_set ?_ GE362.out | refine below_set ?_ GE363.out) | exact HB.out)) hb); clear BK361; clear BK362; clear BK363; clear HB; have BK361 := n0_; have BK362 := n1_; have BK363 := n2_; have HB := n3_; clear n0_ n1_ n2_ n3_; (try clear hb); (try clear hb2); (try clear hk); (try clear hi)))
   go_meet
   case rel => exact ⟨_, (t365), (by first | rfl | (simp; done) | (simp [*]; done)), H', ⟨by first | omega | exact Nat.le_refl _⟩, ⟨by (with_reducible repeat (first | refine blk_drewN ?_ _ | refine blk_drew ?_ | refine blk_alloc ?_ _)); exact BK361.out⟩, ⟨by (with_reducible repeat (first | refine blk_drewN ?_ _ | refine blk_drew ?_ | refine blk_alloc ?_ _)); exact BK362.out⟩, ⟨by (with_reducible repeat (first | refine blk_drewN ?_ _ | refine blk_drew ?_ | refine blk_alloc ?_ _)); exact BK363.out⟩, ⟨by repeat (first | (with_reducible first | exact HB.out | apply below_alloc | apply pw_below_drewN | apply below_drew1 | refine below_set ?_ GE361.out | refine below_set ?_ GE362.out | refine below_set ?_ GE363.out) | exact HB.out)⟩⟩
  ·
   rw [if_neg c12] at H
   have c12b0 : (t364 == 0) = false := beq_eq_false_iff_ne.mpr c12
   have c12b1 : (t364 != 0) = true := bne_iff_ne.mpr c12
   (first | rw [c12b0] | (simp only [i64_w, i32_w]; rw [c12b0]) | skip)
   have H' := Aside0.mk H
   clear H
   go_wp2
   go_meet
   case rel => exact ⟨_, (t364), (by first | rfl | (simp; done) | (simp [*]; done)), H', ⟨by first | omega | exact Nat.le_refl _⟩, ⟨by (with_reducible repeat (first | refine blk_drewN ?_ _ | refine blk_drew ?_ | refine blk_alloc ?_ _)); exact BK361.out⟩, ⟨by (with_reducible repeat (first | refine blk_drewN ?_ _ | refine blk_drew ?_ | refine blk_alloc ?_ _)); exact BK362.out⟩, ⟨by (with_reducible repeat (first | refine blk_drewN ?_ _ | refine blk_drew ?_ | refine blk_alloc ?_ _)); exact BK363.out⟩, ⟨by repeat (first | (with_reducible first | exact HB.out | apply below_alloc | apply pw_below_drewN | apply below_drew1 | refine below_set ?_ GE361.out | refine below_set ?_ GE362.out | refine below_set ?_ GE363.out) | exact HB.out)⟩⟩
 case rest =>
  clear HC4
  obtain ⟨kq, x6_3, rfl, HA, HJ3, BK361, BK362, BK363, HB⟩ := hcut
  cases kq with
  | zero => exact absurd HA.out (by simp [chalklineref12_Add.j0])
  | succ kj3 =>
   have H := HA.out
   clear HA
   simp only [chalklineref12_Add.j0] at H
   by_cases c18 : x6_3 = 0
   ·
    rw [if_pos c18] at H
    have c18b0 : (x6_3 == 0) = true := beq_iff_eq.mpr c18
    have c18b1 : (x6_3 != 0) = false := bne_eq_false_iff_eq.mpr c18
    clear c18
    by_cases c19 : (wrap64 ((l0_1.length : Int) + (l1_1.length : Int))) > 4096
    ·
     rw [if_pos c19] at H
     have c19b0 : decide (4096 < (wrap64 ((l0_1.length : Int) + (l1_1.length : Int)))) = true := decide_eq_true c19
     clear c19
     simp only [Option.some.injEq, Prod.mk.injEq] at H
     obtain ⟨rfl, rfl, rfl, rfl⟩ := H
     have hnb20 := NB361_362.out
     have hnc20 := NB362_361.out
     have hnb21 := NB361_363.out
     have hnc21 := NB363_361.out
     have hcz22_0 : wc.cell? ⟨gb361, 0, none⟩ = some (.slice A0_0 l0_0.length c0_0) := (blk_cell BK361.out 0).trans rfl
     have hcz22_1 : wc.cell? ⟨gb361, 1, none⟩ = some (.slice A0_1 l0_1.length c0_1) := (blk_cell BK361.out 1).trans rfl
     have hcz22_2 : wc.cell? ⟨gb361, 2, none⟩ = some (.int .i64 a0_2) := (blk_cell BK361.out 2).trans rfl
     have hfz22_0 := blk_frozen BK361.out 0
     have hfz22_1 := blk_frozen BK361.out 1
     have hfz22_2 := blk_frozen BK361.out 2
     have hnb23 := NB362_363.out
     have hnc23 := NB363_362.out
     have hcz24_0 : wc.cell? ⟨gb362, 0, none⟩ = some (.slice A1_0 l1_0.length c1_0) := (blk_cell BK362.out 0).trans rfl
     have hcz24_1 : wc.cell? ⟨gb362, 1, none⟩ = some (.slice A1_1 l1_1.length c1_1) := (blk_cell BK362.out 1).trans rfl
     have hcz24_2 : wc.cell? ⟨gb362, 2, none⟩ = some (.int .i64 a1_2) := (blk_cell BK362.out 2).trans rfl
     have hfz24_0 := blk_frozen BK362.out 0
     have hfz24_1 := blk_frozen BK362.out 1
     have hfz24_2 := blk_frozen BK362.out 2
     have hcz25_0 : wc.cell? ⟨gb363, 0, none⟩ = some (.slice none 0 0) := (blk_cell BK363.out 0).trans rfl
     have hcz25_1 : wc.cell? ⟨gb363, 1, none⟩ = some (.slice none 0 0) := (blk_cell BK363.out 1).trans rfl
     have hcz25_2 : wc.cell? ⟨gb363, 2, none⟩ = some (.int .i64 0) := (blk_cell BK363.out 2).trans rfl
     have hfz25_0 := blk_frozen BK363.out 0
     have hfz25_1 := blk_frozen BK363.out 1
     have hfz25_2 := blk_frozen BK363.out 2
     go_wp2
     refine bodyPost_ret (results_ct rfl _ _ gb363 24 #[.slice none 0 0, .slice none 0 0, .int .i64 0] (0, 0) _ rfl (by (with_reducible repeat (first | refine blk_drewN ?_ _ | refine blk_drew ?_ | refine blk_alloc ?_ _)); refine blk_put (cs := #[.slice none 0 0, .slice none 0 0, .int .i64 0]) ?_ 2 _ rfl; (with_reducible repeat (first | refine blk_drewN ?_ _ | refine blk_drew ?_ | refine blk_alloc ?_ _)); refine blk_put (cs := #[.slice none 0 0, .slice none 0 0, .int .i64 0]) ?_ 1 _ rfl; (with_reducible repeat (first | refine blk_drewN ?_ _ | refine blk_drew ?_ | refine blk_alloc ?_ _)); refine blk_put (cs := #[.slice none 0 0, .slice none 0 0, .int .i64 0]) ?_ 0 _ rfl; (with_reducible repeat (first | refine blk_drewN ?_ _ | refine blk_drew ?_ | refine blk_alloc ?_ _)); exact BK363.out) Try.underlying24 rfl (by kernel_rfl)) rfl ?_
     exact ⟨_, _, by first | rfl | (simp [errW_none, errW_some] <;> rfl) | (simp [*, errW_none, errW_some] <;> rfl), by first | exact Kd.R_nil _ _ _ _ _ | exact Kd.N_nil _ _ _ _ _ | exact Kd.V_nil _ _ _ _ _ | exact Kd.Q_nil _ _ _ _ _ | exact Kd.S_nil _ _ _ _ _, by first | exact Kd.R_nil _ _ _ _ _ | exact Kd.N_nil _ _ _ _ _ | exact Kd.V_nil _ _ _ _ _ | exact Kd.Q_nil _ _ _ _ _ | exact Kd.S_nil _ _ _ _ _, by repeat (first | (with_reducible first | exact HB.out | apply below_alloc | apply pw_below_drewN | apply below_drew1 | refine below_set ?_ GE361.out | refine below_set ?_ GE362.out | refine below_set ?_ GE363.out) | exact HB.out)⟩
    ·
     rw [if_neg c19] at H
     have c19b0 : decide (4096 < (wrap64 ((l0_1.length : Int) + (l1_1.length : Int)))) = false := decide_eq_false c19
     clear c19
     by_cases c26 : (wrap64 (a0_2 + a1_2)) < (-1099511627776)
     ·
      rw [if_pos c26] at H
      have c26b0 : decide ((wrap64 (a0_2 + a1_2)) < (-1099511627776)) = true := decide_eq_true c26
      clear c26
      simp only [Option.some.injEq, Prod.mk.injEq] at H
      obtain ⟨rfl, rfl, rfl, rfl⟩ := H
      have hnb27 := NB361_362.out
      have hnc27 := NB362_361.out
      have hnb28 := NB361_363.out
      have hnc28 := NB363_361.out
      have hcz29_0 : wc.cell? ⟨gb361, 0, none⟩ = some (.slice A0_0 l0_0.length c0_0) := (blk_cell BK361.out 0).trans rfl
      have hcz29_1 : wc.cell? ⟨gb361, 1, none⟩ = some (.slice A0_1 l0_1.length c0_1) := (blk_cell BK361.out 1).trans rfl
      have hcz29_2 : wc.cell? ⟨gb361, 2, none⟩ = some (.int .i64 a0_2) := (blk_cell BK361.out 2).trans rfl
      have hfz29_0 := blk_frozen BK361.out 0
      have hfz29_1 := blk_frozen BK361.out 1
      have hfz29_2 := blk_frozen BK361.out 2
      have hnb30 := NB362_363.out
      have hnc30 := NB363_362.out
      have hcz31_0 : wc.cell? ⟨gb362, 0, none⟩ = some (.slice A1_0 l1_0.length c1_0) := (blk_cell BK362.out 0).trans rfl
      have hcz31_1 : wc.cell? ⟨gb362, 1, none⟩ = some (.slice A1_1 l1_1.length c1_1) := (blk_cell BK362.out 1).trans rfl
      have hcz31_2 : wc.cell? ⟨gb362, 2, none⟩ = some (.int .i64 a1_2) := (blk_cell BK362.out 2).trans rfl
      have hfz31_0 := blk_frozen BK362.out 0
      have hfz31_1 := blk_frozen BK362.out 1
      have hfz31_2 := blk_frozen BK362.out 2
      have hcz32_0 : wc.cell? ⟨gb363, 0, none⟩ = some (.slice none 0 0) := (blk_cell BK363.out 0).trans rfl
      have hcz32_1 : wc.cell? ⟨gb363, 1, none⟩ = some (.slice none 0 0) := (blk_cell BK363.out 1).trans rfl
      have hcz32_2 : wc.cell? ⟨gb363, 2, none⟩ = some (.int .i64 0) := (blk_cell BK363.out 2).trans rfl
      have hfz32_0 := blk_frozen BK363.out 0
      have hfz32_1 := blk_frozen BK363.out 1
      have hfz32_2 := blk_frozen BK363.out 2
      go_wp2
      refine bodyPost_ret (results_ct rfl _ _ gb363 24 #[.slice none 0 0, .slice none 0 0, .int .i64 0] (0, 0) _ rfl (by (with_reducible repeat (first | refine blk_drewN ?_ _ | refine blk_drew ?_ | refine blk_alloc ?_ _)); refine blk_put (cs := #[.slice none 0 0, .slice none 0 0, .int .i64 0]) ?_ 2 _ rfl; (with_reducible repeat (first | refine blk_drewN ?_ _ | refine blk_drew ?_ | refine blk_alloc ?_ _)); refine blk_put (cs := #[.slice none 0 0, .slice none 0 0, .int .i64 0]) ?_ 1 _ rfl; (with_reducible repeat (first | refine blk_drewN ?_ _ | refine blk_drew ?_ | refine blk_alloc ?_ _)); refine blk_put (cs := #[.slice none 0 0, .slice none 0 0, .int .i64 0]) ?_ 0 _ rfl; (with_reducible repeat (first | refine blk_drewN ?_ _ | refine blk_drew ?_ | refine blk_alloc ?_ _)); exact BK363.out) Try.underlying24 rfl (by kernel_rfl)) rfl ?_
      exact ⟨_, _, by first | rfl | (simp [errW_none, errW_some] <;> rfl) | (simp [*, errW_none, errW_some] <;> rfl), by first | exact Kd.R_nil _ _ _ _ _ | exact Kd.N_nil _ _ _ _ _ | exact Kd.V_nil _ _ _ _ _ | exact Kd.Q_nil _ _ _ _ _ | exact Kd.S_nil _ _ _ _ _, by first | exact Kd.R_nil _ _ _ _ _ | exact Kd.N_nil _ _ _ _ _ | exact Kd.V_nil _ _ _ _ _ | exact Kd.Q_nil _ _ _ _ _ | exact Kd.S_nil _ _ _ _ _, by repeat (first | (with_reducible first | exact HB.out | apply below_alloc | apply pw_below_drewN | apply below_drew1 | refine below_set ?_ GE361.out | refine below_set ?_ GE362.out | refine below_set ?_ GE363.out) | exact HB.out)⟩
     ·
      rw [if_neg c26] at H
      have c26b0 : decide ((wrap64 (a0_2 + a1_2)) < (-1099511627776)) = false := decide_eq_false c26
      clear c26
      by_cases c33 : (wrap64 (a0_2 + a1_2)) > 1099511627776
      ·
       rw [if_pos c33] at H
       have c33b0 : decide (1099511627776 < (wrap64 (a0_2 + a1_2))) = true := decide_eq_true c33
       clear c33
       simp only [Option.some.injEq, Prod.mk.injEq] at H
       obtain ⟨rfl, rfl, rfl, rfl⟩ := H
       have hnb34 := NB361_362.out
       have hnc34 := NB362_361.out
       have hnb35 := NB361_363.out
       have hnc35 := NB363_361.out
       have hcz36_0 : wc.cell? ⟨gb361, 0, none⟩ = some (.slice A0_0 l0_0.length c0_0) := (blk_cell BK361.out 0).trans rfl
       have hcz36_1 : wc.cell? ⟨gb361, 1, none⟩ = some (.slice A0_1 l0_1.length c0_1) := (blk_cell BK361.out 1).trans rfl
       have hcz36_2 : wc.cell? ⟨gb361, 2, none⟩ = some (.int .i64 a0_2) := (blk_cell BK361.out 2).trans rfl
       have hfz36_0 := blk_frozen BK361.out 0
       have hfz36_1 := blk_frozen BK361.out 1
       have hfz36_2 := blk_frozen BK361.out 2
       have hnb37 := NB362_363.out
       have hnc37 := NB363_362.out
       have hcz38_0 : wc.cell? ⟨gb362, 0, none⟩ = some (.slice A1_0 l1_0.length c1_0) := (blk_cell BK362.out 0).trans rfl
       have hcz38_1 : wc.cell? ⟨gb362, 1, none⟩ = some (.slice A1_1 l1_1.length c1_1) := (blk_cell BK362.out 1).trans rfl
       have hcz38_2 : wc.cell? ⟨gb362, 2, none⟩ = some (.int .i64 a1_2) := (blk_cell BK362.out 2).trans rfl
       have hfz38_0 := blk_frozen BK362.out 0
       have hfz38_1 := blk_frozen BK362.out 1
       have hfz38_2 := blk_frozen BK362.out 2
       have hcz39_0 : wc.cell? ⟨gb363, 0, none⟩ = some (.slice none 0 0) := (blk_cell BK363.out 0).trans rfl
       have hcz39_1 : wc.cell? ⟨gb363, 1, none⟩ = some (.slice none 0 0) := (blk_cell BK363.out 1).trans rfl
       have hcz39_2 : wc.cell? ⟨gb363, 2, none⟩ = some (.int .i64 0) := (blk_cell BK363.out 2).trans rfl
       have hfz39_0 := blk_frozen BK363.out 0
       have hfz39_1 := blk_frozen BK363.out 1
       have hfz39_2 := blk_frozen BK363.out 2
       go_wp2
       refine bodyPost_ret (results_ct rfl _ _ gb363 24 #[.slice none 0 0, .slice none 0 0, .int .i64 0] (0, 0) _ rfl (by (with_reducible repeat (first | refine blk_drewN ?_ _ | refine blk_drew ?_ | refine blk_alloc ?_ _)); refine blk_put (cs := #[.slice none 0 0, .slice none 0 0, .int .i64 0]) ?_ 2 _ rfl; (with_reducible repeat (first | refine blk_drewN ?_ _ | refine blk_drew ?_ | refine blk_alloc ?_ _)); refine blk_put (cs := #[.slice none 0 0, .slice none 0 0, .int .i64 0]) ?_ 1 _ rfl; (with_reducible repeat (first | refine blk_drewN ?_ _ | refine blk_drew ?_ | refine blk_alloc ?_ _)); refine blk_put (cs := #[.slice none 0 0, .slice none 0 0, .int .i64 0]) ?_ 0 _ rfl; (with_reducible repeat (first | refine blk_drewN ?_ _ | refine blk_drew ?_ | refine blk_alloc ?_ _)); exact BK363.out) Try.underlying24 rfl (by kernel_rfl)) rfl ?_
       exact ⟨_, _, by first | rfl | (simp [errW_none, errW_some] <;> rfl) | (simp [*, errW_none, errW_some] <;> rfl), by first | exact Kd.R_nil _ _ _ _ _ | exact Kd.N_nil _ _ _ _ _ | exact Kd.V_nil _ _ _ _ _ | exact Kd.Q_nil _ _ _ _ _ | exact Kd.S_nil _ _ _ _ _, by first | exact Kd.R_nil _ _ _ _ _ | exact Kd.N_nil _ _ _ _ _ | exact Kd.V_nil _ _ _ _ _ | exact Kd.Q_nil _ _ _ _ _ | exact Kd.S_nil _ _ _ _ _, by repeat (first | (with_reducible first | exact HB.out | apply below_alloc | apply pw_below_drewN | apply below_drew1 | refine below_set ?_ GE361.out | refine below_set ?_ GE362.out | refine below_set ?_ GE363.out) | exact HB.out)⟩
      ·
       rw [if_neg c33] at H
       have c33b0 : decide (1099511627776 < (wrap64 (a0_2 + a1_2))) = false := decide_eq_false c33
       clear c33
       by_cases c40 : ([] : List Int).length + l0_0.length < 17592186044416
       ·
        rw [if_pos c40] at H
        have LMc40 := Aside0.mk c40
        clear c40
        obtain ⟨y367, hy367⟩ : ∃ y_ : List Int, y_ = (([] : List Int) ++ l0_0) := ⟨_, rfl⟩
        replace H : (if y367.length + l1_0.length < 17592186044416 then (if ([] : List Int).length + l0_1.length < 17592186044416 then ((some (([] : List Int) ++ l0_1 : List Int)).bind fun y373 => (if y373.length + l1_1.length < 17592186044416 then (some ((y367 ++ l1_0), (y373 ++ l1_1), wrap64 (a0_2 + a1_2), 0)) else (none))) else (none)) else (none)) = some (r1, r2, r3, r4) := by first | (rw [hy367]; with_reducible exact H) | (have H2_ := (Option.bind_some _ _).symm.trans H; rw [hy367]; with_reducible exact H2_) | (have H2_ := (Option.bind_some _ _).symm.trans H; with_reducible exact H2_) | with_reducible exact H | (rw [hy367]; exact H) | exact H
        have Ny367 := Aside0.mk hy367
        clear hy367
        by_cases c41 : y367.length + l1_0.length < 17592186044416
        ·
         rw [if_pos c41] at H
         have LMc41 := Aside0.mk c41
         clear c41
         obtain ⟨y370, hy370⟩ : ∃ y_ : List Int, y_ = (y367 ++ l1_0) := ⟨_, rfl⟩
         replace H : (if ([] : List Int).length + l0_1.length < 17592186044416 then ((some (([] : List Int) ++ l0_1 : List Int)).bind fun y373 => (if y373.length + l1_1.length < 17592186044416 then (some (y370, (y373 ++ l1_1), wrap64 (a0_2 + a1_2), 0)) else (none))) else (none)) = some (r1, r2, r3, r4) := by first | (rw [hy370]; with_reducible exact H) | (have H2_ := (Option.bind_some _ _).symm.trans H; rw [hy370]; with_reducible exact H2_) | (have H2_ := (Option.bind_some _ _).symm.trans H; with_reducible exact H2_) | with_reducible exact H | (rw [hy370]; exact H) | exact H
         have Ny370 := Aside0.mk hy370
         clear hy370
         by_cases c42 : ([] : List Int).length + l0_1.length < 17592186044416
         ·
          rw [if_pos c42] at H
          have LMc42 := Aside0.mk c42
          clear c42
          obtain ⟨y373, hy373⟩ : ∃ y_ : List Int, y_ = (([] : List Int) ++ l0_1) := ⟨_, rfl⟩
          replace H : (if y373.length + l1_1.length < 17592186044416 then (some (y370, (y373 ++ l1_1), wrap64 (a0_2 + a1_2), 0)) else (none)) = some (r1, r2, r3, r4) := by first | (rw [hy373]; with_reducible exact H) | (have H2_ := (Option.bind_some _ _).symm.trans H; rw [hy373]; with_reducible exact H2_) | (have H2_ := (Option.bind_some _ _).symm.trans H; with_reducible exact H2_) | with_reducible exact H | (rw [hy373]; exact H) | exact H
          have Ny373 := Aside0.mk hy373
          clear hy373
          by_cases c43 : y373.length + l1_1.length < 17592186044416
          ·
           rw [if_pos c43] at H
           have LMc43 := Aside0.mk c43
           clear c43
           obtain ⟨y376, hy376⟩ : ∃ y_ : List Int, y_ = (y373 ++ l1_1) := ⟨_, rfl⟩
           replace H : (some (y370, y376, wrap64 (a0_2 + a1_2), 0)) = some (r1, r2, r3, r4) := by first | (rw [hy376]; with_reducible exact H) | (have H2_ := (Option.bind_some _ _).symm.trans H; rw [hy376]; with_reducible exact H2_) | (have H2_ := (Option.bind_some _ _).symm.trans H; with_reducible exact H2_) | with_reducible exact H | (rw [hy376]; exact H) | exact H
           have Ny376 := Aside0.mk hy376
           clear hy376
           simp only [Option.some.injEq, Prod.mk.injEq] at H
           obtain ⟨rfl, rfl, rfl, rfl⟩ := H
           have hnb44 := NB361_362.out
           have hnc44 := NB362_361.out
           have hnb45 := NB361_363.out
           have hnc45 := NB363_361.out
           have hcz46_0 : wc.cell? ⟨gb361, 0, none⟩ = some (.slice A0_0 l0_0.length c0_0) := (blk_cell BK361.out 0).trans rfl
           have hcz46_1 : wc.cell? ⟨gb361, 1, none⟩ = some (.slice A0_1 l0_1.length c0_1) := (blk_cell BK361.out 1).trans rfl
           have hcz46_2 : wc.cell? ⟨gb361, 2, none⟩ = some (.int .i64 a0_2) := (blk_cell BK361.out 2).trans rfl
           have hfz46_0 := blk_frozen BK361.out 0
           have hfz46_1 := blk_frozen BK361.out 1
           have hfz46_2 := blk_frozen BK361.out 2
           have hnb47 := NB362_363.out
           have hnc47 := NB363_362.out
           have hcz48_0 : wc.cell? ⟨gb362, 0, none⟩ = some (.slice A1_0 l1_0.length c1_0) := (blk_cell BK362.out 0).trans rfl
           have hcz48_1 : wc.cell? ⟨gb362, 1, none⟩ = some (.slice A1_1 l1_1.length c1_1) := (blk_cell BK362.out 1).trans rfl
           have hcz48_2 : wc.cell? ⟨gb362, 2, none⟩ = some (.int .i64 a1_2) := (blk_cell BK362.out 2).trans rfl
           have hfz48_0 := blk_frozen BK362.out 0
           have hfz48_1 := blk_frozen BK362.out 1
           have hfz48_2 := blk_frozen BK362.out 2
           go_wp2_with (first | ((with_reducible refine gate_dst (N := 8) rfl ?_); refine box_event ?hg (N := 8) ?hd (cs := #[.slice none 0 0, .slice none 0 0, .int .i64 0]) (t := 24) ?hr ?_; (case hd => rfl); (case hg => rfl); (case hr => first | (go_simp; done) | (go_simp; rfl)); intro gb366 hg w49 hbox hb; have n0_ := Aside0.mk (blk_below (g := gb361) (o := .cells #[.slice A0_0 l0_0.length c0_0, .slice A0_1 l0_1.length c0_1, .int .i64 a0_2] 24 (0, 0)) (by (with_reducible repeat (first | refine blk_drewN ?_ _ | refine blk_drew ?_ | refine blk_alloc ?_ _)); exact BK361.out) hb); have n1_ := Aside0.mk (blk_below (g := gb362) (o := .cells #[.slice A1_0 l1_0.length c1_0, .slice A1_1 l1_1.length c1_1, .int .i64 a1_2] 24 (0, 0)) (by (with_reducible repeat (first | refine blk_drewN ?_ _ | refine blk_drew ?_ | refine blk_alloc ?_ _)); exact BK362.out) hb); have n2_ := Aside0.mk (blk_below (g := gb363) (o := .cells #[.slice none 0 0, .slice none 0 0, .int .i64 0] 24 (0, 0)) (by (with_reducible repeat (first | refine blk_drewN ?_ _ | refine blk_drew ?_ | refine blk_alloc ?_ _)); exact BK363.out) hb); have n3_ := Aside0.mk (below_step (by repeat (first | (with_reducible first | exact HB.out | apply below_alloc | apply pw_below_drewN | apply below_drew1 | refine below_set ?_ GE361.out | refine below_set ?_ GE362.out | refine below_set ?_ GE363.out) | exact HB.out)) hb); have n4_ := Aside0.mk (hbox); have n5_ := Aside0.mk ((by rw [hg]; exact (below_size (by repeat (first | (with_reducible first | exact HB.out | apply below_alloc | apply pw_below_drewN | apply below_drew1 | refine below_set ?_ GE361.out | refine below_set ?_ GE362.out | refine below_set ?_ GE363.out) | exact HB.out))) : w.heap.size ≤ gb366)); have n6_ := Aside0.mk ((by rw [hg]; exact (below_size (by repeat (first | (with_reducible first | exact HB.out | apply below_alloc | apply pw_below_drewN | apply below_drew1 | refine below_set ?_ GE361.out | refine below_set ?_ GE362.out | refine below_set ?_ GE363.out) | exact HB.out))) : w.heap.size ≤ gb366)); have n7_ := Aside0.mk ((by rw [hg]; exact Nat.ne_of_lt (blk_lt (g := gb361) (o := .cells #[.slice A0_0 l0_0.length c0_0, .slice A0_1 l0_1.length c0_1, .int .i64 a0_2] 24 (0, 0)) (by (with_reducible repeat (first | refine blk_drewN ?_ _ | refine blk_drew ?_ | refine blk_alloc ?_ _)); exact BK361.out)) : gb361 ≠ gb366)); have n8_ := Aside0.mk ((by rw [hg]; exact Nat.ne_of_gt (blk_lt (g := gb361) (o := .cells #[.slice A0_0 l0_0.length c0_0, .slice A0_1 l0_1.length c0_1, .int .i64 a0_2] 24 (0, 0)) (by (with_reducible repeat (first | refine blk_drewN ?_ _ | refine blk_drew ?_ | refine blk_alloc ?_ _)); exact BK361.out)) : gb366 ≠ gb361)); have n9_ := Aside0.mk ((by rw [hg]; exact Nat.ne_of_lt (blk_lt (g := gb362) (o := .cells #[.slice A1_0 l1_0.length c1_0, .slice A1_1 l1_1.length c1_1, .int .i64 a1_2] 24 (0, 0)) (by (with_reducible repeat (first | refine blk_drewN ?_ _ | refine blk_drew ?_ | refine blk_alloc ?_ _)); exact BK362.out)) : gb362 ≠ gb366)); have n10_ := Aside0.mk ((by rw [hg]; exact Nat.ne_of_gt (blk_lt (g := gb362) (o := .cells #[.slice A1_0 l1_0.length c1_0, .slice A1_1 l1_1.length c1_1, .int .i64 a1_2] 24 (0, 0)) (by (with_reducible repeat (first | refine blk_drewN ?_ _ | refine blk_drew ?_ | refine blk_alloc ?_ _)); exact BK362.out)) : gb366 ≠ gb362)); have n11_ := Aside0.mk ((by rw [hg]; exact Nat.ne_of_lt (blk_lt (g := gb363) (o := .cells #[.slice none 0 0, .slice none 0 0, .int .i64 0] 24 (0, 0)) (by (with_reducible repeat (first | refine blk_drewN ?_ _ | refine blk_drew ?_ | refine blk_alloc ?_ _)); exact BK363.out)) : gb363 ≠ gb366)); have n12_ := Aside0.mk ((by rw [hg]; exact Nat.ne_of_gt (blk_lt (g := gb363) (o := .cells #[.slice none 0 0, .slice none 0 0, .int .i64 0] 24 (0, 0)) (by (with_reducible repeat (first | refine blk_drewN ?_ _ | refine blk_drew ?_ | refine blk_alloc ?_ _)); exact BK363.out)) : gb366 ≠ gb363)); clear BK361; clear BK362; clear BK363; clear HB; have BK361 := n0_; have BK362 := n1_; have BK363 := n2_; have HB := n3_; have BK366 := n4_; have GW366 := n5_; have GE366 := n6_; have NB361_366 := n7_; have NB366_361 := n8_; have NB362_366 := n9_; have NB366_362 := n10_; have NB363_366 := n11_; have NB366_363 := n12_; clear n0_ n1_ n2_ n3_ n4_ n5_ n6_ n7_ n8_ n9_ n10_ n11_ n12_; clear hb hbox hg; have hnb50 := NB366_361.out; have hnc50 := NB361_366.out; have hnb51 := NB366_362.out; have hnc51 := NB362_366.out; have hnb52 := NB366_363.out; have hnc52 := NB363_366.out; have hcz53_0 : w49.cell? ⟨gb366, 0, none⟩ = some (.slice none 0 0) := (blk_cell BK366.out 0).trans rfl; have hcz53_1 : w49.cell? ⟨gb366, 1, none⟩ = some (.slice none 0 0) := (blk_cell BK366.out 1).trans rfl; have hcz53_2 : w49.cell? ⟨gb366, 2, none⟩ = some (.int .i64 0) := (blk_cell BK366.out 2).trans rfl; have hfz53_0 := blk_frozen BK366.out 0; have hfz53_1 := blk_frozen BK366.out 1; have hfz53_2 := blk_frozen BK366.out 2; have hcz54_0 : w49.cell? ⟨gb361, 0, none⟩ = some (.slice A0_0 l0_0.length c0_0) := (blk_cell BK361.out 0).trans rfl; have hcz54_1 : w49.cell? ⟨gb361, 1, none⟩ = some (.slice A0_1 l0_1.length c0_1) := (blk_cell BK361.out 1).trans rfl; have hcz54_2 : w49.cell? ⟨gb361, 2, none⟩ = some (.int .i64 a0_2) := (blk_cell BK361.out 2).trans rfl; have hfz54_0 := blk_frozen BK361.out 0; have hfz54_1 := blk_frozen BK361.out 1; have hfz54_2 := blk_frozen BK361.out 2) | ((with_reducible refine gate_builtin (b := .append) (xs := #[.tmp 44, .tmp 46]) rfl ?_); at_builtin; refine Kd.R_append_rows (Kd.int .i64) (w0 := w) w.heap.size rfl (.tmp 44) (.tmp 46) 22 3 (.int .i64 0) 8 rfl Try.underlying22 info3 rfl (by decide) (by omega) (.slice none 0 0) ([] : List Int) l0_0 _ _ _ (fun _ => True) (fun _ => False) rfl rfl ?aO ?aR (fun _ _ h => h) (fun _ h => h.elim) ?aF ?aB ?aS ?aL ?_; (case aR => exact Kd.C_below HR0_0.out (by repeat (first | (with_reducible first | exact HB.out | apply below_alloc | apply pw_below_drewN | apply below_drew1 | refine below_set ?_ GE361.out | refine below_set ?_ GE362.out | refine below_set ?_ GE363.out | refine below_set ?_ GE366.out) | exact HB.out))); (case aB => exact (by repeat (first | (with_reducible first | exact HB.out | apply below_alloc | apply pw_below_drewN | apply below_drew1 | refine below_set ?_ GE361.out | refine below_set ?_ GE362.out | refine below_set ?_ GE363.out | refine below_set ?_ GE366.out) | exact HB.out))); (case aF => exact (fun _ _ => trivial)); (case aO => exact ((Kd.R_nil _ _ _ _ (fun _ => True)))); (case aS => exact (below_size (by repeat (first | (with_reducible first | exact HB.out | apply below_alloc | apply pw_below_drewN | apply below_drew1 | refine below_set ?_ GE361.out | refine below_set ?_ GE362.out | refine below_set ?_ GE363.out | refine below_set ?_ GE366.out) | exact HB.out)))); (case aL => have := LMc40.out; omega); intro v368 w55 ho hb hg hat; rw [← Ny367.out] at ho; have n0_ := Aside0.mk (blk_grown (g := gb361) (o := .cells #[.slice A0_0 l0_0.length c0_0, .slice A0_1 l0_1.length c0_1, .int .i64 a0_2] 24 (0, 0)) (by (with_reducible repeat (first | refine blk_drewN ?_ _ | refine blk_drew ?_ | refine blk_alloc ?_ _)); refine blk_far ?_ NB361_366.out _; (with_reducible repeat (first | refine blk_drewN ?_ _ | refine blk_drew ?_ | refine blk_alloc ?_ _)); refine blk_far ?_ NB361_366.out _; (with_reducible repeat (first | refine blk_drewN ?_ _ | refine blk_drew ?_ | refine blk_alloc ?_ _)); refine blk_far ?_ NB361_366.out _; (with_reducible repeat (first | refine blk_drewN ?_ _ | refine blk_drew ?_ | refine blk_alloc ?_ _)); exact BK361.out) hg (by simp [Value.ownBlock])); have n1_ := Aside0.mk (blk_grown (g := gb362) (o := .cells #[.slice A1_0 l1_0.length c1_0, .slice A1_1 l1_1.length c1_1, .int .i64 a1_2] 24 (0, 0)) (by (with_reducible repeat (first | refine blk_drewN ?_ _ | refine blk_drew ?_ | refine blk_alloc ?_ _)); refine blk_far ?_ NB362_366.out _; (with_reducible repeat (first | refine blk_drewN ?_ _ | refine blk_drew ?_ | refine blk_alloc ?_ _)); refine blk_far ?_ NB362_366.out _; (with_reducible repeat (first | refine blk_drewN ?_ _ | refine blk_drew ?_ | refine blk_alloc ?_ _)); refine blk_far ?_ NB362_366.out _; (with_reducible repeat (first | refine blk_drewN ?_ _ | refine blk_drew ?_ | refine blk_alloc ?_ _)); exact BK362.out) hg (by simp [Value.ownBlock])); have n2_ := Aside0.mk (blk_grown (g := gb363) (o := .cells #[.slice none 0 0, .slice none 0 0, .int .i64 0] 24 (0, 0)) (by (with_reducible repeat (first | refine blk_drewN ?_ _ | refine blk_drew ?_ | refine blk_alloc ?_ _)); refine blk_far ?_ NB363_366.out _; (with_reducible repeat (first | refine blk_drewN ?_ _ | refine blk_drew ?_ | refine blk_alloc ?_ _)); refine blk_far ?_ NB363_366.out _; (with_reducible repeat (first | refine blk_drewN ?_ _ | refine blk_drew ?_ | refine blk_alloc ?_ _)); refine blk_far ?_ NB363_366.out _; (with_reducible repeat (first | refine blk_drewN ?_ _ | refine blk_drew ?_ | refine blk_alloc ?_ _)); exact BK363.out) hg (by simp [Value.ownBlock])); have n3_ := Aside0.mk (blk_grown (g := gb366) (o := .cells #[.slice none 0 0, .slice none 0 0, .int .i64 (wrap64 (a0_2 + a1_2))] 24 (0, 0)) (by (with_reducible repeat (first | refine blk_drewN ?_ _ | refine blk_drew ?_ | refine blk_alloc ?_ _)); refine blk_put (cs := #[.slice none 0 0, .slice none 0 0, .int .i64 0]) ?_ 2 _ rfl; (with_reducible repeat (first | refine blk_drewN ?_ _ | refine blk_drew ?_ | refine blk_alloc ?_ _)); refine blk_put (cs := #[.slice none 0 0, .slice none 0 0, .int .i64 0]) ?_ 1 _ rfl; (with_reducible repeat (first | refine blk_drewN ?_ _ | refine blk_drew ?_ | refine blk_alloc ?_ _)); refine blk_put (cs := #[.slice none 0 0, .slice none 0 0, .int .i64 0]) ?_ 0 _ rfl; (with_reducible repeat (first | refine blk_drewN ?_ _ | refine blk_drew ?_ | refine blk_alloc ?_ _)); exact BK366.out) hg (by simp [Value.ownBlock])); have n4_ := Aside0.mk (hb); have n5_ := Aside0.mk (ho); clear BK361; clear BK362; clear BK363; clear BK366; clear HB; have BK361 := n0_; have BK362 := n1_; have BK363 := n2_; have BK366 := n3_; have HB := n4_; have HO369 := n5_; clear n0_ n1_ n2_ n3_ n4_ n5_; clear ho hb hg hat; obtain ⟨Ao56, co56, eo56⟩ := Kd.R_slice HO369.out; subst eo56; have hcz57_0 : w55.cell? ⟨gb366, 0, none⟩ = some (.slice none 0 0) := (blk_cell BK366.out 0).trans rfl; have hcz57_1 : w55.cell? ⟨gb366, 1, none⟩ = some (.slice none 0 0) := (blk_cell BK366.out 1).trans rfl; have hcz57_2 : w55.cell? ⟨gb366, 2, none⟩ = some (.int .i64 (wrap64 (a0_2 + a1_2))) := (blk_cell BK366.out 2).trans rfl; have hfz57_0 := blk_frozen BK366.out 0; have hfz57_1 := blk_frozen BK366.out 1; have hfz57_2 := blk_frozen BK366.out 2; have hcz58_0 : w55.cell? ⟨gb362, 0, none⟩ = some (.slice A1_0 l1_0.length c1_0) := (blk_cell BK362.out 0).trans rfl; have hcz58_1 : w55.cell? ⟨gb362, 1, none⟩ = some (.slice A1_1 l1_1.length c1_1) := (blk_cell BK362.out 1).trans rfl; have hcz58_2 : w55.cell? ⟨gb362, 2, none⟩ = some (.int .i64 a1_2) := (blk_cell BK362.out 2).trans rfl; have hfz58_0 := blk_frozen BK362.out 0; have hfz58_1 := blk_frozen BK362.out 1; have hfz58_2 := blk_frozen BK362.out 2) | ((with_reducible refine gate_builtin (b := .append) (xs := #[.tmp 50, .tmp 52]) rfl ?_); at_builtin; refine Kd.R_append_rows (Kd.int .i64) (w0 := w) w.heap.size rfl (.tmp 50) (.tmp 52) 22 3 (.int .i64 0) 8 rfl Try.underlying22 info3 rfl (by decide) (by omega) (.slice Ao56 y367.length co56) y367 l1_0 _ _ _ (fun _ => True) (fun _ => False) rfl rfl ?aO ?aR (fun _ _ h => h) (fun _ h => h.elim) ?aF ?aB ?aS ?aL ?_; (case aR => exact Kd.C_below HR1_0.out (by repeat (first | (with_reducible first | exact HB.out | apply below_alloc | apply pw_below_drewN | apply below_drew1 | refine below_set ?_ GE361.out | refine below_set ?_ GE362.out | refine below_set ?_ GE363.out | refine below_set ?_ GE366.out) | exact HB.out))); (case aB => exact (by repeat (first | (with_reducible first | exact HB.out | apply below_alloc | apply pw_below_drewN | apply below_drew1 | refine below_set ?_ GE361.out | refine below_set ?_ GE362.out | refine below_set ?_ GE363.out | refine below_set ?_ GE366.out) | exact HB.out))); (case aF => exact (fun _ _ => trivial)); (case aO => exact (by (with_reducible repeat (first | apply Kd.R_alloc | apply Kd.R_drewN | apply Kd.R_drew)); exact Kd.R_mono (Kd.R_far (p := ⟨gb366, 0, none⟩) (Kd.R_types HO369.out BK366.out (by decide)) (fun _ hk => hk.2) (.slice Ao56 y367.length co56)) (fun _ hk => trivial))); (case aS => exact (below_size (by repeat (first | (with_reducible first | exact HB.out | apply below_alloc | apply pw_below_drewN | apply below_drew1 | refine below_set ?_ GE361.out | refine below_set ?_ GE362.out | refine below_set ?_ GE363.out | refine below_set ?_ GE366.out) | exact HB.out)))); (case aL => have := LMc41.out; omega); intro v371 w59 ho hb hg hat; rw [← Ny370.out] at ho; have n0_ := Aside0.mk (blk_grown (g := gb361) (o := .cells #[.slice A0_0 l0_0.length c0_0, .slice A0_1 l0_1.length c0_1, .int .i64 a0_2] 24 (0, 0)) (by (with_reducible repeat (first | refine blk_drewN ?_ _ | refine blk_drew ?_ | refine blk_alloc ?_ _)); refine blk_far ?_ NB361_366.out _; (with_reducible repeat (first | refine blk_drewN ?_ _ | refine blk_drew ?_ | refine blk_alloc ?_ _)); exact BK361.out) hg (Kd.R_ne HO369.out BK361.out (by decide))); have n1_ := Aside0.mk (blk_grown (g := gb362) (o := .cells #[.slice A1_0 l1_0.length c1_0, .slice A1_1 l1_1.length c1_1, .int .i64 a1_2] 24 (0, 0)) (by (with_reducible repeat (first | refine blk_drewN ?_ _ | refine blk_drew ?_ | refine blk_alloc ?_ _)); refine blk_far ?_ NB362_366.out _; (with_reducible repeat (first | refine blk_drewN ?_ _ | refine blk_drew ?_ | refine blk_alloc ?_ _)); exact BK362.out) hg (Kd.R_ne HO369.out BK362.out (by decide))); have n2_ := Aside0.mk (blk_grown (g := gb363) (o := .cells #[.slice none 0 0, .slice none 0 0, .int .i64 0] 24 (0, 0)) (by (with_reducible repeat (first | refine blk_drewN ?_ _ | refine blk_drew ?_ | refine blk_alloc ?_ _)); refine blk_far ?_ NB363_366.out _; (with_reducible repeat (first | refine blk_drewN ?_ _ | refine blk_drew ?_ | refine blk_alloc ?_ _)); exact BK363.out) hg (Kd.R_ne HO369.out BK363.out (by decide))); have n3_ := Aside0.mk (blk_grown (g := gb366) (o := .cells #[.slice Ao56 y367.length co56, .slice none 0 0, .int .i64 (wrap64 (a0_2 + a1_2))] 24 (0, 0)) (by (with_reducible repeat (first | refine blk_drewN ?_ _ | refine blk_drew ?_ | refine blk_alloc ?_ _)); refine blk_put (cs := #[.slice none 0 0, .slice none 0 0, .int .i64 (wrap64 (a0_2 + a1_2))]) ?_ 0 _ rfl; (with_reducible repeat (first | refine blk_drewN ?_ _ | refine blk_drew ?_ | refine blk_alloc ?_ _)); exact BK366.out) hg (Kd.R_ne HO369.out BK366.out (by decide))); have n4_ := Aside0.mk (hb); have n5_ := Aside0.mk (ho); clear BK361; clear BK362; clear BK363; clear BK366; clear HB; clear HO369; have BK361 := n0_; have BK362 := n1_; have BK363 := n2_; have BK366 := n3_; have HB := n4_; have HO372 := n5_; clear n0_ n1_ n2_ n3_ n4_ n5_; clear ho hb hg hat; obtain ⟨Ao60, co60, eo60⟩ := Kd.R_slice HO372.out; subst eo60; have hcz61_0 : w59.cell? ⟨gb366, 0, none⟩ = some (.slice Ao56 y367.length co56) := (blk_cell BK366.out 0).trans rfl; have hcz61_1 : w59.cell? ⟨gb366, 1, none⟩ = some (.slice none 0 0) := (blk_cell BK366.out 1).trans rfl; have hcz61_2 : w59.cell? ⟨gb366, 2, none⟩ = some (.int .i64 (wrap64 (a0_2 + a1_2))) := (blk_cell BK366.out 2).trans rfl; have hfz61_0 := blk_frozen BK366.out 0; have hfz61_1 := blk_frozen BK366.out 1; have hfz61_2 := blk_frozen BK366.out 2; have hcz62_0 : w59.cell? ⟨gb361, 0, none⟩ = some (.slice A0_0 l0_0.length c0_0) := (blk_cell BK361.out 0).trans rfl; have hcz62_1 : w59.cell? ⟨gb361, 1, none⟩ = some (.slice A0_1 l0_1.length c0_1) := (blk_cell BK361.out 1).trans rfl; have hcz62_2 : w59.cell? ⟨gb361, 2, none⟩ = some (.int .i64 a0_2) := (blk_cell BK361.out 2).trans rfl; have hfz62_0 := blk_frozen BK361.out 0; have hfz62_1 := blk_frozen BK361.out 1; have hfz62_2 := blk_frozen BK361.out 2) | ((with_reducible refine gate_builtin (b := .append) (xs := #[.tmp 56, .tmp 58]) rfl ?_); at_builtin; refine Kd.R_append_rows (Kd.int .i64) (w0 := w) w.heap.size rfl (.tmp 56) (.tmp 58) 22 3 (.int .i64 0) 8 rfl Try.underlying22 info3 rfl (by decide) (by omega) (.slice none 0 0) ([] : List Int) l0_1 _ _ _ (fun k_ => some k_ ≠ (.slice Ao60 y370.length co60 : Value).ownBlock) (fun _ => False) rfl rfl ?aO ?aR (fun _ _ h => h) (fun _ h => h.elim) ?aF ?aB ?aS ?aL ?_; (case aR => exact Kd.C_below HR0_1.out (by repeat (first | (with_reducible first | exact HB.out | apply below_alloc | apply pw_below_drewN | apply below_drew1 | refine below_set ?_ GE361.out | refine below_set ?_ GE362.out | refine below_set ?_ GE363.out | refine below_set ?_ GE366.out) | exact HB.out))); (case aB => exact (by repeat (first | (with_reducible first | exact HB.out | apply below_alloc | apply pw_below_drewN | apply below_drew1 | refine below_set ?_ GE361.out | refine below_set ?_ GE362.out | refine below_set ?_ GE363.out | refine below_set ?_ GE366.out) | exact HB.out))); (case aF => exact (fun k_ hk => Kd.fresh' (Kd.R_lt (by (with_reducible repeat (first | apply Kd.R_alloc | apply Kd.R_drewN | apply Kd.R_drew)); exact (Kd.R_mono (Kd.R_far (p := ⟨gb366, 0, none⟩) (Kd.R_types HO372.out BK366.out (by decide)) (fun _ hk => hk.2) (.slice Ao60 y370.length co60)) (fun _ h_ => h_.1)))) k_ hk)); (case aO => exact ((Kd.R_nil _ _ _ _ (fun k_ => some k_ ≠ (.slice Ao60 y370.length co60 : Value).ownBlock)))); (case aS => exact (below_size (by repeat (first | (with_reducible first | exact HB.out | apply below_alloc | apply pw_below_drewN | apply below_drew1 | refine below_set ?_ GE361.out | refine below_set ?_ GE362.out | refine below_set ?_ GE363.out | refine below_set ?_ GE366.out) | exact HB.out)))); (case aL => have := LMc42.out; omega); intro v374 w63 ho hb hg hat; rw [← Ny373.out] at ho; have n0_ := Aside0.mk (blk_grown (g := gb361) (o := .cells #[.slice A0_0 l0_0.length c0_0, .slice A0_1 l0_1.length c0_1, .int .i64 a0_2] 24 (0, 0)) (by (with_reducible repeat (first | refine blk_drewN ?_ _ | refine blk_drew ?_ | refine blk_alloc ?_ _)); refine blk_far ?_ NB361_366.out _; (with_reducible repeat (first | refine blk_drewN ?_ _ | refine blk_drew ?_ | refine blk_alloc ?_ _)); exact BK361.out) hg (by simp [Value.ownBlock])); have n1_ := Aside0.mk (blk_grown (g := gb362) (o := .cells #[.slice A1_0 l1_0.length c1_0, .slice A1_1 l1_1.length c1_1, .int .i64 a1_2] 24 (0, 0)) (by (with_reducible repeat (first | refine blk_drewN ?_ _ | refine blk_drew ?_ | refine blk_alloc ?_ _)); refine blk_far ?_ NB362_366.out _; (with_reducible repeat (first | refine blk_drewN ?_ _ | refine blk_drew ?_ | refine blk_alloc ?_ _)); exact BK362.out) hg (by simp [Value.ownBlock])); have n2_ := Aside0.mk (blk_grown (g := gb363) (o := .cells #[.slice none 0 0, .slice none 0 0, .int .i64 0] 24 (0, 0)) (by (with_reducible repeat (first | refine blk_drewN ?_ _ | refine blk_drew ?_ | refine blk_alloc ?_ _)); refine blk_far ?_ NB363_366.out _; (with_reducible repeat (first | refine blk_drewN ?_ _ | refine blk_drew ?_ | refine blk_alloc ?_ _)); exact BK363.out) hg (by simp [Value.ownBlock])); have n3_ := Aside0.mk (blk_grown (g := gb366) (o := .cells #[.slice Ao60 y370.length co60, .slice none 0 0, .int .i64 (wrap64 (a0_2 + a1_2))] 24 (0, 0)) (by (with_reducible repeat (first | refine blk_drewN ?_ _ | refine blk_drew ?_ | refine blk_alloc ?_ _)); refine blk_put (cs := #[.slice Ao56 y367.length co56, .slice none 0 0, .int .i64 (wrap64 (a0_2 + a1_2))]) ?_ 0 _ rfl; (with_reducible repeat (first | refine blk_drewN ?_ _ | refine blk_drew ?_ | refine blk_alloc ?_ _)); exact BK366.out) hg (by simp [Value.ownBlock])); have n4_ := Aside0.mk (Kd.R_after (Kd.R_apart_nil (by (with_reducible repeat (first | apply Kd.R_alloc | apply Kd.R_drewN | apply Kd.R_drew)); exact (Kd.R_mono (Kd.R_far (p := ⟨gb366, 0, none⟩) (Kd.R_types HO372.out BK366.out (by decide)) (fun _ hk => hk.2) (.slice Ao60 y370.length co60)) (fun _ h_ => h_.1)))) hg hat); have n5_ := Aside0.mk (hb); have n6_ := Aside0.mk (ho); clear BK361; clear BK362; clear BK363; clear BK366; clear HO372; clear HB; have BK361 := n0_; have BK362 := n1_; have BK363 := n2_; have BK366 := n3_; have HO372 := n4_; have HB := n5_; have HO375 := n6_; clear n0_ n1_ n2_ n3_ n4_ n5_ n6_; clear ho hb hg hat; obtain ⟨Ao64, co64, eo64⟩ := Kd.R_slice HO375.out; subst eo64; have hcz65_0 : w63.cell? ⟨gb366, 0, none⟩ = some (.slice Ao60 y370.length co60) := (blk_cell BK366.out 0).trans rfl; have hcz65_1 : w63.cell? ⟨gb366, 1, none⟩ = some (.slice none 0 0) := (blk_cell BK366.out 1).trans rfl; have hcz65_2 : w63.cell? ⟨gb366, 2, none⟩ = some (.int .i64 (wrap64 (a0_2 + a1_2))) := (blk_cell BK366.out 2).trans rfl; have hfz65_0 := blk_frozen BK366.out 0; have hfz65_1 := blk_frozen BK366.out 1; have hfz65_2 := blk_frozen BK366.out 2; have hcz66_0 : w63.cell? ⟨gb362, 0, none⟩ = some (.slice A1_0 l1_0.length c1_0) := (blk_cell BK362.out 0).trans rfl; have hcz66_1 : w63.cell? ⟨gb362, 1, none⟩ = some (.slice A1_1 l1_1.length c1_1) := (blk_cell BK362.out 1).trans rfl; have hcz66_2 : w63.cell? ⟨gb362, 2, none⟩ = some (.int .i64 a1_2) := (blk_cell BK362.out 2).trans rfl; have hfz66_0 := blk_frozen BK362.out 0; have hfz66_1 := blk_frozen BK362.out 1; have hfz66_2 := blk_frozen BK362.out 2) | ((with_reducible refine gate_builtin (b := .append) (xs := #[.tmp 62, .tmp 64]) rfl ?_); at_builtin; refine Kd.R_append_rows (Kd.int .i64) (w0 := w) w.heap.size rfl (.tmp 62) (.tmp 64) 22 3 (.int .i64 0) 8 rfl Try.underlying22 info3 rfl (by decide) (by omega) (.slice Ao64 y373.length co64) y373 l1_1 _ _ _ (fun k_ => some k_ ≠ (.slice Ao60 y370.length co60 : Value).ownBlock) (fun _ => False) rfl rfl ?aO ?aR (fun _ _ h => h) (fun _ h => h.elim) ?aF ?aB ?aS ?aL ?_; (case aR => exact Kd.C_below HR1_1.out (by repeat (first | (with_reducible first | exact HB.out | apply below_alloc | apply pw_below_drewN | apply below_drew1 | refine below_set ?_ GE361.out | refine below_set ?_ GE362.out | refine below_set ?_ GE363.out | refine below_set ?_ GE366.out) | exact HB.out))); (case aB => exact (by repeat (first | (with_reducible first | exact HB.out | apply below_alloc | apply pw_below_drewN | apply below_drew1 | refine below_set ?_ GE361.out | refine below_set ?_ GE362.out | refine below_set ?_ GE363.out | refine below_set ?_ GE366.out) | exact HB.out))); (case aF => exact (fun k_ hk => Kd.fresh' (Kd.R_lt (by (with_reducible repeat (first | apply Kd.R_alloc | apply Kd.R_drewN | apply Kd.R_drew)); exact (Kd.R_mono (Kd.R_far (p := ⟨gb366, 1, none⟩) (Kd.R_types HO372.out BK366.out (by decide)) (fun _ hk => hk.2) (.slice Ao64 y373.length co64)) (fun _ h_ => h_.1)))) k_ hk)); (case aO => exact (by (with_reducible repeat (first | apply Kd.R_alloc | apply Kd.R_drewN | apply Kd.R_drew)); exact Kd.R_mono (Kd.R_far (p := ⟨gb366, 1, none⟩) (Kd.R_types HO375.out BK366.out (by decide)) (fun _ hk => hk.2) (.slice Ao64 y373.length co64)) (fun _ hk => hk.1))); (case aS => exact (below_size (by repeat (first | (with_reducible first | exact HB.out | apply below_alloc | apply pw_below_drewN | apply below_drew1 | refine below_set ?_ GE361.out | refine below_set ?_ GE362.out | refine below_set ?_ GE363.out | refine below_set ?_ GE366.out) | exact HB.out)))); (case aL => have := LMc43.out; omega); intro v377 w67 ho hb hg hat; rw [← Ny376.out] at ho; have n0_ := Aside0.mk (blk_grown (g := gb361) (o := .cells #[.slice A0_0 l0_0.length c0_0, .slice A0_1 l0_1.length c0_1, .int .i64 a0_2] 24 (0, 0)) (by (with_reducible repeat (first | refine blk_drewN ?_ _ | refine blk_drew ?_ | refine blk_alloc ?_ _)); refine blk_far ?_ NB361_366.out _; (with_reducible repeat (first | refine blk_drewN ?_ _ | refine blk_drew ?_ | refine blk_alloc ?_ _)); exact BK361.out) hg (Kd.R_ne HO375.out BK361.out (by decide))); have n1_ := Aside0.mk (blk_grown (g := gb362) (o := .cells #[.slice A1_0 l1_0.length c1_0, .slice A1_1 l1_1.length c1_1, .int .i64 a1_2] 24 (0, 0)) (by (with_reducible repeat (first | refine blk_drewN ?_ _ | refine blk_drew ?_ | refine blk_alloc ?_ _)); refine blk_far ?_ NB362_366.out _; (with_reducible repeat (first | refine blk_drewN ?_ _ | refine blk_drew ?_ | refine blk_alloc ?_ _)); exact BK362.out) hg (Kd.R_ne HO375.out BK362.out (by decide))); have n2_ := Aside0.mk (blk_grown (g := gb363) (o := .cells #[.slice none 0 0, .slice none 0 0, .int .i64 0] 24 (0, 0)) (by (with_reducible repeat (first | refine blk_drewN ?_ _ | refine blk_drew ?_ | refine blk_alloc ?_ _)); refine blk_far ?_ NB363_366.out _; (with_reducible repeat (first | refine blk_drewN ?_ _ | refine blk_drew ?_ | refine blk_alloc ?_ _)); exact BK363.out) hg (Kd.R_ne HO375.out BK363.out (by decide))); have n3_ := Aside0.mk (blk_grown (g := gb366) (o := .cells #[.slice Ao60 y370.length co60, .slice Ao64 y373.length co64, .int .i64 (wrap64 (a0_2 + a1_2))] 24 (0, 0)) (by (with_reducible repeat (first | refine blk_drewN ?_ _ | refine blk_drew ?_ | refine blk_alloc ?_ _)); refine blk_put (cs := #[.slice Ao60 y370.length co60, .slice none 0 0, .int .i64 (wrap64 (a0_2 + a1_2))]) ?_ 1 _ rfl; (with_reducible repeat (first | refine blk_drewN ?_ _ | refine blk_drew ?_ | refine blk_alloc ?_ _)); exact BK366.out) hg (Kd.R_ne HO375.out BK366.out (by decide))); have n4_ := Aside0.mk (Kd.R_after (ok := (fun _ => True)) (by (with_reducible repeat (first | apply Kd.R_alloc | apply Kd.R_drewN | apply Kd.R_drew)); exact Kd.R_mono (Kd.R_far (p := ⟨gb366, 1, none⟩) (Kd.R_types HO372.out BK366.out (by decide)) (fun _ hk => hk.2) (.slice Ao64 y373.length co64)) (fun _ hk => ⟨trivial, hk.1.2⟩)) hg hat); have n5_ := Aside0.mk (hb); have n6_ := Aside0.mk (ho); clear BK361; clear BK362; clear BK363; clear BK366; clear HO372; clear HB; clear HO375; have BK361 := n0_; have BK362 := n1_; have BK363 := n2_; have BK366 := n3_; have HO372 := n4_; have HB := n5_; have HO378 := n6_; clear n0_ n1_ n2_ n3_ n4_ n5_ n6_; clear ho hb hg hat; obtain ⟨Ao68, co68, eo68⟩ := Kd.R_slice HO378.out; subst eo68; have hcz69_0 : w67.cell? ⟨gb366, 0, none⟩ = some (.slice Ao60 y370.length co60) := (blk_cell BK366.out 0).trans rfl; have hcz69_1 : w67.cell? ⟨gb366, 1, none⟩ = some (.slice Ao64 y373.length co64) := (blk_cell BK366.out 1).trans rfl; have hcz69_2 : w67.cell? ⟨gb366, 2, none⟩ = some (.int .i64 (wrap64 (a0_2 + a1_2))) := (blk_cell BK366.out 2).trans rfl; have hfz69_0 := blk_frozen BK366.out 0; have hfz69_1 := blk_frozen BK366.out 1; have hfz69_2 := blk_frozen BK366.out 2; have hcz70_0 : w67.cell? ⟨gb363, 0, none⟩ = some (.slice none 0 0) := (blk_cell BK363.out 0).trans rfl; have hcz70_1 : w67.cell? ⟨gb363, 1, none⟩ = some (.slice none 0 0) := (blk_cell BK363.out 1).trans rfl; have hcz70_2 : w67.cell? ⟨gb363, 2, none⟩ = some (.int .i64 0) := (blk_cell BK363.out 2).trans rfl; have hfz70_0 := blk_frozen BK363.out 0; have hfz70_1 := blk_frozen BK363.out 1; have hfz70_2 := blk_frozen BK363.out 2))
           refine bodyPost_ret (results_ct rfl _ _ gb363 24 #[.slice Ao60 y370.length co60, .slice Ao68 y376.length co68, .int .i64 (wrap64 (a0_2 + a1_2))] (0, 0) _ rfl (by (with_reducible repeat (first | refine blk_drewN ?_ _ | refine blk_drew ?_ | refine blk_alloc ?_ _)); refine blk_put (cs := #[.slice Ao60 y370.length co60, .slice Ao68 y376.length co68, .int .i64 0]) ?_ 2 _ rfl; (with_reducible repeat (first | refine blk_drewN ?_ _ | refine blk_drew ?_ | refine blk_alloc ?_ _)); refine blk_put (cs := #[.slice Ao60 y370.length co60, .slice none 0 0, .int .i64 0]) ?_ 1 _ rfl; (with_reducible repeat (first | refine blk_drewN ?_ _ | refine blk_drew ?_ | refine blk_alloc ?_ _)); refine blk_put (cs := #[.slice none 0 0, .slice none 0 0, .int .i64 0]) ?_ 0 _ rfl; (with_reducible repeat (first | refine blk_drewN ?_ _ | refine blk_drew ?_ | refine blk_alloc ?_ _)); refine blk_far ?_ NB363_366.out _; (with_reducible repeat (first | refine blk_drewN ?_ _ | refine blk_drew ?_ | refine blk_alloc ?_ _)); exact BK363.out) Try.underlying24 rfl (by kernel_rfl)) rfl ?_
           exact ⟨_, _, by first | rfl | (simp [errW_none, errW_some] <;> rfl) | (simp [*, errW_none, errW_some] <;> rfl), by (with_reducible repeat (first | apply Kd.R_alloc | apply Kd.R_drewN | apply Kd.R_drew)); exact Kd.R_mono (Kd.R_far (p := ⟨gb363, 2, none⟩) (Kd.R_far (p := ⟨gb363, 1, none⟩) (Kd.R_far (p := ⟨gb363, 0, none⟩) (Kd.R_far (p := ⟨gb366, 1, none⟩) (Kd.R_types (Kd.R_types HO372.out BK366.out (by decide)) BK363.out (by decide)) (fun _ hk => hk.1.2) (.slice Ao68 y376.length co68)) (fun _ hk => hk.2) (.slice Ao60 y370.length co60)) (fun _ hk => hk.2) (.slice Ao68 y376.length co68)) (fun _ hk => hk.2) (.int .i64 (wrap64 (a0_2 + a1_2)))) (fun _ hk => hk.1.1.2), by (with_reducible repeat (first | apply Kd.R_alloc | apply Kd.R_drewN | apply Kd.R_drew)); exact Kd.R_mono (Kd.R_far (p := ⟨gb363, 2, none⟩) (Kd.R_far (p := ⟨gb363, 1, none⟩) (Kd.R_far (p := ⟨gb363, 0, none⟩) (Kd.R_far (p := ⟨gb366, 1, none⟩) (Kd.R_types (Kd.R_types HO378.out BK366.out (by decide)) BK363.out (by decide)) (fun _ hk => hk.1.2) (.slice Ao68 y376.length co68)) (fun _ hk => hk.2) (.slice Ao60 y370.length co60)) (fun _ hk => hk.2) (.slice Ao68 y376.length co68)) (fun _ hk => hk.2) (.int .i64 (wrap64 (a0_2 + a1_2)))) (fun _ hk => hk.1.1), by repeat (first | (with_reducible first | exact HB.out | apply below_alloc | apply pw_below_drewN | apply below_drew1 | refine below_set ?_ GE361.out | refine below_set ?_ GE362.out | refine below_set ?_ GE363.out | refine below_set ?_ GE366.out) | exact HB.out)⟩
          ·
           rw [if_neg c43] at H
           exact absurd H (by simp)
         ·
          rw [if_neg c42] at H
          exact absurd H (by simp)
        ·
         rw [if_neg c41] at H
         exact absurd H (by simp)
       ·
        rw [if_neg c40] at H
        exact absurd H (by simp)
   ·
    rw [if_neg c18] at H
    have c18b0 : (x6_3 == 0) = false := beq_eq_false_iff_ne.mpr c18
    have c18b1 : (x6_3 != 0) = true := bne_iff_ne.mpr c18
    simp only [Option.some.injEq, Prod.mk.injEq] at H
    obtain ⟨rfl, rfl, rfl, rfl⟩ := H
    have hnb71 := NB363_361.out
    have hnc71 := NB361_363.out
    have hnb72 := NB363_362.out
    have hnc72 := NB362_363.out
    have hcz73_0 : wc.cell? ⟨gb363, 0, none⟩ = some (.slice none 0 0) := (blk_cell BK363.out 0).trans rfl
    have hcz73_1 : wc.cell? ⟨gb363, 1, none⟩ = some (.slice none 0 0) := (blk_cell BK363.out 1).trans rfl
    have hcz73_2 : wc.cell? ⟨gb363, 2, none⟩ = some (.int .i64 0) := (blk_cell BK363.out 2).trans rfl
    have hfz73_0 := blk_frozen BK363.out 0
    have hfz73_1 := blk_frozen BK363.out 1
    have hfz73_2 := blk_frozen BK363.out 2
    go_wp2
    refine bodyPost_ret (results_ct rfl _ _ gb363 24 #[.slice none 0 0, .slice none 0 0, .int .i64 0] (0, 0) _ rfl (by (with_reducible repeat (first | refine blk_drewN ?_ _ | refine blk_drew ?_ | refine blk_alloc ?_ _)); refine blk_put (cs := #[.slice none 0 0, .slice none 0 0, .int .i64 0]) ?_ 2 _ rfl; (with_reducible repeat (first | refine blk_drewN ?_ _ | refine blk_drew ?_ | refine blk_alloc ?_ _)); refine blk_put (cs := #[.slice none 0 0, .slice none 0 0, .int .i64 0]) ?_ 1 _ rfl; (with_reducible repeat (first | refine blk_drewN ?_ _ | refine blk_drew ?_ | refine blk_alloc ?_ _)); refine blk_put (cs := #[.slice none 0 0, .slice none 0 0, .int .i64 0]) ?_ 0 _ rfl; (with_reducible repeat (first | refine blk_drewN ?_ _ | refine blk_drew ?_ | refine blk_alloc ?_ _)); exact BK363.out) Try.underlying24 rfl (by kernel_rfl)) rfl ?_
    exact ⟨_, _, by first | rfl | (simp [errW_none, errW_some] <;> rfl) | (simp [*, errW_none, errW_some] <;> rfl), by first | exact Kd.R_nil _ _ _ _ _ | exact Kd.N_nil _ _ _ _ _ | exact Kd.V_nil _ _ _ _ _ | exact Kd.Q_nil _ _ _ _ _ | exact Kd.S_nil _ _ _ _ _, by first | exact Kd.R_nil _ _ _ _ _ | exact Kd.N_nil _ _ _ _ _ | exact Kd.V_nil _ _ _ _ _ | exact Kd.Q_nil _ _ _ _ _ | exact Kd.S_nil _ _ _ _ _, by repeat (first | (with_reducible first | exact HB.out | apply below_alloc | apply pw_below_drewN | apply below_drew1 | refine below_set ?_ GE361.out | refine below_set ?_ GE362.out | refine below_set ?_ GE363.out) | exact HB.out)⟩

/-! ### chalklineref12_Cut: function 29 -/
mutual
def chalklineref12_Cut.j0 : Nat → Int → Bool → List Int → List Int → Int → Option (List Int × List Int × Int × Int)
 | 0, _, _, _, _, _ => none
 | k + 1, x1, x20, x380000, x380001, x380002 => if x20 = true then (some (([] : List Int), ([] : List Int), 0, 1)) else ((chalklineref12_Norm.f k x380000 x380001 x380002).bind fun bt382 => (chalklineref12_Cut.l0 k x1 0 bt382.1 bt382.2.1 bt382.2.2))
def chalklineref12_Cut.l0 : Nat → Int → Int → List Int → List Int → Int → Option (List Int × List Int × Int × Int)
 | 0, _, _, _, _, _ => none
 | k + 1, x1, x8, x390000, x390001, x390002 => if x8 < (x390000.length : Int) then (if 0 ≤ x8 then (if x1 = 0 then (none) else (chalklineref12_Cut.l0 k x1 (wrap64 (x8 + 1)) (x390000.set (x8 : Int).toNat (wrap64 (Int.tdiv (wrap64 ((wrap64 ((rd x390000 x8) + x1)) - 1)) x1))) x390001 x390002)) else (none)) else (if x1 = 0 then (none) else (some (x390000, x390001, wrap64 (Int.tdiv (wrap64 ((wrap64 (x390002 + x1)) - 1)) x1), 0)))
end
def chalklineref12_Cut.f (k : Nat) (l0_0 : List Int) (l0_1 : List Int) (a0_2 : Int) (a1 : Int) : Option (List Int × List Int × Int × Int) := (chalklineref12_Check.f k l0_0 l0_1 a0_2 65536).bind fun t381 => (if t381 = 0 then (if a1 < 1 then (chalklineref12_Cut.j0 k a1 true l0_0 l0_1 a0_2) else (chalklineref12_Cut.j0 k a1 (decide (a1 > 1099511627776)) l0_0 l0_1 a0_2)) else (some (([] : List Int), ([] : List Int), 0, t381)))
def chalklineref12_Cut.T10 : Bool × List (List Nat × List Nat) := (true, [([], []), ([0], [0]), ([], []), ([], []), ([3], [3]), ([], []), ([4, 5], [4, 5]), ([6], [6]), ([], []), ([7, 8], [7, 8]), ([9], [9]), ([], []), ([10, 11], [10, 11]), ([1, 2, 0, 1, 2, 3, 4, 5, 6, 7, 8, 9, 10, 11, 12], [1, 2]), ([13, 12, 0, 1, 2, 3, 4, 5, 6, 7, 8, 9, 10, 11, 12], [12, 13])])
def chalklineref12_Cut.B10 : List Nat := [0, 1, 0, 0, 8, 0, 56, 120, 0, 504, 1016, 0, 4088, 8191, 16383]
theorem chalklineref12_Cut.tab10 : rtab .any (opsOf Try.f29 10) = chalklineref12_Cut.T10 := by kernel_rfl
theorem chalklineref12_Cut.bits10 : waitsOk chalklineref12_Cut.T10.2 chalklineref12_Cut.B10 = true := by kernel_rfl
set_option maxHeartbeats 8000000 in
set_option maxRecDepth 100000 in
theorem chalklineref12_Cut.calls (k : Nat) (A0_0 : Option Addr) (c0_0 : Nat) (l0_0 : List Int) (A0_1 : Option Addr) (c0_1 : Nat) (l0_1 : List Int) (a0_2 : Int) (a1 : Int) (r1 : List Int) (r2 : List Int) (r3 : Int) (r4 : Int) (w : World) (hr0_0 : Kd.C (Kd.int .i64) w A0_0 l0_0.length l0_0) (hc0_0 : l0_0.length ≤ c0_0) (hr0_1 : Kd.C (Kd.int .i64) w A0_1 l0_1.length l0_1) (hc0_1 : l0_1.length ≤ c0_1) (h : chalklineref12_Cut.f k l0_0 l0_1 a0_2 a1 = some (r1, r2, r3, r4)) :
  Calls Try.prog 29 #[.agg #[.slice A0_0 l0_0.length c0_0, .slice A0_1 l0_1.length c0_1, .int .i64 a0_2], .int .i64 a1] w fun e w' => ∃ v0_ v1_ : Value, e = .returned (.tuple #[.agg #[v0_, v1_, .int .i64 r3], .int .i64 r4]) ∧ Kd.R (Kd.int .i64) 3 w' w.heap.size (fun k_ => some k_ ≠ (v1_ : Value).ownBlock) v0_ r1 ∧ Kd.R (Kd.int .i64) 3 w' w.heap.size (fun k_ => some k_ ≠ (v0_ : Value).ownBlock) v1_ r2 ∧ Below w.heap.size w w' := by
 have hu24 := Try.underlying24
 have HR0_0 := Aside0.mk hr0_0
 have HC0_0 := Aside0.mk hc0_0
 clear hr0_0 hc0_0
 have HR0_1 := Aside0.mk hr0_1
 have HC0_1 := Aside0.mk hc0_1
 clear hr0_1 hc0_1
 have HB := Aside0.mk (Below.refl w.heap.size w)
 have H : ((chalklineref12_Check.f k l0_0 l0_1 a0_2 65536).bind fun t381 => (if t381 = 0 then (if a1 < 1 then (chalklineref12_Cut.j0 k a1 true l0_0 l0_1 a0_2) else (chalklineref12_Cut.j0 k a1 (decide (a1 > 1099511627776)) l0_0 l0_1 a0_2)) else (some (([] : List Int), ([] : List Int), 0, t381)))) = some (r1, r2, r3, r4) := h
 clear h
 replace H := Option.bind_eq_some_iff.mp H
 obtain ⟨t381, A30, H⟩ := H
 replace H : (if t381 = 0 then (if a1 < 1 then (chalklineref12_Cut.j0 k a1 true l0_0 l0_1 a0_2) else (chalklineref12_Cut.j0 k a1 (decide (a1 > 1099511627776)) l0_0 l0_1 a0_2)) else (some (([] : List Int), ([] : List Int), 0, t381))) = some (r1, r2, r3, r4) := H
 have A3 := Aside0.mk A30
 clear A30
 by_cases c4 : t381 = 0
 ·
  rw [if_pos c4] at H
  have c4b0 : (t381 == 0) = true := beq_iff_eq.mpr c4
  have c4b1 : (t381 != 0) = false := bne_eq_false_iff_eq.mpr c4
  clear c4
  have HC5 := Aside0.mk H
  clear H
  go_enter Try.func29, Try.ntmps29
  go_upto_region 4 with (first | ((with_reducible refine gate_dst (N := 2) rfl ?_); refine box_event ?hg (N := 2) ?hd (cs := #[.slice A0_0 l0_0.length c0_0, .slice A0_1 l0_1.length c0_1, .int .i64 a0_2]) (t := 24) ?hr ?_; (case hd => rfl); (case hg => rfl); (case hr => first | (go_simp; done) | (go_simp; rfl)); intro gb379 hg w6 hbox hb; have n0_ := Aside0.mk (below_step (by repeat (first | (with_reducible first | exact HB.out | apply below_alloc | apply pw_below_drewN | apply below_drew1) | exact HB.out)) hb); have n1_ := Aside0.mk (hbox); have n2_ := Aside0.mk ((by rw [hg]; exact (below_size (by repeat (first | (with_reducible first | exact HB.out | apply below_alloc | apply pw_below_drewN | apply below_drew1) | exact HB.out))) : w.heap.size ≤ gb379)); have n3_ := Aside0.mk ((by rw [hg]; exact (below_size (by repeat (first | (with_reducible first | exact HB.out | apply below_alloc | apply pw_below_drewN | apply below_drew1) | exact HB.out))) : w.heap.size ≤ gb379)); clear HB; have HB := n0_; have BK379 := n1_; have GW379 := n2_; have GE379 := n3_; clear n0_ n1_ n2_ n3_; clear hb hbox hg) | ((with_reducible refine gate_dst (N := 4) rfl ?_); refine box_event ?hg (N := 4) ?hd (cs := #[.slice none 0 0, .slice none 0 0, .int .i64 0]) (t := 24) ?hr ?_; (case hd => rfl); (case hg => rfl); (case hr => first | (go_simp; done) | (go_simp; rfl)); intro gb380 hg w7 hbox hb; have n0_ := Aside0.mk (blk_below (g := gb379) (o := .cells #[.slice A0_0 l0_0.length c0_0, .slice A0_1 l0_1.length c0_1, .int .i64 a0_2] 24 (0, 0)) (by (with_reducible repeat (first | refine blk_drewN ?_ _ | refine blk_drew ?_ | refine blk_alloc ?_ _)); exact BK379.out) hb); have n1_ := Aside0.mk (below_step (by repeat (first | (with_reducible first | exact HB.out | apply below_alloc | apply pw_below_drewN | apply below_drew1 | refine below_set ?_ GE379.out) | exact HB.out)) hb); have n2_ := Aside0.mk (hbox); have n3_ := Aside0.mk ((by rw [hg]; exact (below_size (by repeat (first | (with_reducible first | exact HB.out | apply below_alloc | apply pw_below_drewN | apply below_drew1 | refine below_set ?_ GE379.out) | exact HB.out))) : w.heap.size ≤ gb380)); have n4_ := Aside0.mk ((by rw [hg]; exact (below_size (by repeat (first | (with_reducible first | exact HB.out | apply below_alloc | apply pw_below_drewN | apply below_drew1 | refine below_set ?_ GE379.out) | exact HB.out))) : w.heap.size ≤ gb380)); have n5_ := Aside0.mk ((by rw [hg]; exact Nat.ne_of_lt (blk_lt (g := gb379) (o := .cells #[.slice A0_0 l0_0.length c0_0, .slice A0_1 l0_1.length c0_1, .int .i64 a0_2] 24 (0, 0)) (by (with_reducible repeat (first | refine blk_drewN ?_ _ | refine blk_drew ?_ | refine blk_alloc ?_ _)); exact BK379.out)) : gb379 ≠ gb380)); have n6_ := Aside0.mk ((by rw [hg]; exact Nat.ne_of_gt (blk_lt (g := gb379) (o := .cells #[.slice A0_0 l0_0.length c0_0, .slice A0_1 l0_1.length c0_1, .int .i64 a0_2] 24 (0, 0)) (by (with_reducible repeat (first | refine blk_drewN ?_ _ | refine blk_drew ?_ | refine blk_alloc ?_ _)); exact BK379.out)) : gb380 ≠ gb379)); clear BK379; clear HB; have BK379 := n0_; have HB := n1_; have BK380 := n2_; have GW380 := n3_; have GE380 := n4_; have NB379_380 := n5_; have NB380_379 := n6_; clear n0_ n1_ n2_ n3_ n4_ n5_ n6_; clear hb hbox hg; have hnb8 := NB379_380.out; have hnc8 := NB380_379.out; have hcz9_0 : w7.cell? ⟨gb379, 0, none⟩ = some (.slice A0_0 l0_0.length c0_0) := (blk_cell BK379.out 0).trans rfl; have hcz9_1 : w7.cell? ⟨gb379, 1, none⟩ = some (.slice A0_1 l0_1.length c0_1) := (blk_cell BK379.out 1).trans rfl; have hcz9_2 : w7.cell? ⟨gb379, 2, none⟩ = some (.int .i64 a0_2) := (blk_cell BK379.out 2).trans rfl; have hfz9_0 := blk_frozen BK379.out 0; have hfz9_1 := blk_frozen BK379.out 1; have hfz9_2 := blk_frozen BK379.out 2) | ((with_reducible refine gate_callee (f := 23) rfl ?_); refine goesL_ (some 10) rfl rfl Try.func23 (by kernel_rfl) rfl #[.agg #[.slice A0_0 l0_0.length c0_0, .slice A0_1 l0_1.length c0_1, .int .i64 a0_2], .int .i64 65536] rfl (by (try simp only [List.map_toArray, List.map_cons, List.map_nil]); first | done | rfl | (simp only [List.length_drop, List.length_take]; rfl)) ?_; (with_reducible refine (chalklineref12_Check.calls k _ _ l0_0 _ _ l0_1 a0_2 65536 t381 _ ?side1 ?side2 ?side3 ?side4 A3.out).mono ?_); (case side1 => repeat (first | exact (Kd.C_below HR0_0.out HB.out) | (with_reducible refine Kd.C_alloc ?_ _) | (with_reducible refine Kd.C_drewN ?_ _) | (with_reducible refine Kd.C_drew ?_))); (case side2 => exact HC0_0.out); (case side3 => repeat (first | exact (Kd.C_below HR0_1.out HB.out) | (with_reducible refine Kd.C_alloc ?_ _) | (with_reducible refine Kd.C_drewN ?_ _) | (with_reducible refine Kd.C_drew ?_))); (case side4 => exact HC0_1.out); rintro e w10 ⟨rfl, hb⟩; refine ⟨_, rfl, ?_⟩; have n0_ := Aside0.mk (blk_below (g := gb379) (o := .cells #[.slice A0_0 l0_0.length c0_0, .slice A0_1 l0_1.length c0_1, .int .i64 a0_2] 24 (0, 0)) (by (with_reducible repeat (first | refine blk_drewN ?_ _ | refine blk_drew ?_ | refine blk_alloc ?_ _)); exact BK379.out) hb); have n1_ := Aside0.mk (blk_below (g := gb380) (o := .cells #[.slice none 0 0, .slice none 0 0, .int .i64 0] 24 (0, 0)) (by (with_reducible repeat (first | refine blk_drewN ?_ _ | refine blk_drew ?_ | refine blk_alloc ?_ _)); exact BK380.out) hb); have n2_ := Aside0.mk (below_step (by repeat (first | (with_reducible first | exact HB.out | apply below_alloc | apply pw_below_drewN | apply below_drew1 | refine below_set ?_ GE379.out | refine below_set ?_ GE380.out) | exact HB.out)) hb); clear BK379; clear BK380; clear HB; have BK379 := n0_; have BK380 := n1_; have HB := n2_; clear n0_ n1_ n2_; (try clear hb); (try clear hb2); (try clear hk); (try clear hi)))
  (try simp only [Act.put, List.setIfInBounds_toArray, List.set_cons_zero, List.set_cons_succ])
  go_cut [20] (fun v20 wc => ∃ (kq : Nat) (x20_4 : Bool), v20 = .bool x20_4 ∧ Aside0 (chalklineref12_Cut.j0 kq a1 x20_4 l0_0 l0_1 a0_2 = some (r1, r2, r3, r4)) ∧ Aside0 (kq ≤ k) ∧ Aside0 (wc.heap[gb379]? = some (.cells #[(.slice A0_0 l0_0.length c0_0), (.slice A0_1 l0_1.length c0_1), .int .i64 a0_2] 24 (0, 0))) ∧ Aside0 (wc.heap[gb380]? = some (.cells #[(.slice none 0 0), (.slice none 0 0), .int .i64 0] 24 (0, 0))) ∧ Aside0 (Below w.heap.size w wc))
  case first =>
   have H := HC5.out
   clear HC5
   by_cases c11 : a1 < 1
   ·
    rw [if_pos c11] at H
    have c11b0 : decide (a1 < 1) = true := decide_eq_true c11
    clear c11
    (first | rw [c11b0] | (simp only [i64_w, i32_w]; rw [c11b0]) | skip)
    have H' := Aside0.mk H
    clear H
    go_wp2
    go_meet
    case rel => exact ⟨_, (true), (by first | rfl | (simp; done) | (simp [*]; done)), H', ⟨by first | omega | exact Nat.le_refl _⟩, ⟨by (with_reducible repeat (first | refine blk_drewN ?_ _ | refine blk_drew ?_ | refine blk_alloc ?_ _)); exact BK379.out⟩, ⟨by (with_reducible repeat (first | refine blk_drewN ?_ _ | refine blk_drew ?_ | refine blk_alloc ?_ _)); exact BK380.out⟩, ⟨by repeat (first | (with_reducible first | exact HB.out | apply below_alloc | apply pw_below_drewN | apply below_drew1 | refine below_set ?_ GE379.out | refine below_set ?_ GE380.out) | exact HB.out)⟩⟩
   ·
    rw [if_neg c11] at H
    have c11b0 : decide (a1 < 1) = false := decide_eq_false c11
    clear c11
    (first | rw [c11b0] | (simp only [i64_w, i32_w]; rw [c11b0]) | skip)
    have H' := Aside0.mk H
    clear H
    go_wp2
    go_meet
    case rel => exact ⟨_, (decide (a1 > 1099511627776)), (by first | rfl | (simp; done) | (simp [*]; done)), H', ⟨by first | omega | exact Nat.le_refl _⟩, ⟨by (with_reducible repeat (first | refine blk_drewN ?_ _ | refine blk_drew ?_ | refine blk_alloc ?_ _)); exact BK379.out⟩, ⟨by (with_reducible repeat (first | refine blk_drewN ?_ _ | refine blk_drew ?_ | refine blk_alloc ?_ _)); exact BK380.out⟩, ⟨by repeat (first | (with_reducible first | exact HB.out | apply below_alloc | apply pw_below_drewN | apply below_drew1 | refine below_set ?_ GE379.out | refine below_set ?_ GE380.out) | exact HB.out)⟩⟩
  case rest =>
   clear HC5
   obtain ⟨kq, x20_4, rfl, HA, HJ4, BK379, BK380, HB⟩ := hcut
   cases kq with
   | zero => exact absurd HA.out (by simp [chalklineref12_Cut.j0])
   | succ kj4 =>
    have H := HA.out
    clear HA
    simp only [chalklineref12_Cut.j0] at H
    by_cases c12 : x20_4 = true
    ·
     subst c12
     have H1 : (some (([] : List Int), ([] : List Int), 0, 1)) = some (r1, r2, r3, r4) := by rw [if_pos rfl] at H; exact H
     clear H
     have H := H1
     clear H1
     simp only [Option.some.injEq, Prod.mk.injEq] at H
     obtain ⟨rfl, rfl, rfl, rfl⟩ := H
     have hnb13 := NB380_379.out
     have hnc13 := NB379_380.out
     have hcz14_0 : wc.cell? ⟨gb380, 0, none⟩ = some (.slice none 0 0) := (blk_cell BK380.out 0).trans rfl
     have hcz14_1 : wc.cell? ⟨gb380, 1, none⟩ = some (.slice none 0 0) := (blk_cell BK380.out 1).trans rfl
     have hcz14_2 : wc.cell? ⟨gb380, 2, none⟩ = some (.int .i64 0) := (blk_cell BK380.out 2).trans rfl
     have hfz14_0 := blk_frozen BK380.out 0
     have hfz14_1 := blk_frozen BK380.out 1
     have hfz14_2 := blk_frozen BK380.out 2
     go_wp2
     refine bodyPost_ret (results_ct rfl _ _ gb380 24 #[.slice none 0 0, .slice none 0 0, .int .i64 0] (0, 0) _ rfl (by (with_reducible repeat (first | refine blk_drewN ?_ _ | refine blk_drew ?_ | refine blk_alloc ?_ _)); refine blk_put (cs := #[.slice none 0 0, .slice none 0 0, .int .i64 0]) ?_ 2 _ rfl; (with_reducible repeat (first | refine blk_drewN ?_ _ | refine blk_drew ?_ | refine blk_alloc ?_ _)); refine blk_put (cs := #[.slice none 0 0, .slice none 0 0, .int .i64 0]) ?_ 1 _ rfl; (with_reducible repeat (first | refine blk_drewN ?_ _ | refine blk_drew ?_ | refine blk_alloc ?_ _)); refine blk_put (cs := #[.slice none 0 0, .slice none 0 0, .int .i64 0]) ?_ 0 _ rfl; (with_reducible repeat (first | refine blk_drewN ?_ _ | refine blk_drew ?_ | refine blk_alloc ?_ _)); exact BK380.out) Try.underlying24 rfl (by kernel_rfl)) rfl ?_
     exact ⟨_, _, by first | rfl | (simp [errW_none, errW_some] <;> rfl) | (simp [*, errW_none, errW_some] <;> rfl), by first | exact Kd.R_nil _ _ _ _ _ | exact Kd.N_nil _ _ _ _ _ | exact Kd.V_nil _ _ _ _ _ | exact Kd.Q_nil _ _ _ _ _ | exact Kd.S_nil _ _ _ _ _, by first | exact Kd.R_nil _ _ _ _ _ | exact Kd.N_nil _ _ _ _ _ | exact Kd.V_nil _ _ _ _ _ | exact Kd.Q_nil _ _ _ _ _ | exact Kd.S_nil _ _ _ _ _, by repeat (first | (with_reducible first | exact HB.out | apply below_alloc | apply pw_below_drewN | apply below_drew1 | refine below_set ?_ GE379.out | refine below_set ?_ GE380.out) | exact HB.out)⟩
    ·
     replace c12 := Bool.eq_false_iff.mpr c12
     subst c12
     have H1 : ((chalklineref12_Norm.f kj4 l0_0 l0_1 a0_2).bind fun bt382 => (chalklineref12_Cut.l0 kj4 a1 0 bt382.1 bt382.2.1 bt382.2.2)) = some (r1, r2, r3, r4) := by rw [if_neg (show ¬ (false = true) by decide)] at H; exact H
     clear H
     have H := H1
     clear H1
     replace H := Option.bind_eq_some_iff.mp H
     obtain ⟨⟨t382, t385, t388⟩, A150, H⟩ := H
     replace H : (chalklineref12_Cut.l0 kj4 a1 0 t382 t385 t388) = some (r1, r2, r3, r4) := H
     have A15 := Aside0.mk A150
     clear A150
     have H' := Aside0.mk H
     clear H
     have hnb16 := NB379_380.out
     have hnc16 := NB380_379.out
     have hcz17_0 : wc.cell? ⟨gb379, 0, none⟩ = some (.slice A0_0 l0_0.length c0_0) := (blk_cell BK379.out 0).trans rfl
     have hcz17_1 : wc.cell? ⟨gb379, 1, none⟩ = some (.slice A0_1 l0_1.length c0_1) := (blk_cell BK379.out 1).trans rfl
     have hcz17_2 : wc.cell? ⟨gb379, 2, none⟩ = some (.int .i64 a0_2) := (blk_cell BK379.out 2).trans rfl
     have hfz17_0 := blk_frozen BK379.out 0
     have hfz17_1 := blk_frozen BK379.out 1
     have hfz17_2 := blk_frozen BK379.out 2
     go_wp2_with (first | ((with_reducible refine gate_callee (f := 22) rfl ?_); refine goesL_ (some 23) rfl rfl Try.func22 (by kernel_rfl) rfl #[.agg #[.slice A0_0 l0_0.length c0_0, .slice A0_1 l0_1.length c0_1, .int .i64 a0_2]] rfl (by (try simp only [List.map_toArray, List.map_cons, List.map_nil]); first | done | rfl | (simp only [List.length_drop, List.length_take]; rfl)) ?_; (with_reducible refine (chalklineref12_Norm.calls kj4 _ _ l0_0 _ _ l0_1 a0_2 t382 t385 t388 _ ?side1 ?side2 ?side3 ?side4 A15.out).mono ?_); (case side1 => repeat (first | exact (Kd.C_below HR0_0.out HB.out) | (with_reducible refine Kd.C_alloc ?_ _) | (with_reducible refine Kd.C_drewN ?_ _) | (with_reducible refine Kd.C_drew ?_))); (case side2 => exact HC0_0.out); (case side3 => repeat (first | exact (Kd.C_below HR0_1.out HB.out) | (with_reducible refine Kd.C_alloc ?_ _) | (with_reducible refine Kd.C_drewN ?_ _) | (with_reducible refine Kd.C_drew ?_))); (case side4 => exact HC0_1.out); rintro e w18 ⟨v383, v386, rfl, ho0, ho1, hb⟩; refine ⟨_, rfl, ?_⟩; have n0_ := Aside0.mk (Kd.R_lower ho0 (below_size (by repeat (first | (with_reducible first | exact HB.out | apply below_alloc | apply pw_below_drewN | apply below_drew1 | refine below_set ?_ GE379.out | refine below_set ?_ GE380.out) | exact HB.out)))); have n1_ := Aside0.mk (Kd.R_lower ho1 (below_size (by repeat (first | (with_reducible first | exact HB.out | apply below_alloc | apply pw_below_drewN | apply below_drew1 | refine below_set ?_ GE379.out | refine below_set ?_ GE380.out) | exact HB.out)))); have n2_ := Aside0.mk (blk_below (g := gb379) (o := .cells #[.slice A0_0 l0_0.length c0_0, .slice A0_1 l0_1.length c0_1, .int .i64 a0_2] 24 (0, 0)) (by (with_reducible repeat (first | refine blk_drewN ?_ _ | refine blk_drew ?_ | refine blk_alloc ?_ _)); exact BK379.out) hb); have n3_ := Aside0.mk (blk_below (g := gb380) (o := .cells #[.slice none 0 0, .slice none 0 0, .int .i64 0] 24 (0, 0)) (by (with_reducible repeat (first | refine blk_drewN ?_ _ | refine blk_drew ?_ | refine blk_alloc ?_ _)); exact BK380.out) hb); have n4_ := Aside0.mk (below_step (by repeat (first | (with_reducible first | exact HB.out | apply below_alloc | apply pw_below_drewN | apply below_drew1 | refine below_set ?_ GE379.out | refine below_set ?_ GE380.out) | exact HB.out)) hb); clear BK379; clear BK380; clear HB; have HO384 := n0_; have HO387 := n1_; have BK379 := n2_; have BK380 := n3_; have HB := n4_; clear n0_ n1_ n2_ n3_ n4_; (try clear hb); (try clear hb2); (try clear hk); (try clear hi); (try clear ho0); (try clear ho1)) | ((with_reducible refine gate_dst (N := 7) rfl ?_); refine box_event ?hg (N := 7) ?hd (cs := #[.slice none 0 0, .slice none 0 0, .int .i64 0]) (t := 24) ?hr ?_; (case hd => rfl); (case hg => rfl); (case hr => first | (go_simp; done) | (go_simp; rfl)); intro gb389 hg w19 hbox hb; have n0_ := Aside0.mk (Kd.R_below (by (with_reducible repeat (first | apply Kd.R_alloc | apply Kd.R_drewN | apply Kd.R_drew)); exact HO384.out) hb); have n1_ := Aside0.mk (Kd.R_below (by (with_reducible repeat (first | apply Kd.R_alloc | apply Kd.R_drewN | apply Kd.R_drew)); exact HO387.out) hb); have n2_ := Aside0.mk (blk_below (g := gb379) (o := .cells #[.slice A0_0 l0_0.length c0_0, .slice A0_1 l0_1.length c0_1, .int .i64 a0_2] 24 (0, 0)) (by (with_reducible repeat (first | refine blk_drewN ?_ _ | refine blk_drew ?_ | refine blk_alloc ?_ _)); exact BK379.out) hb); have n3_ := Aside0.mk (blk_below (g := gb380) (o := .cells #[.slice none 0 0, .slice none 0 0, .int .i64 0] 24 (0, 0)) (by (with_reducible repeat (first | refine blk_drewN ?_ _ | refine blk_drew ?_ | refine blk_alloc ?_ _)); exact BK380.out) hb); have n4_ := Aside0.mk (below_step (by repeat (first | (with_reducible first | exact HB.out | apply below_alloc | apply pw_below_drewN | apply below_drew1 | refine below_set ?_ GE379.out | refine below_set ?_ GE380.out) | exact HB.out)) hb); have n5_ := Aside0.mk (hbox); have n6_ := Aside0.mk ((by rw [hg]; exact (below_size (by repeat (first | (with_reducible first | exact HB.out | apply below_alloc | apply pw_below_drewN | apply below_drew1 | refine below_set ?_ GE379.out | refine below_set ?_ GE380.out) | exact HB.out))) : w.heap.size ≤ gb389)); have n7_ := Aside0.mk ((by rw [hg]; exact (below_size (by repeat (first | (with_reducible first | exact HB.out | apply below_alloc | apply pw_below_drewN | apply below_drew1 | refine below_set ?_ GE379.out | refine below_set ?_ GE380.out) | exact HB.out))) : w.heap.size ≤ gb389)); have n8_ := Aside0.mk ((by rw [hg]; exact Nat.ne_of_lt (blk_lt (g := gb379) (o := .cells #[.slice A0_0 l0_0.length c0_0, .slice A0_1 l0_1.length c0_1, .int .i64 a0_2] 24 (0, 0)) (by (with_reducible repeat (first | refine blk_drewN ?_ _ | refine blk_drew ?_ | refine blk_alloc ?_ _)); exact BK379.out)) : gb379 ≠ gb389)); have n9_ := Aside0.mk ((by rw [hg]; exact Nat.ne_of_gt (blk_lt (g := gb379) (o := .cells #[.slice A0_0 l0_0.length c0_0, .slice A0_1 l0_1.length c0_1, .int .i64 a0_2] 24 (0, 0)) (by (with_reducible repeat (first | refine blk_drewN ?_ _ | refine blk_drew ?_ | refine blk_alloc ?_ _)); exact BK379.out)) : gb389 ≠ gb379)); have n10_ := Aside0.mk ((by rw [hg]; exact Nat.ne_of_lt (blk_lt (g := gb380) (o := .cells #[.slice none 0 0, .slice none 0 0, .int .i64 0] 24 (0, 0)) (by (with_reducible repeat (first | refine blk_drewN ?_ _ | refine blk_drew ?_ | refine blk_alloc ?_ _)); exact BK380.out)) : gb380 ≠ gb389)); have n11_ := Aside0.mk ((by rw [hg]; exact Nat.ne_of_gt (blk_lt (g := gb380) (o := .cells #[.slice none 0 0, .slice none 0 0, .int .i64 0] 24 (0, 0)) (by (with_reducible repeat (first | refine blk_drewN ?_ _ | refine blk_drew ?_ | refine blk_alloc ?_ _)); exact BK380.out)) : gb389 ≠ gb380)); clear HO384; clear HO387; clear BK379; clear BK380; clear HB; have HO384 := n0_; have HO387 := n1_; have BK379 := n2_; have BK380 := n3_; have HB := n4_; have BK389 := n5_; have GW389 := n6_; have GE389 := n7_; have NB379_389 := n8_; have NB389_379 := n9_; have NB380_389 := n10_; have NB389_380 := n11_; clear n0_ n1_ n2_ n3_ n4_ n5_ n6_ n7_ n8_ n9_ n10_ n11_; clear hb hbox hg; obtain ⟨Ao20, co20, eo20⟩ := Kd.R_slice HO384.out; subst eo20; have hnb21 := NB389_379.out; have hnc21 := NB379_389.out; have hnb22 := NB389_380.out; have hnc22 := NB380_389.out; have hcz23_0 : w19.cell? ⟨gb389, 0, none⟩ = some (.slice none 0 0) := (blk_cell BK389.out 0).trans rfl; have hcz23_1 : w19.cell? ⟨gb389, 1, none⟩ = some (.slice none 0 0) := (blk_cell BK389.out 1).trans rfl; have hcz23_2 : w19.cell? ⟨gb389, 2, none⟩ = some (.int .i64 0) := (blk_cell BK389.out 2).trans rfl; have hfz23_0 := blk_frozen BK389.out 0; have hfz23_1 := blk_frozen BK389.out 1; have hfz23_2 := blk_frozen BK389.out 2; obtain ⟨Ao24, co24, eo24⟩ := Kd.R_slice HO387.out; subst eo24))
     go_loopg [8] kj4 (fun kq v8 w' => ∃ (x8_2 : Int) (x390000_2 : List Int) (x390001_2 : List Int) (u390000 : Value) (u390001 : Value), v8 = .int .i64 x8_2 ∧ Aside0 (chalklineref12_Cut.l0 kq a1 x8_2 x390000_2 x390001_2 t388 = some (r1, r2, r3, r4)) ∧ Aside0 (kq ≤ kj4) ∧ Aside0 (Kd.R (Kd.int .i64) 3 w' w.heap.size (fun k_ => some k_ ≠ (u390001 : Value).ownBlock) u390000 x390000_2) ∧ Aside0 (Kd.R (Kd.int .i64) 3 w' w.heap.size (fun k_ => some k_ ≠ (u390000 : Value).ownBlock) u390001 x390001_2) ∧ Aside0 (w'.heap[gb379]? = some (.cells #[(.slice A0_0 l0_0.length c0_0), (.slice A0_1 l0_1.length c0_1), .int .i64 a0_2] 24 (0, 0))) ∧ Aside0 (w'.heap[gb380]? = some (.cells #[(.slice none 0 0), (.slice none 0 0), .int .i64 0] 24 (0, 0))) ∧ Aside0 (w'.heap[gb389]? = some (.cells #[u390000, u390001, .int .i64 t388] 24 (0, 0))) ∧ Aside0 (Below w.heap.size w w'))
     case atStart => exact ⟨(0), (t382), (t385), (.slice Ao20 t382.length co20), (.slice Ao24 t385.length co24), (by first | rfl | (simp; done) | (simp [*]; done)), H', ⟨Nat.le_refl _⟩, ⟨by (with_reducible repeat (first | apply Kd.R_alloc | apply Kd.R_drewN | apply Kd.R_drew)); exact Kd.R_mono (Kd.R_far (p := ⟨gb389, 2, none⟩) (Kd.R_far (p := ⟨gb389, 1, none⟩) (Kd.R_far (p := ⟨gb389, 0, none⟩) (Kd.R_types HO384.out BK389.out (by decide)) (fun _ hk => hk.2) (.slice Ao20 t382.length co20)) (fun _ hk => hk.2) (.slice Ao24 t385.length co24)) (fun _ hk => hk.2) (.int .i64 t388)) (fun _ hk => hk.1)⟩, ⟨by (with_reducible repeat (first | apply Kd.R_alloc | apply Kd.R_drewN | apply Kd.R_drew)); exact Kd.R_mono (Kd.R_far (p := ⟨gb389, 2, none⟩) (Kd.R_far (p := ⟨gb389, 1, none⟩) (Kd.R_far (p := ⟨gb389, 0, none⟩) (Kd.R_types HO387.out BK389.out (by decide)) (fun _ hk => hk.2) (.slice Ao20 t382.length co20)) (fun _ hk => hk.2) (.slice Ao24 t385.length co24)) (fun _ hk => hk.2) (.int .i64 t388)) (fun _ hk => hk.1)⟩, ⟨by (with_reducible repeat (first | refine blk_drewN ?_ _ | refine blk_drew ?_ | refine blk_alloc ?_ _)); refine blk_far ?_ NB379_389.out _; (with_reducible repeat (first | refine blk_drewN ?_ _ | refine blk_drew ?_ | refine blk_alloc ?_ _)); refine blk_far ?_ NB379_389.out _; (with_reducible repeat (first | refine blk_drewN ?_ _ | refine blk_drew ?_ | refine blk_alloc ?_ _)); refine blk_far ?_ NB379_389.out _; (with_reducible repeat (first | refine blk_drewN ?_ _ | refine blk_drew ?_ | refine blk_alloc ?_ _)); exact BK379.out⟩, ⟨by (with_reducible repeat (first | refine blk_drewN ?_ _ | refine blk_drew ?_ | refine blk_alloc ?_ _)); refine blk_far ?_ NB380_389.out _; (with_reducible repeat (first | refine blk_drewN ?_ _ | refine blk_drew ?_ | refine blk_alloc ?_ _)); refine blk_far ?_ NB380_389.out _; (with_reducible repeat (first | refine blk_drewN ?_ _ | refine blk_drew ?_ | refine blk_alloc ?_ _)); refine blk_far ?_ NB380_389.out _; (with_reducible repeat (first | refine blk_drewN ?_ _ | refine blk_drew ?_ | refine blk_alloc ?_ _)); exact BK380.out⟩, ⟨by (with_reducible repeat (first | refine blk_drewN ?_ _ | refine blk_drew ?_ | refine blk_alloc ?_ _)); refine blk_put (cs := #[.slice Ao20 t382.length co20, .slice Ao24 t385.length co24, .int .i64 0]) ?_ 2 _ rfl; (with_reducible repeat (first | refine blk_drewN ?_ _ | refine blk_drew ?_ | refine blk_alloc ?_ _)); refine blk_put (cs := #[.slice Ao20 t382.length co20, .slice none 0 0, .int .i64 0]) ?_ 1 _ rfl; (with_reducible repeat (first | refine blk_drewN ?_ _ | refine blk_drew ?_ | refine blk_alloc ?_ _)); refine blk_put (cs := #[.slice none 0 0, .slice none 0 0, .int .i64 0]) ?_ 0 _ rfl; (with_reducible repeat (first | refine blk_drewN ?_ _ | refine blk_drew ?_ | refine blk_alloc ?_ _)); exact BK389.out⟩, ⟨by repeat (first | (with_reducible first | exact HB.out | apply below_alloc | apply pw_below_drewN | apply below_drew1 | refine below_set ?_ GE379.out | refine below_set ?_ GE380.out | refine below_set ?_ GE389.out) | exact HB.out)⟩⟩
     case round =>
      clear H'
      obtain ⟨x8_2, x390000_2, x390001_2, u390000, u390001, rfl, HA, HK2, HO_390000, HO_390001, BK379, BK380, BK389, HB⟩ := hrel
      cases gk with
      | zero => exact absurd HA.out (by simp [chalklineref12_Cut.l0])
      | succ k2 =>
       have H := HA.out
       clear HA
       simp only [chalklineref12_Cut.l0] at H
       by_cases c25 : x8_2 < (x390000_2.length : Int)
       ·
        rw [if_pos c25] at H
        have c25b0 : decide (x8_2 < (x390000_2.length : Int)) = true := decide_eq_true c25
        clear c25
        by_cases c26 : 0 ≤ x8_2
        ·
         rw [if_pos c26] at H
         have c26b0 : decide (0 ≤ x8_2) = true := decide_eq_true c26
         clear c26
         by_cases c27 : a1 = 0
         ·
          rw [if_pos c27] at H
          exact absurd H (by simp)
         ·
          rw [if_neg c27] at H
          have c27b0 : (a1 == 0) = false := beq_eq_false_iff_ne.mpr c27
          have c27b1 : (a1 != 0) = true := bne_iff_ne.mpr c27
          obtain ⟨y391, hy391⟩ : ∃ y_ : List Int, y_ = (x390000_2.set (x8_2 : Int).toNat (wrap64 (Int.tdiv (wrap64 ((wrap64 ((rd x390000_2 x8_2) + a1)) - 1)) a1))) := ⟨_, rfl⟩
          replace H : (chalklineref12_Cut.l0 k2 a1 (wrap64 (x8_2 + 1)) y391 x390001_2 t388) = some (r1, r2, r3, r4) := by first | (rw [hy391]; with_reducible exact H) | (have H2_ := (Option.bind_some _ _).symm.trans H; rw [hy391]; with_reducible exact H2_) | (have H2_ := (Option.bind_some _ _).symm.trans H; with_reducible exact H2_) | with_reducible exact H | (rw [hy391]; exact H) | exact H
          have Ny391 := Aside0.mk hy391
          clear hy391
          have H' := Aside0.mk H
          clear H
          have hnb29 := NB389_379.out
          have hnc29 := NB379_389.out
          have hnb30 := NB389_380.out
          have hnc30 := NB380_389.out
          have hcz31_0 : wr.cell? ⟨gb389, 0, none⟩ = some (u390000) := (blk_cell BK389.out 0).trans rfl
          have hcz31_1 : wr.cell? ⟨gb389, 1, none⟩ = some (u390001) := (blk_cell BK389.out 1).trans rfl
          have hcz31_2 : wr.cell? ⟨gb389, 2, none⟩ = some (.int .i64 t388) := (blk_cell BK389.out 2).trans rfl
          have hfz31_0 := blk_frozen BK389.out 0
          have hfz31_1 := blk_frozen BK389.out 1
          have hfz31_2 := blk_frozen BK389.out 2
          obtain ⟨Ao32, co32, eo32⟩ := Kd.R_slice HO_390000.out
          subst eo32
          try go_wp2
          have n0_ := Aside0.mk (Kd.R_drew HO_390000.out)
          have n1_ := Aside0.mk (Kd.R_drew HO_390001.out)
          have n2_ := Aside0.mk (blk_drew BK379.out)
          have n3_ := Aside0.mk (blk_drew BK380.out)
          have n4_ := Aside0.mk (blk_drew BK389.out)
          have n5_ := Aside0.mk (below_drew1 HB.out)
          clear HO_390000
          clear HO_390001
          clear BK379
          clear BK380
          clear BK389
          clear HB
          have HO_390000 := n0_
          have HO_390001 := n1_
          have BK379 := n2_
          have BK380 := n3_
          have BK389 := n4_
          have HB := n5_
          clear n0_ n1_ n2_ n3_ n4_ n5_
          have p390 : 0 ≤ (x8_2 : Int) := of_decide_eq_true (by first | (with_reducible assumption) | assumption)
          have q390 : x8_2 < (x390000_2.length : Int) := of_decide_eq_true (by first | (with_reducible assumption) | assumption)
          obtain ⟨ad390, e390, hx390_0⟩ := Kd.at_int (Kd.R_reads' HO_390000.out).2.2 x8_2 p390 q390
          cases e390
          replace p390 := eq_true p390
          replace q390 := eq_true q390
          have p28 : 0 ≤ (x8_2 : Int) := of_decide_eq_true (by first | (with_reducible assumption) | assumption)
          have q28 : (x8_2 : Int) < ((x390000_2.length : Int) : Int) := of_decide_eq_true (by first | (with_reducible assumption) | assumption)
          obtain ⟨go28, co28, eo28, gb28, gl28, cl28, HG28⟩ := Kd.R_form HO_390000.out (by omega)
          (first | cases eo28 | (injection eo28 with ea_ en_ ec_; (first | subst ea_ | (injection ea_ with ea_; subst ea_)); subst ec_; clear en_))
          have GB28 := Aside0.mk gb28
          have GG28 := Aside0.mk HG28
          clear gb28 gl28 HG28
          (first | simp only [add_plain] at hx390_0 | skip)
          obtain ⟨hx28_0, hf28_0⟩ := Kd.R_celln 0 HO_390000.out (x8_2 : Int) p28 q28
          replace p28 := eq_true p28
          replace q28 := eq_true q28
          have HP34 := Kd.R_putn HO_390000.out (x8_2 : Int) (wrap64 (Int.tdiv (wrap64 ((wrap64 ((rd x390000_2 x8_2) + a1)) - 1)) a1))
          rw [← Ny391.out] at HP34
          have HQ34 := Aside0.mk HP34
          clear HP34
          refine start_ (n := 15) (S := fun w' => w'.cell? ⟨gb389, 0, none⟩ = some (.slice (some ⟨go28, 0, none⟩) x390000_2.length co32) ∧ w'.cell? ⟨gb389, 1, none⟩ = some (u390001) ∧ w'.cell? ⟨gb389, 2, none⟩ = some (.int .i64 t388) ∧ w'.cell? ⟨go28, (x8_2).toNat, none⟩ = some (.int .i64 (rd x390000_2 x8_2))) (ds := [14]) #[false, false, false, false, false, false, false, false, false, false, false, false, false, false, false] (by kernel_rfl) rfl rfl ⟨(blk_cell BK389.out 0).trans rfl, (blk_cell BK389.out 1).trans rfl, (blk_cell BK389.out 2).trans rfl, hx390_0⟩ (fun hHeld => ?_); refine with_tabW chalklineref12_Cut.tab10 chalklineref12_Cut.bits10 (fun HT_ HW_ => ?_)
          generalize wr.drew = w33 at HO_390000 HO_390001 BK379 BK380 BK389 HB GG28 HQ34 hf28_0 hx28_0 hx390_0 hHeld ⊢
          refine pure_ (i := 0) (N := some 31) (v := ?_) (a' := ?_) (bl 15 1) rfl rfl (any_of HT_.out (by kernel_rfl)) (fun _ _ _ h => h) (Or.inl ⟨by rfl, ?_⟩) ?_ ?_; rotate_left; · (intro w'; go_simp; with_reducible rfl)
          rotate_left; · (simp only [Act.put, List.setIfInBounds_toArray, List.set_cons_zero, List.set_cons_succ, i64_w, i32_w]; rfl)
          refine pure_ (i := 2) (N := some 33) (v := ?_) (a' := ?_) (bl 15 5) rfl rfl (any_of HT_.out (by kernel_rfl)) (fun _ _ _ h => h) (Or.inl ⟨by rfl, ?_⟩) ?_ ?_; rotate_left; · (intro w'; go_simp; with_reducible rfl)
          rotate_left; · (simp only [Act.put, List.setIfInBounds_toArray, List.set_cons_zero, List.set_cons_succ, i64_w, i32_w]; rfl)
          refine pure_ (i := 3) (N := some 34) (v := ?_) (a' := ?_) (bl 15 13) rfl rfl (any_of HT_.out (by kernel_rfl)) (fun _ _ _ h => h) (Or.inl ⟨by rfl, ?_⟩) ?_ ?_; rotate_left; · (intro w'; go_simp; with_reducible rfl)
          rotate_left; · (simp only [Act.put, List.setIfInBounds_toArray, List.set_cons_zero, List.set_cons_succ, i64_w, i32_w]; rfl)
          refine pure_ (i := 5) (N := some 36) (v := ?_) (a' := ?_) (bl 15 45) rfl rfl (any_of HT_.out (by kernel_rfl)) (fun _ _ _ h => h) (Or.inl ⟨by rfl, ?_⟩) ?_ ?_; rotate_left; · (intro w'; go_simp; with_reducible rfl)
          rotate_left; · (simp only [Act.put, List.setIfInBounds_toArray, List.set_cons_zero, List.set_cons_succ, i64_w, i32_w]; rfl)
          refine pure_ (i := 8) (N := some 39) (v := ?_) (a' := ?_) (bl 15 301) rfl rfl (any_of HT_.out (by kernel_rfl)) (fun _ _ _ h => h) (Or.inl ⟨by rfl, ?_⟩) ?_ ?_; rotate_left; · (intro w'; go_simp; with_reducible rfl)
          rotate_left; · (simp only [Act.put, List.setIfInBounds_toArray, List.set_cons_zero, List.set_cons_succ, i64_w, i32_w]; rfl)
          refine pure_ (i := 11) (N := some 42) (v := ?_) (a' := ?_) (bl 15 2349) rfl rfl (any_of HT_.out (by kernel_rfl)) (fun _ _ _ h => h) (Or.inl ⟨by rfl, ?_⟩) ?_ ?_; rotate_left; · (intro w'; go_simp; with_reducible rfl)
          rotate_left; · (simp only [Act.put, List.setIfInBounds_toArray, List.set_cons_zero, List.set_cons_succ, i64_w, i32_w]; rfl)
          refine take_ (i := 1) (N := some 32) (v := ?_) (a' := ?_) (bl 15 2351) rfl rfl (take_ofW HT_.out HW_.out (by kernel_rfl)) (fun _ _ _ h => h) (Or.inl ⟨by rfl, ?_⟩) hHeld ?_ ?_; rotate_left; · (rintro w' ⟨s0, s1, s2, s3⟩; go_simp; with_reducible rfl)
          rotate_left; · (simp only [Act.put, List.setIfInBounds_toArray, List.set_cons_zero, List.set_cons_succ, i64_w, i32_w]; rfl)
          refine take_ (i := 4) (N := some 35) (v := ?_) (a' := ?_) (bl 15 2367) rfl rfl (take_ofW HT_.out HW_.out (by kernel_rfl)) (fun _ _ _ h => h) (Or.inl ⟨by rfl, ?_⟩) hHeld ?_ ?_; rotate_left; · (rintro w' ⟨s0, s1, s2, s3⟩; go_simp; with_reducible rfl)
          rotate_left; · (simp only [Act.put, List.setIfInBounds_toArray, List.set_cons_zero, List.set_cons_succ, i64_w, i32_w]; rfl)
          refine pure_ (i := 6) (N := some 37) (v := ?_) (a' := ?_) (bl 15 2431) rfl rfl (any_of HT_.out (by kernel_rfl)) (fun _ _ _ h => h) (Or.inl ⟨by rfl, ?_⟩) ?_ ?_; rotate_left; · (intro w'; go_simp; with_reducible rfl)
          rotate_left; · (simp only [Act.put, List.setIfInBounds_toArray, List.set_cons_zero, List.set_cons_succ, i64_w, i32_w]; rfl)
          refine take_ (i := 7) (N := some 38) (v := ?_) (a' := ?_) (bl 15 2559) rfl rfl (take_ofW HT_.out HW_.out (by kernel_rfl)) (fun _ _ _ h => h) (Or.inl ⟨by rfl, ?_⟩) hHeld ?_ ?_; rotate_left; · (rintro w' ⟨s0, s1, s2, s3⟩; go_simp; with_reducible rfl)
          rotate_left; · (simp only [Act.put, List.setIfInBounds_toArray, List.set_cons_zero, List.set_cons_succ, i64_w, i32_w]; rfl)
          refine pure_ (i := 9) (N := some 40) (v := ?_) (a' := ?_) (bl 15 3071) rfl rfl (any_of HT_.out (by kernel_rfl)) (fun _ _ _ h => h) (Or.inl ⟨by rfl, ?_⟩) ?_ ?_; rotate_left; · (intro w'; go_simp; with_reducible rfl)
          rotate_left; · (simp only [Act.put, List.setIfInBounds_toArray, List.set_cons_zero, List.set_cons_succ, i64_w, i32_w]; rfl)
          refine pure_ (i := 10) (N := some 41) (v := ?_) (a' := ?_) (bl 15 4095) rfl rfl (any_of HT_.out (by kernel_rfl)) (fun _ _ _ h => h) (Or.inl ⟨by rfl, ?_⟩) ?_ ?_; rotate_left; · (intro w'; go_simp; with_reducible rfl)
          rotate_left; · (simp only [Act.put, List.setIfInBounds_toArray, List.set_cons_zero, List.set_cons_succ, i64_w, i32_w]; rfl)
          refine pure_ (i := 12) (N := some 43) (v := ?_) (a' := ?_) (bl 15 8191) rfl rfl (any_of HT_.out (by kernel_rfl)) (fun _ _ _ h => h) (Or.inl ⟨by rfl, ?_⟩) ?_ ?_; rotate_left; · (intro w'; go_simp; with_reducible rfl)
          rotate_left; · (simp only [Act.put, List.setIfInBounds_toArray, List.set_cons_zero, List.set_cons_succ, i64_w, i32_w]; rfl)
          refine pure_ (i := 13) (N := some 44) (v := ?_) (a' := ?_) (bl 15 16383) rfl rfl (any_of HT_.out (by kernel_rfl)) (fun _ _ _ h => h) (Or.inl ⟨by rfl, ?_⟩) ?_ ?_; rotate_left; · (intro w'; go_simp; with_reducible rfl)
          rotate_left; · (simp only [Act.put, List.setIfInBounds_toArray, List.set_cons_zero, List.set_cons_succ, i64_w, i32_w]; rfl)
          refine last_ (i := 14) (N := none) (bl 15 32767) rfl rfl (one_of HT_.out (by kernel_rfl)) (by decide) (fun K hK => ?_)
          refine skip_ (w1 := ?_) (by rfl) rfl ?_ ?_
          rotate_left
          ·
           go_simp
           rfl
          refine hK.out _ _ ?_
          clear hK K
          refine done_ (done_of HT_.out (by kernel_rfl)) ?_
          try go_wp2
          go_roundg k2
          case measure => have := HJ4.out; have := HK2.out; omega
          case rel => exact ⟨(wrap64 (x8_2 + 1)), (y391), (x390001_2), (.slice (some ⟨go28, 0, none⟩) x390000_2.length co32), (u390001), (by first | rfl | (simp; done) | (simp [*]; done)), H', ⟨by have := HJ4.out; have := HK2.out; omega⟩, ⟨by (with_reducible repeat (first | apply Kd.R_alloc | apply Kd.R_drewN | apply Kd.R_drew)); exact HQ34.out⟩, ⟨by (with_reducible repeat (first | apply Kd.R_alloc | apply Kd.R_drewN | apply Kd.R_drew)); exact Kd.R_mono (Kd.R_far (p := ⟨go28, (x8_2 : Int).toNat, none⟩) (Kd.R_mono HO_390001.out (fun k_ hk => (⟨hk, fun e_ => hk (by rw [e_]; rfl)⟩ : _ ∧ k_ ≠ go28))) (fun _ hk => hk.2) (.int .i64 (wrap64 (Int.tdiv (wrap64 ((wrap64 ((rd x390000_2 x8_2) + a1)) - 1)) a1)))) (fun _ hk => hk.1)⟩, ⟨by (with_reducible repeat (first | refine blk_drewN ?_ _ | refine blk_drew ?_ | refine blk_alloc ?_ _)); refine blk_far ?_ (by have h_ := Kd.R_ne HO_390000.out BK379.out (by decide); intro e_; exact h_ (by rw [e_]; rfl)) _; (with_reducible repeat (first | refine blk_drewN ?_ _ | refine blk_drew ?_ | refine blk_alloc ?_ _)); exact BK379.out⟩, ⟨by (with_reducible repeat (first | refine blk_drewN ?_ _ | refine blk_drew ?_ | refine blk_alloc ?_ _)); refine blk_far ?_ (by have h_ := Kd.R_ne HO_390000.out BK380.out (by decide); intro e_; exact h_ (by rw [e_]; rfl)) _; (with_reducible repeat (first | refine blk_drewN ?_ _ | refine blk_drew ?_ | refine blk_alloc ?_ _)); exact BK380.out⟩, ⟨by (with_reducible repeat (first | refine blk_drewN ?_ _ | refine blk_drew ?_ | refine blk_alloc ?_ _)); refine blk_far ?_ (by have h_ := Kd.R_ne HO_390000.out BK389.out (by decide); intro e_; exact h_ (by rw [e_]; rfl)) _; (with_reducible repeat (first | refine blk_drewN ?_ _ | refine blk_drew ?_ | refine blk_alloc ?_ _)); exact BK389.out⟩, ⟨by repeat (first | (with_reducible first | exact HB.out | apply below_alloc | apply pw_below_drewN | apply below_drew1 | refine below_set ?_ GB28.out | refine below_set ?_ GE379.out | refine below_set ?_ GE380.out | refine below_set ?_ GE389.out) | exact HB.out)⟩⟩
        ·
         rw [if_neg c26] at H
         exact absurd H (by simp)
       ·
        rw [if_neg c25] at H
        have c25b0 : decide (x8_2 < (x390000_2.length : Int)) = false := decide_eq_false c25
        clear c25
        by_cases c35 : a1 = 0
        ·
         rw [if_pos c35] at H
         exact absurd H (by simp)
        ·
         rw [if_neg c35] at H
         have c35b0 : (a1 == 0) = false := beq_eq_false_iff_ne.mpr c35
         have c35b1 : (a1 != 0) = true := bne_iff_ne.mpr c35
         simp only [Option.some.injEq, Prod.mk.injEq] at H
         obtain ⟨rfl, rfl, rfl, rfl⟩ := H
         have hnb36 := NB389_379.out
         have hnc36 := NB379_389.out
         have hnb37 := NB389_380.out
         have hnc37 := NB380_389.out
         have hcz38_0 : wr.cell? ⟨gb389, 0, none⟩ = some (u390000) := (blk_cell BK389.out 0).trans rfl
         have hcz38_1 : wr.cell? ⟨gb389, 1, none⟩ = some (u390001) := (blk_cell BK389.out 1).trans rfl
         have hcz38_2 : wr.cell? ⟨gb389, 2, none⟩ = some (.int .i64 t388) := (blk_cell BK389.out 2).trans rfl
         have hfz38_0 := blk_frozen BK389.out 0
         have hfz38_1 := blk_frozen BK389.out 1
         have hfz38_2 := blk_frozen BK389.out 2
         obtain ⟨Ao39, co39, eo39⟩ := Kd.R_slice HO_390000.out
         subst eo39
         have hnb40 := NB380_379.out
         have hnc40 := NB379_380.out
         have hcz41_0 : wr.cell? ⟨gb380, 0, none⟩ = some (.slice none 0 0) := (blk_cell BK380.out 0).trans rfl
         have hcz41_1 : wr.cell? ⟨gb380, 1, none⟩ = some (.slice none 0 0) := (blk_cell BK380.out 1).trans rfl
         have hcz41_2 : wr.cell? ⟨gb380, 2, none⟩ = some (.int .i64 0) := (blk_cell BK380.out 2).trans rfl
         have hfz41_0 := blk_frozen BK380.out 0
         have hfz41_1 := blk_frozen BK380.out 1
         have hfz41_2 := blk_frozen BK380.out 2
         obtain ⟨Ao42, co42, eo42⟩ := Kd.R_slice HO_390001.out
         subst eo42
         go_wp2
         refine bodyPost_ret (results_ct rfl _ _ gb380 24 #[.slice Ao39 x390000_2.length co39, .slice Ao42 x390001_2.length co42, .int .i64 (wrap64 (Int.tdiv (wrap64 ((wrap64 (t388 + a1)) - 1)) a1))] (0, 0) _ rfl (by (with_reducible repeat (first | refine blk_drewN ?_ _ | refine blk_drew ?_ | refine blk_alloc ?_ _)); refine blk_put (cs := #[.slice Ao39 x390000_2.length co39, .slice Ao42 x390001_2.length co42, .int .i64 0]) ?_ 2 _ rfl; (with_reducible repeat (first | refine blk_drewN ?_ _ | refine blk_drew ?_ | refine blk_alloc ?_ _)); refine blk_put (cs := #[.slice Ao39 x390000_2.length co39, .slice none 0 0, .int .i64 0]) ?_ 1 _ rfl; (with_reducible repeat (first | refine blk_drewN ?_ _ | refine blk_drew ?_ | refine blk_alloc ?_ _)); refine blk_put (cs := #[.slice none 0 0, .slice none 0 0, .int .i64 0]) ?_ 0 _ rfl; (with_reducible repeat (first | refine blk_drewN ?_ _ | refine blk_drew ?_ | refine blk_alloc ?_ _)); refine blk_far ?_ NB380_389.out _; (with_reducible repeat (first | refine blk_drewN ?_ _ | refine blk_drew ?_ | refine blk_alloc ?_ _)); exact BK380.out) Try.underlying24 rfl (by kernel_rfl)) rfl ?_
         exact ⟨_, _, by first | rfl | (simp [errW_none, errW_some] <;> rfl) | (simp [*, errW_none, errW_some] <;> rfl), by (with_reducible repeat (first | apply Kd.R_alloc | apply Kd.R_drewN | apply Kd.R_drew)); exact Kd.R_mono (Kd.R_far (p := ⟨gb380, 2, none⟩) (Kd.R_far (p := ⟨gb380, 1, none⟩) (Kd.R_far (p := ⟨gb380, 0, none⟩) (Kd.R_far (p := ⟨gb389, 2, none⟩) (Kd.R_types (Kd.R_types HO_390000.out BK389.out (by decide)) BK380.out (by decide)) (fun _ hk => hk.1.2) (.int .i64 (wrap64 (Int.tdiv (wrap64 ((wrap64 (t388 + a1)) - 1)) a1)))) (fun _ hk => hk.2) (.slice Ao39 x390000_2.length co39)) (fun _ hk => hk.2) (.slice Ao42 x390001_2.length co42)) (fun _ hk => hk.2) (.int .i64 (wrap64 (Int.tdiv (wrap64 ((wrap64 (t388 + a1)) - 1)) a1)))) (fun _ hk => hk.1.1), by (with_reducible repeat (first | apply Kd.R_alloc | apply Kd.R_drewN | apply Kd.R_drew)); exact Kd.R_mono (Kd.R_far (p := ⟨gb380, 2, none⟩) (Kd.R_far (p := ⟨gb380, 1, none⟩) (Kd.R_far (p := ⟨gb380, 0, none⟩) (Kd.R_far (p := ⟨gb389, 2, none⟩) (Kd.R_types (Kd.R_types HO_390001.out BK389.out (by decide)) BK380.out (by decide)) (fun _ hk => hk.1.2) (.int .i64 (wrap64 (Int.tdiv (wrap64 ((wrap64 (t388 + a1)) - 1)) a1)))) (fun _ hk => hk.2) (.slice Ao39 x390000_2.length co39)) (fun _ hk => hk.2) (.slice Ao42 x390001_2.length co42)) (fun _ hk => hk.2) (.int .i64 (wrap64 (Int.tdiv (wrap64 ((wrap64 (t388 + a1)) - 1)) a1)))) (fun _ hk => hk.1.1), by repeat (first | (with_reducible first | exact HB.out | apply below_alloc | apply pw_below_drewN | apply below_drew1 | refine below_set ?_ GE379.out | refine below_set ?_ GE380.out | refine below_set ?_ GE389.out) | exact HB.out)⟩
 ·
  rw [if_neg c4] at H
  have c4b0 : (t381 == 0) = false := beq_eq_false_iff_ne.mpr c4
  have c4b1 : (t381 != 0) = true := bne_iff_ne.mpr c4
  simp only [Option.some.injEq, Prod.mk.injEq] at H
  obtain ⟨rfl, rfl, rfl, rfl⟩ := H
  go_enter Try.func29, Try.ntmps29
  go_wp2_with (first | ((with_reducible refine gate_dst (N := 2) rfl ?_); refine box_event ?hg (N := 2) ?hd (cs := #[.slice A0_0 l0_0.length c0_0, .slice A0_1 l0_1.length c0_1, .int .i64 a0_2]) (t := 24) ?hr ?_; (case hd => rfl); (case hg => rfl); (case hr => first | (go_simp; done) | (go_simp; rfl)); intro gb379 hg w43 hbox hb; have n0_ := Aside0.mk (below_step (by repeat (first | (with_reducible first | exact HB.out | apply below_alloc | apply pw_below_drewN | apply below_drew1) | exact HB.out)) hb); have n1_ := Aside0.mk (hbox); have n2_ := Aside0.mk ((by rw [hg]; exact (below_size (by repeat (first | (with_reducible first | exact HB.out | apply below_alloc | apply pw_below_drewN | apply below_drew1) | exact HB.out))) : w.heap.size ≤ gb379)); have n3_ := Aside0.mk ((by rw [hg]; exact (below_size (by repeat (first | (with_reducible first | exact HB.out | apply below_alloc | apply pw_below_drewN | apply below_drew1) | exact HB.out))) : w.heap.size ≤ gb379)); clear HB; have HB := n0_; have BK379 := n1_; have GW379 := n2_; have GE379 := n3_; clear n0_ n1_ n2_ n3_; clear hb hbox hg) | ((with_reducible refine gate_dst (N := 4) rfl ?_); refine box_event ?hg (N := 4) ?hd (cs := #[.slice none 0 0, .slice none 0 0, .int .i64 0]) (t := 24) ?hr ?_; (case hd => rfl); (case hg => rfl); (case hr => first | (go_simp; done) | (go_simp; rfl)); intro gb380 hg w44 hbox hb; have n0_ := Aside0.mk (blk_below (g := gb379) (o := .cells #[.slice A0_0 l0_0.length c0_0, .slice A0_1 l0_1.length c0_1, .int .i64 a0_2] 24 (0, 0)) (by (with_reducible repeat (first | refine blk_drewN ?_ _ | refine blk_drew ?_ | refine blk_alloc ?_ _)); exact BK379.out) hb); have n1_ := Aside0.mk (below_step (by repeat (first | (with_reducible first | exact HB.out | apply below_alloc | apply pw_below_drewN | apply below_drew1 | refine below_set ?_ GE379.out) | exact HB.out)) hb); have n2_ := Aside0.mk (hbox); have n3_ := Aside0.mk ((by rw [hg]; exact (below_size (by repeat (first | (with_reducible first | exact HB.out | apply below_alloc | apply pw_below_drewN | apply below_drew1 | refine below_set ?_ GE379.out) | exact HB.out))) : w.heap.size ≤ gb380)); have n4_ := Aside0.mk ((by rw [hg]; exact (below_size (by repeat (first | (with_reducible first | exact HB.out | apply below_alloc | apply pw_below_drewN | apply below_drew1 | refine below_set ?_ GE379.out) | exact HB.out))) : w.heap.size ≤ gb380)); have n5_ := Aside0.mk ((by rw [hg]; exact Nat.ne_of_lt (blk_lt (g := gb379) (o := .cells #[.slice A0_0 l0_0.length c0_0, .slice A0_1 l0_1.length c0_1, .int .i64 a0_2] 24 (0, 0)) (by (with_reducible repeat (first | refine blk_drewN ?_ _ | refine blk_drew ?_ | refine blk_alloc ?_ _)); exact BK379.out)) : gb379 ≠ gb380)); have n6_ := Aside0.mk ((by rw [hg]; exact Nat.ne_of_gt (blk_lt (g := gb379) (o := .cells #[.slice A0_0 l0_0.length c0_0, .slice A0_1 l0_1.length c0_1, .int .i64 a0_2] 24 (0, 0)) (by (with_reducible repeat (first | refine blk_drewN ?_ _ | refine blk_drew ?_ | refine blk_alloc ?_ _)); exact BK379.out)) : gb380 ≠ gb379)); clear BK379; clear HB; have BK379 := n0_; have HB := n1_; have BK380 := n2_; have GW380 := n3_; have GE380 := n4_; have NB379_380 := n5_; have NB380_379 := n6_; clear n0_ n1_ n2_ n3_ n4_ n5_ n6_; clear hb hbox hg; have hnb45 := NB379_380.out; have hnc45 := NB380_379.out; have hcz46_0 : w44.cell? ⟨gb379, 0, none⟩ = some (.slice A0_0 l0_0.length c0_0) := (blk_cell BK379.out 0).trans rfl; have hcz46_1 : w44.cell? ⟨gb379, 1, none⟩ = some (.slice A0_1 l0_1.length c0_1) := (blk_cell BK379.out 1).trans rfl; have hcz46_2 : w44.cell? ⟨gb379, 2, none⟩ = some (.int .i64 a0_2) := (blk_cell BK379.out 2).trans rfl; have hfz46_0 := blk_frozen BK379.out 0; have hfz46_1 := blk_frozen BK379.out 1; have hfz46_2 := blk_frozen BK379.out 2) | ((with_reducible refine gate_callee (f := 23) rfl ?_); refine goesL_ (some 10) rfl rfl Try.func23 (by kernel_rfl) rfl #[.agg #[.slice A0_0 l0_0.length c0_0, .slice A0_1 l0_1.length c0_1, .int .i64 a0_2], .int .i64 65536] rfl (by (try simp only [List.map_toArray, List.map_cons, List.map_nil]); first | done | rfl | (simp only [List.length_drop, List.length_take]; rfl)) ?_; (with_reducible refine (chalklineref12_Check.calls k _ _ l0_0 _ _ l0_1 a0_2 65536 t381 _ ?side1 ?side2 ?side3 ?side4 A3.out).mono ?_); (case side1 => repeat (first | exact (Kd.C_below HR0_0.out HB.out) | (with_reducible refine Kd.C_alloc ?_ _) | (with_reducible refine Kd.C_drewN ?_ _) | (with_reducible refine Kd.C_drew ?_))); (case side2 => exact HC0_0.out); (case side3 => repeat (first | exact (Kd.C_below HR0_1.out HB.out) | (with_reducible refine Kd.C_alloc ?_ _) | (with_reducible refine Kd.C_drewN ?_ _) | (with_reducible refine Kd.C_drew ?_))); (case side4 => exact HC0_1.out); rintro e w47 ⟨rfl, hb⟩; refine ⟨_, rfl, ?_⟩; have n0_ := Aside0.mk (blk_below (g := gb379) (o := .cells #[.slice A0_0 l0_0.length c0_0, .slice A0_1 l0_1.length c0_1, .int .i64 a0_2] 24 (0, 0)) (by (with_reducible repeat (first | refine blk_drewN ?_ _ | refine blk_drew ?_ | refine blk_alloc ?_ _)); exact BK379.out) hb); have n1_ := Aside0.mk (blk_below (g := gb380) (o := .cells #[.slice none 0 0, .slice none 0 0, .int .i64 0] 24 (0, 0)) (by (with_reducible repeat (first | refine blk_drewN ?_ _ | refine blk_drew ?_ | refine blk_alloc ?_ _)); exact BK380.out) hb); have n2_ := Aside0.mk (below_step (by repeat (first | (with_reducible first | exact HB.out | apply below_alloc | apply pw_below_drewN | apply below_drew1 | refine below_set ?_ GE379.out | refine below_set ?_ GE380.out) | exact HB.out)) hb); clear BK379; clear BK380; clear HB; have BK379 := n0_; have BK380 := n1_; have HB := n2_; clear n0_ n1_ n2_; (try clear hb); (try clear hb2); (try clear hk); (try clear hi); have hcz48_0 : w47.cell? ⟨gb380, 0, none⟩ = some (.slice none 0 0) := (blk_cell BK380.out 0).trans rfl; have hcz48_1 : w47.cell? ⟨gb380, 1, none⟩ = some (.slice none 0 0) := (blk_cell BK380.out 1).trans rfl; have hcz48_2 : w47.cell? ⟨gb380, 2, none⟩ = some (.int .i64 0) := (blk_cell BK380.out 2).trans rfl; have hfz48_0 := blk_frozen BK380.out 0; have hfz48_1 := blk_frozen BK380.out 1; have hfz48_2 := blk_frozen BK380.out 2))
  refine bodyPost_ret (results_ct rfl _ _ gb380 24 #[.slice none 0 0, .slice none 0 0, .int .i64 0] (0, 0) _ rfl (by (with_reducible repeat (first | refine blk_drewN ?_ _ | refine blk_drew ?_ | refine blk_alloc ?_ _)); refine blk_put (cs := #[.slice none 0 0, .slice none 0 0, .int .i64 0]) ?_ 2 _ rfl; (with_reducible repeat (first | refine blk_drewN ?_ _ | refine blk_drew ?_ | refine blk_alloc ?_ _)); refine blk_put (cs := #[.slice none 0 0, .slice none 0 0, .int .i64 0]) ?_ 1 _ rfl; (with_reducible repeat (first | refine blk_drewN ?_ _ | refine blk_drew ?_ | refine blk_alloc ?_ _)); refine blk_put (cs := #[.slice none 0 0, .slice none 0 0, .int .i64 0]) ?_ 0 _ rfl; (with_reducible repeat (first | refine blk_drewN ?_ _ | refine blk_drew ?_ | refine blk_alloc ?_ _)); exact BK380.out) Try.underlying24 rfl (by kernel_rfl)) rfl ?_
  exact ⟨_, _, by first | rfl | (simp [errW_none, errW_some] <;> rfl) | (simp [*, errW_none, errW_some] <;> rfl), by first | exact Kd.R_nil _ _ _ _ _ | exact Kd.N_nil _ _ _ _ _ | exact Kd.V_nil _ _ _ _ _ | exact Kd.Q_nil _ _ _ _ _ | exact Kd.S_nil _ _ _ _ _, by first | exact Kd.R_nil _ _ _ _ _ | exact Kd.N_nil _ _ _ _ _ | exact Kd.V_nil _ _ _ _ _ | exact Kd.Q_nil _ _ _ _ _ | exact Kd.S_nil _ _ _ _ _, by repeat (first | (with_reducible first | exact HB.out | apply below_alloc | apply pw_below_drewN | apply below_drew1 | refine below_set ?_ GE379.out | refine below_set ?_ GE380.out) | exact HB.out)⟩

-- NOT PRINTED: function 7 (chalklinelaw12_LinAddCutSpec)

end Go.Proofs.Ytmcljhjmmipagaa.PL
