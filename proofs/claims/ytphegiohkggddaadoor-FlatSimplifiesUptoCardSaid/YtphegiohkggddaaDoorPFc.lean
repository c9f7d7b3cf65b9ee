/- Lean functions that tell what the Go functions named below answer, and a proof for each that the Go function comes to just that answer; the conditions stand in each statement. -/
import Derived.Test.YtphegiohkggddaaDoorPFx0
namespace Go.Proofs.YtphegiohkggddaaDoor.PF
open Go.RowKit Go.Proofs.YtphegiohkggddaaDoorW.PrintWords Go.Proofs.YtphegiohkggddaaDoorW.PrintLast Go.Proofs.YtphegiohkggddaaDoorW.PrintMore
attribute [local go_sem] max2_int min2_int max_two min_two max_three min_three max_four min_four   -- for this text's walks alone
set_option linter.unusedVariables false
set_option linter.unusedSimpArgs false

/-! ### chalklineref11_Size: function 47 -/
mutual
def chalklineref11_Size.l0 : Nat → Int → Int → Int → Int → Int → List (S24) → Option (Int)
  | 0, _, _, _, _, _, _ => none
  | k + 1, x3, x4, x124000, x124001, x124002, x124003 => if x4 < (x124003.length : Int) then (if 0 ≤ x4 then ((chalklineref11_Size.f k ((rd_T24 x124003 x4).f0) ((rd_T24 x124003 x4).f1) ((rd_T24 x124003 x4).f2) ((rd_T24 x124003 x4).f3)).bind fun t125 => (chalklineref11_Size.l0 k (wrap64 (x3 + t125)) (wrap64 (x4 + 1)) x124000 x124001 x124002 x124003)) else (none)) else (some x3)
def chalklineref11_Size.f : Nat → Int → Int → Int → List (S24) → Option (Int)
  | 0, _, _, _, _ => none
  | k + 1, a0_0, a0_1, a0_2, l0_3 => chalklineref11_Size.l0 k 1 0 a0_0 a0_1 a0_2 l0_3
end
theorem chalklineref11_Size.mono_l : ∀ k, (∀ y0 y1 y2 y3, LeO (chalklineref11_Size.f k y0 y1 y2 y3) (chalklineref11_Size.f (k + 1) y0 y1 y2 y3)) ∧ (∀ y0 y1 y2 y3 y4 y5, LeO (chalklineref11_Size.l0 k y0 y1 y2 y3 y4 y5) (chalklineref11_Size.l0 (k + 1) y0 y1 y2 y3 y4 y5))
  | 0 => ⟨fun _ _ _ _ r h => by simp [chalklineref11_Size.f] at h, fun _ _ _ _ _ _ r h => by simp [chalklineref11_Size.l0] at h⟩
  | k + 1 => by
    obtain ⟨ih0, ih1⟩ := chalklineref11_Size.mono_l k
    refine ⟨?_, ?_⟩
    · intro y0 y1 y2 y3
      unfold chalklineref11_Size.f
      repeat' first
      | (with_reducible exact ih0 _ _ _ _)
      | (with_reducible exact ih1 _ _ _ _ _ _)
      | (with_reducible exact LeO.refl _)
      | (with_reducible exact LeO.none _)
      | (with_reducible refine LeO.ite ?_ ?_)
      | (with_reducible refine LeO.bind ?_ (fun _ => ?_))
      | exact ih0 _ _ _ _
      | exact ih1 _ _ _ _ _ _
      | exact LeO.none _
      | refine LeO.ite ?_ ?_
      | refine LeO.bind ?_ (fun _ => ?_)
    · intro y0 y1 y2 y3 y4 y5
      unfold chalklineref11_Size.l0
      repeat' first
      | (with_reducible exact ih0 _ _ _ _)
      | (with_reducible exact ih1 _ _ _ _ _ _)
      | (with_reducible exact LeO.refl _)
      | (with_reducible exact LeO.none _)
      | (with_reducible refine LeO.ite ?_ ?_)
      | (with_reducible refine LeO.bind ?_ (fun _ => ?_))
      | exact ih0 _ _ _ _
      | exact ih1 _ _ _ _ _ _
      | exact LeO.none _
      | refine LeO.ite ?_ ?_
      | refine LeO.bind ?_ (fun _ => ?_)
theorem chalklineref11_Size.mono : ∀ a0 a1 a2 a3 k, LeO (chalklineref11_Size.f k a0 a1 a2 a3) (chalklineref11_Size.f (k + 1) a0 a1 a2 a3) := by
  intro a0 a1 a2 a3 k
  obtain ⟨ih0, ih1⟩ := chalklineref11_Size.mono_l k
  exact ih0 a0 a1 a2 a3
set_option maxHeartbeats 8000000 in
set_option maxRecDepth 100000 in
theorem chalklineref11_Size.calls (k : Nat) : ∀ (a0_0 : Int) (a0_1 : Int) (a0_2 : Int) (A0_3 : Option Addr) (c0_3 : Nat) (l0_3 : List (S24)) (r : Int) (w : World) (hr0_3 : Kd.C k24 w A0_3 l0_3.length l0_3) (hc0_3 : l0_3.length ≤ c0_3) (h : chalklineref11_Size.f k a0_0 a0_1 a0_2 l0_3 = some r),
    Calls Tryd.prog 47 #[.agg #[.int .i64 a0_0, .int .i64 a0_1, .int .i64 a0_2, .slice A0_3 l0_3.length c0_3]] w fun e w' => e = .returned (.int .i64 r) ∧ Below w.heap.size w w' := by
  induction k using Nat.strongRecOn with
  | _ k ih =>
  intro a0_0 a0_1 a0_2 A0_3 c0_3 l0_3 r w hr0_3 hc0_3 h
  cases k with
  | zero => exact absurd h (by simp [chalklineref11_Size.f])
  | succ k =>
  simp only [chalklineref11_Size.f] at h
  have hu24 := Tryd.underlying24
  have HR0_3 := Aside0.mk hr0_3
  have HC0_3 := Aside0.mk hc0_3
  clear hr0_3 hc0_3
  have HB := Aside0.mk (Below.refl w.heap.size w)
  have H : (chalklineref11_Size.l0 k 1 0 a0_0 a0_1 a0_2 l0_3) = some r := h
  clear h
  have H' := Aside0.mk H
  clear H
  go_enter Tryd.func47, Tryd.ntmps47
  go_wp2_with (first | ((with_reducible refine gate_dst (N := 1) rfl ?_); refine box_event ?hg (N := 1) ?hd (cs := #[.int .i64 a0_0, .int .i64 a0_1, .int .i64 a0_2, .slice A0_3 l0_3.length c0_3]) (t := 24) ?hr ?_; (case hd => rfl); (case hg => rfl); (case hr => first | (go_simp; done) | (go_simp; rfl)); intro gb123 hg w2 hbox hb; have n0_ := Aside0.mk (below_step (by repeat (first | (with_reducible first | exact HB.out | apply below_alloc | apply pw_below_drewN | apply below_drew1) | exact HB.out)) hb); have n1_ := Aside0.mk (hbox); have n2_ := Aside0.mk ((by rw [hg]; exact (below_size (by repeat (first | (with_reducible first | exact HB.out | apply below_alloc | apply pw_below_drewN | apply below_drew1) | exact HB.out))) : w.heap.size ≤ gb123)); have n3_ := Aside0.mk ((by rw [hg]; exact (below_size (by repeat (first | (with_reducible first | exact HB.out | apply below_alloc | apply pw_below_drewN | apply below_drew1) | exact HB.out))) : w.heap.size ≤ gb123)); clear HB; have HB := n0_; have BK123 := n1_; have GW123 := n2_; have GE123 := n3_; clear n0_ n1_ n2_ n3_; clear hb hbox hg))
  go_loopg [3, 4] k (fun kq v3 v4 w' => ∃ (x3_1 : Int) (x4_1 : Int), v3 = .int .i64 x3_1 ∧ v4 = .int .i64 x4_1 ∧ Aside0 (chalklineref11_Size.l0 kq x3_1 x4_1 a0_0 a0_1 a0_2 l0_3 = some r) ∧ Aside0 (kq ≤ k) ∧ Aside0 (w'.heap[gb123]? = some (.cells #[.int .i64 a0_0, .int .i64 a0_1, .int .i64 a0_2, (.slice A0_3 l0_3.length c0_3)] 24 (0, 0))) ∧ Aside0 (Below w.heap.size w w'))
  case atStart => exact ⟨(1), (0), (by first | rfl | (simp; done) | (simp [*]; done)), (by first | rfl | (simp; done) | (simp [*]; done)), H', ⟨Nat.le_refl _⟩, ⟨by (with_reducible repeat (first | refine blk_drewN ?_ _ | refine blk_drew ?_ | refine blk_alloc ?_ _)); exact BK123.out⟩, ⟨by repeat (first | (with_reducible first | exact HB.out | apply below_alloc | apply pw_below_drewN | apply below_drew1 | refine below_set ?_ GE123.out) | exact HB.out)⟩⟩
  case round =>
    clear H'
    try clear p2
    obtain ⟨x3_1, x4_1, rfl, rfl, HA, HK1, BK123, HB⟩ := hrel
    cases gk with
    | zero => exact absurd HA.out (by simp [chalklineref11_Size.l0])
    | succ k1 =>
      have H := HA.out
      clear HA
      simp only [chalklineref11_Size.l0] at H
      by_cases c3 : x4_1 < (l0_3.length : Int)
      · rw [if_pos c3] at H
        have c3b0 : decide (x4_1 < (l0_3.length : Int)) = true := decide_eq_true c3
        clear c3
        by_cases c4 : 0 ≤ x4_1
        · rw [if_pos c4] at H
          have c4b0 : decide (0 ≤ x4_1) = true := decide_eq_true c4
          clear c4
          replace H := Option.bind_eq_some_iff.mp H
          obtain ⟨t125, A50, H⟩ := H
          replace H : (chalklineref11_Size.l0 k1 (wrap64 (x3_1 + t125)) (wrap64 (x4_1 + 1)) a0_0 a0_1 a0_2 l0_3) = some r := H
          have A5 := Aside0.mk A50
          clear A50
          have H' := Aside0.mk H
          clear H
          have hcz6_0 : wr.cell? ⟨gb123, 0, none⟩ = some (.int .i64 a0_0) := (blk_cell BK123.out 0).trans rfl
          have hcz6_1 : wr.cell? ⟨gb123, 1, none⟩ = some (.int .i64 a0_1) := (blk_cell BK123.out 1).trans rfl
          have hcz6_2 : wr.cell? ⟨gb123, 2, none⟩ = some (.int .i64 a0_2) := (blk_cell BK123.out 2).trans rfl
          have hcz6_3 : wr.cell? ⟨gb123, 3, none⟩ = some (.slice A0_3 l0_3.length c0_3) := (blk_cell BK123.out 3).trans rfl
          have hfz6_0 := blk_frozen BK123.out 0
          have hfz6_1 := blk_frozen BK123.out 1
          have hfz6_2 := blk_frozen BK123.out 2
          have hfz6_3 := blk_frozen BK123.out 3
          have p124 : 0 ≤ (x4_1 : Int) := of_decide_eq_true (by first | (with_reducible assumption) | assumption)
          have q124 : x4_1 < (l0_3.length : Int) := of_decide_eq_true (by first | (with_reducible assumption) | assumption)
          obtain ⟨ad124, A124_3, c124_3, e124, hx124_0, hx124_1, hx124_2, hx124_3, hl124_3, hi124_3⟩ := at_T24 HR0_3.out x4_1 p124 q124
          cases e124
          replace hx124_0 := (HB.out.cell (World.block_lt_of_cell? w _ hx124_0)).trans hx124_0
          replace hx124_1 := (HB.out.cell (World.block_lt_of_cell? w _ hx124_1)).trans hx124_1
          replace hx124_2 := (HB.out.cell (World.block_lt_of_cell? w _ hx124_2)).trans hx124_2
          replace hx124_3 := (HB.out.cell (World.block_lt_of_cell? w _ hx124_3)).trans hx124_3
          have HR124_3 := Aside0.mk hi124_3
          have HC124_3 := Aside0.mk hl124_3
          clear hi124_3 hl124_3
          replace p124 := eq_true p124
          replace q124 := eq_true q124
          go_wp2_with (first | ((with_reducible refine gate_callee (f := 47) rfl ?_); refine goesL_ (some 18) rfl rfl Tryd.func47 (by kernel_rfl) rfl #[.agg #[.int .i64 ((rd_T24 l0_3 x4_1).f0), .int .i64 ((rd_T24 l0_3 x4_1).f1), .int .i64 ((rd_T24 l0_3 x4_1).f2), .slice A124_3 ((rd_T24 l0_3 x4_1).f3).length c124_3]] rfl (by (try simp only [List.map_toArray, List.map_cons, List.map_nil]); first | done | rfl | (simp only [List.length_drop, List.length_take]; rfl)) ?_; (with_reducible refine (ih k1 (by have := HK1.out; omega) ((rd_T24 l0_3 x4_1).f0) ((rd_T24 l0_3 x4_1).f1) ((rd_T24 l0_3 x4_1).f2) _ _ ((rd_T24 l0_3 x4_1).f3) t125 _ ?side1 ?side2 A5.out).mono ?_); (case side1 => repeat (first | exact (Kd.C_below HR124_3.out HB.out) | (with_reducible refine Kd.C_alloc ?_ _) | (with_reducible refine Kd.C_drewN ?_ _) | (with_reducible refine Kd.C_drew ?_))); (case side2 => exact HC124_3.out); rintro e w7 ⟨rfl, hb⟩; refine ⟨_, rfl, ?_⟩; have n0_ := Aside0.mk (blk_below (g := gb123) (o := .cells #[.int .i64 a0_0, .int .i64 a0_1, .int .i64 a0_2, .slice (some ad124) l0_3.length c0_3] 24 (0, 0)) (by (with_reducible repeat (first | refine blk_drewN ?_ _ | refine blk_drew ?_ | refine blk_alloc ?_ _)); exact BK123.out) hb); have n1_ := Aside0.mk (below_step (by repeat (first | (with_reducible first | exact HB.out | apply below_alloc | apply pw_below_drewN | apply below_drew1 | refine below_set ?_ GE123.out) | exact HB.out)) hb); clear BK123; clear HB; have BK123 := n0_; have HB := n1_; clear n0_ n1_; (try clear hb); (try clear hb2); (try clear hk); (try clear hi)))
          go_roundg k1
          case measure => have := HK1.out; omega
          case rel => exact ⟨(wrap64 (x3_1 + t125)), (wrap64 (x4_1 + 1)), (by first | rfl | (simp; done) | (simp [*]; done)), (by first | rfl | (simp; done) | (simp [*]; done)), H', ⟨by have := HK1.out; omega⟩, ⟨by (with_reducible repeat (first | refine blk_drewN ?_ _ | refine blk_drew ?_ | refine blk_alloc ?_ _)); exact BK123.out⟩, ⟨by repeat (first | (with_reducible first | exact HB.out | apply below_alloc | apply pw_below_drewN | apply below_drew1 | refine below_set ?_ GE123.out) | exact HB.out)⟩⟩
        · rw [if_neg c4] at H
          exact absurd H (by simp)
      · rw [if_neg c3] at H
        have c3b0 : decide (x4_1 < (l0_3.length : Int)) = false := decide_eq_false c3
        clear c3
        obtain rfl := Option.some.inj H
        have hcz8_0 : wr.cell? ⟨gb123, 0, none⟩ = some (.int .i64 a0_0) := (blk_cell BK123.out 0).trans rfl
        have hcz8_1 : wr.cell? ⟨gb123, 1, none⟩ = some (.int .i64 a0_1) := (blk_cell BK123.out 1).trans rfl
        have hcz8_2 : wr.cell? ⟨gb123, 2, none⟩ = some (.int .i64 a0_2) := (blk_cell BK123.out 2).trans rfl
        have hcz8_3 : wr.cell? ⟨gb123, 3, none⟩ = some (.slice A0_3 l0_3.length c0_3) := (blk_cell BK123.out 3).trans rfl
        have hfz8_0 := blk_frozen BK123.out 0
        have hfz8_1 := blk_frozen BK123.out 1
        have hfz8_2 := blk_frozen BK123.out 2
        have hfz8_3 := blk_frozen BK123.out 3
        go_wp2
        go_ret
        exact ⟨by first | rfl | (simp [errW_none, errW_some] <;> rfl) | (simp [*, errW_none, errW_some] <;> rfl), by repeat (first | (with_reducible first | exact HB.out | apply below_alloc | apply pw_below_drewN | apply below_drew1 | refine below_set ?_ GE123.out) | exact HB.out)⟩

-- NOT PRINTED: function 32 (chalklineref11_Check)

/-! ### chalklineref11_constant: function 48 -/
def chalklineref11_constant.f (a0 : Int) : Option (Int × Int × Int × (List (S24))) := some (1, a0, 0, ([] : List (S24)))
set_option maxHeartbeats 8000000 in
set_option maxRecDepth 100000 in
theorem chalklineref11_constant.calls (a0 : Int) (r1 : Int) (r2 : Int) (r3 : Int) (r4 : List (S24)) (w : World) (h : chalklineref11_constant.f a0 = some (r1, r2, r3, r4)) :
    Calls Tryd.prog 48 #[.int .i64 a0] w fun e w' => ∃ v3_ : Value, e = .returned (.agg #[.int .i64 r1, .int .i64 r2, .int .i64 r3, v3_]) ∧ Kd.R k24 24 w' w.heap.size (fun _ => True) v3_ r4 ∧ Below w.heap.size w w' := by
  have hu24 := Tryd.underlying24
  have HB := Aside0.mk (Below.refl w.heap.size w)
  have H : (some (1, a0, 0, ([] : List (S24)))) = some (r1, r2, r3, r4) := h
  clear h
  simp only [Option.some.injEq, Prod.mk.injEq] at H
  obtain ⟨rfl, rfl, rfl, rfl⟩ := H
  go_enter Tryd.func48, Tryd.ntmps48
  go_wp2_with (first | ((with_reducible refine gate_dst (N := 2) rfl ?_); refine box_event ?hg (N := 2) ?hd (cs := #[.int .i64 0, .int .i64 0, .int .i64 0, .slice none 0 0]) (t := 24) ?hr ?_; (case hd => rfl); (case hg => rfl); (case hr => first | (go_simp; done) | (go_simp; rfl)); intro gb127 hg w2 hbox hb; have n0_ := Aside0.mk (below_step (by repeat (first | (with_reducible first | exact HB.out | apply below_alloc | apply pw_below_drewN | apply below_drew1) | exact HB.out)) hb); have n1_ := Aside0.mk (hbox); have n2_ := Aside0.mk ((by rw [hg]; exact (below_size (by repeat (first | (with_reducible first | exact HB.out | apply below_alloc | apply pw_below_drewN | apply below_drew1) | exact HB.out))) : w.heap.size ≤ gb127)); have n3_ := Aside0.mk ((by rw [hg]; exact (below_size (by repeat (first | (with_reducible first | exact HB.out | apply below_alloc | apply pw_below_drewN | apply below_drew1) | exact HB.out))) : w.heap.size ≤ gb127)); clear HB; have HB := n0_; have BK127 := n1_; have GW127 := n2_; have GE127 := n3_; clear n0_ n1_ n2_ n3_; clear hb hbox hg; have hcz3_0 : w2.cell? ⟨gb127, 0, none⟩ = some (.int .i64 0) := (blk_cell BK127.out 0).trans rfl; have hcz3_1 : w2.cell? ⟨gb127, 1, none⟩ = some (.int .i64 0) := (blk_cell BK127.out 1).trans rfl; have hcz3_2 : w2.cell? ⟨gb127, 2, none⟩ = some (.int .i64 0) := (blk_cell BK127.out 2).trans rfl; have hcz3_3 : w2.cell? ⟨gb127, 3, none⟩ = some (.slice none 0 0) := (blk_cell BK127.out 3).trans rfl; have hfz3_0 := blk_frozen BK127.out 0; have hfz3_1 := blk_frozen BK127.out 1; have hfz3_2 := blk_frozen BK127.out 2; have hfz3_3 := blk_frozen BK127.out 3))
  refine bodyPost_ret (results_cell_row rfl _ _ gb127 24 #[.int .i64 1, .int .i64 a0, .int .i64 0, .slice none 0 0] (0, 0) _ rfl (by (with_reducible repeat (first | refine blk_drewN ?_ _ | refine blk_drew ?_ | refine blk_alloc ?_ _)); refine blk_put (cs := #[.int .i64 1, .int .i64 a0, .int .i64 0, .slice none 0 0]) ?_ 3 _ rfl; (with_reducible repeat (first | refine blk_drewN ?_ _ | refine blk_drew ?_ | refine blk_alloc ?_ _)); refine blk_put (cs := #[.int .i64 1, .int .i64 a0, .int .i64 0, .slice none 0 0]) ?_ 2 _ rfl; (with_reducible repeat (first | refine blk_drewN ?_ _ | refine blk_drew ?_ | refine blk_alloc ?_ _)); refine blk_put (cs := #[.int .i64 1, .int .i64 0, .int .i64 0, .slice none 0 0]) ?_ 1 _ rfl; (with_reducible repeat (first | refine blk_drewN ?_ _ | refine blk_drew ?_ | refine blk_alloc ?_ _)); refine blk_put (cs := #[.int .i64 0, .int .i64 0, .int .i64 0, .slice none 0 0]) ?_ 0 _ rfl; (with_reducible repeat (first | refine blk_drewN ?_ _ | refine blk_drew ?_ | refine blk_alloc ?_ _)); exact BK127.out) Tryd.underlying24 rfl (by kernel_rfl)) rfl ?_
  exact ⟨_, by first | rfl | (simp [errW_none, errW_some] <;> rfl) | (simp [*, errW_none, errW_some] <;> rfl), by first | exact Kd.R_nil _ _ _ _ _ | exact Kd.N_nil _ _ _ _ _ | exact Kd.V_nil _ _ _ _ _ | exact Kd.Q_nil _ _ _ _ _ | exact Kd.S_nil _ _ _ _ _, by repeat (first | (with_reducible first | exact HB.out | apply below_alloc | apply pw_below_drewN | apply below_drew1 | refine below_set ?_ GE127.out) | exact HB.out)⟩

/-! ### chalklineref11_joined: function 49 -/
def chalklineref11_joined.l0 : Nat → Int → Int → List (S24) → List (S24) → Int → Option (Int × Int × Int × (List (S24)))
  | 0, _, _, _, _, _ => none
  | k + 1, x0, x1, x2, x7, x8 => if x8 < (x2.length : Int) then (if 0 ≤ x8 then (if ((rd_T24 x2 x8).f0) = x0 then (if x7.length + ((rd_T24 x2 x8).f3).length < 2932031007402 then (chalklineref11_joined.l0 k x0 x1 x2 (x7 ++ ((rd_T24 x2 x8).f3)) (wrap64 (x8 + 1))) else (none)) else (if ((rd_T24 x2 x8).f0) = 1 then (if ((rd_T24 x2 x8).f1) = x1 then (chalklineref11_joined.l0 k x0 x1 x2 x7 (wrap64 (x8 + 1))) else ((chalklineref11_constant.f (wrap64 (1 - x1))).bind fun bt137 => (some (bt137.1, bt137.2.1, bt137.2.2.1, bt137.2.2.2)))) else (if x7.length < 2932031007402 then (chalklineref11_joined.l0 k x0 x1 x2 (x7 ++ [(⟨(rd_T24 x2 x8).f0, (rd_T24 x2 x8).f1, (rd_T24 x2 x8).f2, (rd_T24 x2 x8).f3⟩ : S24)]) (wrap64 (x8 + 1))) else (none)))) else (none)) else (if (x7.length : Int) = 0 then ((chalklineref11_constant.f x1).bind fun bt146 => (some (bt146.1, bt146.2.1, bt146.2.2.1, bt146.2.2.2))) else (if (x7.length : Int) = 1 then (if 0 < (x7.length : Int) then (some ((rd_T24 x7 0).f0, (rd_T24 x7 0).f1, (rd_T24 x7 0).f2, (rd_T24 x7 0).f3)) else (none)) else (some (x0, 0, 0, x7))))
def chalklineref11_joined.f (k : Nat) (a0 : Int) (a1 : Int) (l2 : List (S24)) : Option (Int × Int × Int × (List (S24))) := chalklineref11_joined.l0 k a0 a1 l2 (([] : List (S24))) 0
theorem chalklineref11_joined.mono_l : ∀ k, (∀ y0 y1 y2 y3 y4, LeO (chalklineref11_joined.l0 k y0 y1 y2 y3 y4) (chalklineref11_joined.l0 (k + 1) y0 y1 y2 y3 y4))
  | 0 => fun _ _ _ _ _ r h => by simp [chalklineref11_joined.l0] at h
  | k + 1 => by
    have ih0 := chalklineref11_joined.mono_l k
    · intro y0 y1 y2 y3 y4
      unfold chalklineref11_joined.l0
      repeat' first
      | (with_reducible exact ih0 _ _ _ _ _)
      | (with_reducible exact LeO.refl _)
      | (with_reducible exact LeO.none _)
      | (with_reducible refine LeO.ite ?_ ?_)
      | (with_reducible refine LeO.bind ?_ (fun _ => ?_))
      | exact ih0 _ _ _ _ _
      | exact LeO.none _
      | refine LeO.ite ?_ ?_
      | refine LeO.bind ?_ (fun _ => ?_)
theorem chalklineref11_joined.mono : ∀ a0 a1 a2 k, LeO (chalklineref11_joined.f k a0 a1 a2) (chalklineref11_joined.f (k + 1) a0 a1 a2) := by
  intro a0 a1 a2 k
  have ih0 := chalklineref11_joined.mono_l k
  unfold chalklineref11_joined.f
  repeat' first
      | (with_reducible exact ih0 _ _ _ _ _)
      | (with_reducible exact LeO.refl _)
      | (with_reducible exact LeO.none _)
      | (with_reducible refine LeO.ite ?_ ?_)
      | (with_reducible refine LeO.bind ?_ (fun _ => ?_))
      | exact ih0 _ _ _ _ _
      | exact LeO.none _
      | refine LeO.ite ?_ ?_
      | refine LeO.bind ?_ (fun _ => ?_)
set_option maxHeartbeats 8000000 in
set_option maxRecDepth 100000 in
theorem chalklineref11_joined.calls (k : Nat) (a0 : Int) (a1 : Int) (P2_ : Nat → Prop) (A2 : Option Addr) (c2 : Nat) (l2 : List (S24)) (r1 : Int) (r2 : Int) (r3 : Int) (r4 : List (S24)) (w : World) (hs2 : Kd.V k24 24 w w.heap.size (fun k_ => P2_ k_) (.slice A2 l2.length c2) l2) (h : chalklineref11_joined.f k a0 a1 l2 = some (r1, r2, r3, r4)) :
    Calls Tryd.prog 49 #[.int .i64 a0, .int .i64 a1, .slice A2 l2.length c2] w fun e w' => ∃ v3_ : Value, e = .returned (.agg #[.int .i64 r1, .int .i64 r2, .int .i64 r3, v3_]) ∧ Kd.V k24 24 w' w.heap.size (fun k_ => (P2_ k_ ∨ w.heap.size ≤ k_)) v3_ r4 ∧ Below w.heap.size w w' := by
  have hu24 := Tryd.underlying24
  have HO2 := Aside0.mk (show Kd.V k24 24 w w.heap.size (fun k_ => (P2_ k_ ∨ w.heap.size ≤ k_)) (.slice A2 l2.length c2) l2 from Kd.V_mono hs2 (fun k_ hk => .inl hk))
  have HB := Aside0.mk (Below.refl w.heap.size w)
  have H : (chalklineref11_joined.l0 k a0 a1 l2 (([] : List (S24))) 0) = some (r1, r2, r3, r4) := h
  clear h
  obtain ⟨y129, hy129⟩ : ∃ y_ : List (S24), y_ = (([] : List (S24))) := ⟨_, rfl⟩
  replace H : (chalklineref11_joined.l0 k a0 a1 l2 y129 0) = some (r1, r2, r3, r4) := by first | (rw [hy129]; with_reducible exact H) | (have H2_ := (Option.bind_some _ _).symm.trans H; rw [hy129]; with_reducible exact H2_) | (have H2_ := (Option.bind_some _ _).symm.trans H; with_reducible exact H2_) | with_reducible exact H | (rw [hy129]; exact H) | exact H
  have Ny129 := Aside0.mk hy129
  clear hy129
  have H' := Aside0.mk H
  clear H
  go_enter Tryd.func49, Tryd.ntmps49
  go_wp2_with (first | ((with_reducible refine gate_dst (N := 6) rfl ?_); refine box_event ?hg (N := 6) ?hd (cs := #[.int .i64 0, .int .i64 0, .int .i64 0, .slice none 0 0]) (t := 24) ?hr ?_; (case hd => rfl); (case hg => rfl); (case hr => first | (go_simp; done) | (go_simp; rfl)); intro gb128 hg w4 hbox hb; have n0_ := Aside0.mk (Kd.V_below (Kd.V_elderB (by (with_reducible repeat (first | apply Kd.V_alloc | apply Kd.V_drewN | apply Kd.V_drew)); exact HO2.out) gb128 (Nat.le_of_eq hg.symm)) hb); have n1_ := Aside0.mk (below_step (by repeat (first | (with_reducible first | exact HB.out | apply below_alloc | apply pw_below_drewN | apply below_drew1) | exact HB.out)) hb); have n2_ := Aside0.mk (hbox); have n3_ := Aside0.mk ((by rw [hg]; exact (below_size (by repeat (first | (with_reducible first | exact HB.out | apply below_alloc | apply pw_below_drewN | apply below_drew1) | exact HB.out))) : w.heap.size ≤ gb128)); have n4_ := Aside0.mk ((by rw [hg]; exact (below_size (by repeat (first | (with_reducible first | exact HB.out | apply below_alloc | apply pw_below_drewN | apply below_drew1) | exact HB.out))) : w.heap.size ≤ gb128)); clear HO2; clear HB; have HO2 := n0_; have HB := n1_; have BK128 := n2_; have GW128 := n3_; have GE128 := n4_; clear n0_ n1_ n2_ n3_ n4_; clear hb hbox hg) | ((with_reducible refine gate_dst (N := 10) rfl ?_); refine Kd.N_lit k24 _ 24 ?hg (N' := 10) ?hd (xs := ([] : List (S24))) (inner := []) (ok := (fun k_ => (P2_ k_ ∨ w.heap.size ≤ k_) ∧ k_ ≠ gb128)) (okp := (fun k_ => (P2_ k_ ∨ w.heap.size ≤ k_) ∧ k_ ≠ gb128)) ?hr ?hp (fun _ hk => hk) ((show ∀ k_, w4.heap.size ≤ k_ → (fun k_ => (P2_ k_ ∨ w.heap.size ≤ k_) ∧ k_ ≠ gb128) k_ from fun k_ hk => ⟨(.inr (Nat.le_trans (below_size (by repeat (first | (with_reducible first | exact HB.out | apply below_alloc | apply pw_below_drewN | apply below_drew1 | refine below_set ?_ GE128.out) | exact HB.out))) hk)), Kd.freshB (g := gb128) (o := .cells #[.int .i64 0, .int .i64 0, .int .i64 0, .slice none 0 0] 24 (0, 0)) (by (with_reducible repeat (first | refine blk_drewN ?_ _ | refine blk_drew ?_ | refine blk_alloc ?_ _)); exact BK128.out) k_ hk⟩) _ (Nat.le_refl _)) (Below.refl _ _) (Nat.le_refl _) (by simp) ?_; (case hd => rfl); (case hg => rfl); (case hr => first | (go_simp; done) | (go_simp; rfl)); (case hp => exact (Reps.none _ _)); intro v130 w5 ho6 hb hg_ hnew_; clear hg_ hnew_; (first | rw [← Ny129.out] at ho6 | (simp only [Int.reduceToNat] at ho6; rw [← Ny129.out] at ho6)); have n0_ := Aside0.mk (Kd.V_elder' (by (with_reducible repeat (first | apply Kd.V_alloc | apply Kd.V_drewN | apply Kd.V_drew)); exact HO2.out) (Kd.N_base ho6) hb); have n1_ := Aside0.mk (Kd.N_lower ho6 (below_size (by repeat (first | (with_reducible first | exact HB.out | apply below_alloc | apply pw_below_drewN | apply below_drew1 | refine below_set ?_ GE128.out) | exact HB.out)))); have n2_ := Aside0.mk (blk_below (g := gb128) (o := .cells #[.int .i64 0, .int .i64 0, .int .i64 0, .slice none 0 0] 24 (0, 0)) (by (with_reducible repeat (first | refine blk_drewN ?_ _ | refine blk_drew ?_ | refine blk_alloc ?_ _)); exact BK128.out) hb); have n3_ := Aside0.mk (below_step (by repeat (first | (with_reducible first | exact HB.out | apply below_alloc | apply pw_below_drewN | apply below_drew1 | refine below_set ?_ GE128.out) | exact HB.out)) hb); clear HO2; clear BK128; clear HB; have HO2 := n0_; have HO131 := n1_; have BK128 := n2_; have HB := n3_; clear n0_ n1_ n2_ n3_; clear hb ho6))
  go_loopg [7, 8] k (fun kq v7 v8 w' => ∃ (x7_1 : List (S24)) (x8_1 : Int) (x129000_1 : Int) (x129001_1 : Int) (x129002_1 : Int), v8 = .int .i64 x8_1 ∧ Aside0 (chalklineref11_joined.l0 kq a0 a1 l2 x7_1 x8_1 = some (r1, r2, r3, r4)) ∧ Aside0 (kq ≤ k) ∧ Aside0 (Kd.V k24 24 w' w.heap.size (fun k_ => (P2_ k_ ∨ w.heap.size ≤ k_) ∧ some k_ ≠ (v7 : Value).ownBlock ∧ k_ ≠ gb128) (.slice A2 l2.length c2) l2) ∧ Aside0 (Kd.N k24 24 w' w.heap.size (fun k_ => (P2_ k_ ∨ w.heap.size ≤ k_) ∧ k_ ≠ gb128) v7 x7_1) ∧ Aside0 (w'.heap[gb128]? = some (.cells #[.int .i64 x129000_1, .int .i64 x129001_1, .int .i64 x129002_1, (.slice none 0 0)] 24 (0, 0))) ∧ Aside0 (Below w.heap.size w w'))
  case atStart => exact ⟨(y129), (0), (0), (0), (0), (by first | rfl | (simp; done) | (simp [*]; done)), H', ⟨Nat.le_refl _⟩, ⟨by (with_reducible repeat (first | apply Kd.V_alloc | apply Kd.V_drewN | apply Kd.V_drew)); exact Kd.V_mono HO2.out (fun _ hk => ⟨hk.1.1, ⟨hk.2, hk.1.2⟩⟩)⟩, ⟨by (with_reducible repeat (first | apply Kd.N_alloc | apply Kd.N_drewN | apply Kd.N_drew)); exact HO131.out⟩, ⟨by (with_reducible repeat (first | refine blk_drewN ?_ _ | refine blk_drew ?_ | refine blk_alloc ?_ _)); exact BK128.out⟩, ⟨by repeat (first | (with_reducible first | exact HB.out | apply below_alloc | apply pw_below_drewN | apply below_drew1 | refine below_set ?_ GE128.out) | exact HB.out)⟩⟩
  case round =>
    clear H'
    try clear c2
    try clear p2
    try clear c4
    obtain ⟨x7_1, x8_1, x129000_1, x129001_1, x129002_1, rfl, HA, HK1, HO_2, HO_7, BK128, HB⟩ := hrel
    cases gk with
    | zero => exact absurd HA.out (by simp [chalklineref11_joined.l0])
    | succ k1 =>
      have H := HA.out
      clear HA
      simp only [chalklineref11_joined.l0] at H
      by_cases c7 : x8_1 < (l2.length : Int)
      · rw [if_pos c7] at H
        have c7b0 : decide (x8_1 < (l2.length : Int)) = true := decide_eq_true c7
        clear c7
        by_cases c8 : 0 ≤ x8_1
        · rw [if_pos c8] at H
          have c8b0 : decide (0 ≤ x8_1) = true := decide_eq_true c8
          clear c8
          by_cases c9 : ((rd_T24 l2 x8_1).f0) = a0
          · rw [if_pos c9] at H
            have c9b0 : (((rd_T24 l2 x8_1).f0) == a0) = true := beq_iff_eq.mpr c9
            have c9b1 : (((rd_T24 l2 x8_1).f0) != a0) = false := bne_eq_false_iff_eq.mpr c9
            clear c9
            by_cases c10 : x7_1.length + ((rd_T24 l2 x8_1).f3).length < 2932031007402
            · rw [if_pos c10] at H
              have LMc10 := Aside0.mk c10
              clear c10
              obtain ⟨y134, hy134⟩ : ∃ y_ : List (S24), y_ = (x7_1 ++ ((rd_T24 l2 x8_1).f3)) := ⟨_, rfl⟩
              replace H : (chalklineref11_joined.l0 k1 a0 a1 l2 y134 (wrap64 (x8_1 + 1))) = some (r1, r2, r3, r4) := by first | (rw [hy134]; with_reducible exact H) | (have H2_ := (Option.bind_some _ _).symm.trans H; rw [hy134]; with_reducible exact H2_) | (have H2_ := (Option.bind_some _ _).symm.trans H; with_reducible exact H2_) | with_reducible exact H | (rw [hy134]; exact H) | exact H
              have Ny134 := Aside0.mk hy134
              clear hy134
              have H' := Aside0.mk H
              clear H
              have p132 : 0 ≤ (x8_1 : Int) := of_decide_eq_true (by first | (with_reducible assumption) | assumption)
              have q132 : x8_1 < (l2.length : Int) := of_decide_eq_true (by first | (with_reducible assumption) | assumption)
              obtain ⟨ad132, A132_3, c132_3, e132, hx132_0, hx132_1, hx132_2, hx132_3, hl132_3, hi132_3⟩ := at_T24 (Kd.V_reads' HO_2.out).2.2 x8_1 p132 q132
              cases e132
              obtain ⟨ce132, hce132, hMe132, hcc132⟩ := Kd.V_get HO_2.out z24 x8_1 p132 (by first | exact q132 | exact of_decide_eq_true (by first | (with_reducible assumption) | assumption) | (have e_ := (Kd.V_reads' HO_2.out).1; omega))
              obtain ⟨ua132_3, uc132_3, rfl, ul132_3, ge132_3⟩ := k24_openF hMe132
              have hv132_3 := hcc132 3 _ rfl
              rw [add_field _ _ 3 (by omega)] at hv132_3
              replace hv132_3 := Option.some.inj (hv132_3.symm.trans hx132_3)
              injection hv132_3 with hva_ hvn_ hvc_
              rw [hva_] at ge132_3
              rw [hvc_] at ul132_3
              have HL132_3 := Aside0.mk (show Kd.V k24 24 _ w.heap.size _ _ ((rd_T24 l2 x8_1).f3) from Kd.V_mk ul132_3 ge132_3)
              clear hva_ hvn_ hvc_ ge132_3 ul132_3
              clear hcc132 hce132
              have HR132_3 := Aside0.mk hi132_3
              have HC132_3 := Aside0.mk hl132_3
              clear hi132_3 hl132_3
              replace p132 := eq_true p132
              replace q132 := eq_true q132
              go_wp2_with (first | ((with_reducible refine gate_dst (N := 9) rfl ?_); refine box_event ?hg (N := 9) ?hd (cs := #[.int .i64 0, .int .i64 0, .int .i64 0, .slice none 0 0]) (t := 24) ?hr ?_; (case hd => rfl); (case hg => rfl); (case hr => first | (go_simp; done) | (go_simp; rfl)); intro gb133 hg w11 hbox hb; have n0_ := Aside0.mk (Kd.V_below (Kd.V_elderB (by (with_reducible repeat (first | apply Kd.V_alloc | apply Kd.V_drewN | apply Kd.V_drew)); exact HO_2.out) gb133 (Nat.le_of_eq hg.symm)) hb); have n1_ := Aside0.mk (Kd.N_below (Kd.N_elderB (by (with_reducible repeat (first | apply Kd.N_alloc | apply Kd.N_drewN | apply Kd.N_drew)); exact HO_7.out) gb133 (Nat.le_of_eq hg.symm)) hb); have n2_ := Aside0.mk (Kd.V_below (Kd.V_elderB (by (with_reducible repeat (first | apply Kd.V_alloc | apply Kd.V_drewN | apply Kd.V_drew)); exact HL132_3.out) gb133 (Nat.le_of_eq hg.symm)) hb); have n3_ := Aside0.mk (blk_below (g := gb128) (o := .cells #[.int .i64 x129000_1, .int .i64 x129001_1, .int .i64 x129002_1, .slice none 0 0] 24 (0, 0)) (by (with_reducible repeat (first | refine blk_drewN ?_ _ | refine blk_drew ?_ | refine blk_alloc ?_ _)); exact BK128.out) hb); have n4_ := Aside0.mk (Kd.C_below (by repeat (first | (with_reducible exact HR132_3.out) | (with_reducible refine Kd.C_alloc ?_ _) | (with_reducible refine Kd.C_drewN ?_ _) | (with_reducible refine Kd.C_drew ?_) | exact HR132_3.out)) hb); have n5_ := Aside0.mk (below_step (by repeat (first | (with_reducible first | exact HB.out | apply below_alloc | apply pw_below_drewN | apply below_drew1 | refine below_set ?_ GE128.out) | exact HB.out)) hb); have n6_ := Aside0.mk (hbox); have n7_ := Aside0.mk ((by rw [hg]; exact (below_size (by repeat (first | (with_reducible first | exact HB.out | apply below_alloc | apply pw_below_drewN | apply below_drew1 | refine below_set ?_ GE128.out) | exact HB.out))) : w.heap.size ≤ gb133)); have n8_ := Aside0.mk ((by rw [hg]; exact (below_size (by repeat (first | (with_reducible first | exact HB.out | apply below_alloc | apply pw_below_drewN | apply below_drew1 | refine below_set ?_ GE128.out) | exact HB.out))) : w.heap.size ≤ gb133)); have n9_ := Aside0.mk ((by rw [hg]; exact Nat.ne_of_lt (blk_lt (g := gb128) (o := .cells #[.int .i64 x129000_1, .int .i64 x129001_1, .int .i64 x129002_1, .slice none 0 0] 24 (0, 0)) (by (with_reducible repeat (first | refine blk_drewN ?_ _ | refine blk_drew ?_ | refine blk_alloc ?_ _)); exact BK128.out)) : gb128 ≠ gb133)); have n10_ := Aside0.mk ((by rw [hg]; exact Nat.ne_of_gt (blk_lt (g := gb128) (o := .cells #[.int .i64 x129000_1, .int .i64 x129001_1, .int .i64 x129002_1, .slice none 0 0] 24 (0, 0)) (by (with_reducible repeat (first | refine blk_drewN ?_ _ | refine blk_drew ?_ | refine blk_alloc ?_ _)); exact BK128.out)) : gb133 ≠ gb128)); clear HO_2; clear HO_7; clear HL132_3; clear BK128; clear HR132_3; clear HB; have HO_2 := n0_; have HO_7 := n1_; have HL132_3 := n2_; have BK128 := n3_; have HR132_3 := n4_; have HB := n5_; have BK133 := n6_; have GW133 := n7_; have GE133 := n8_; have NB128_133 := n9_; have NB133_128 := n10_; clear n0_ n1_ n2_ n3_ n4_ n5_ n6_ n7_ n8_ n9_ n10_; clear hb hbox hg; have hnb12 := NB133_128.out; have hnc12 := NB128_133.out; have hcz13_0 : w11.cell? ⟨gb133, 0, none⟩ = some (.int .i64 0) := (blk_cell BK133.out 0).trans rfl; have hcz13_1 : w11.cell? ⟨gb133, 1, none⟩ = some (.int .i64 0) := (blk_cell BK133.out 1).trans rfl; have hcz13_2 : w11.cell? ⟨gb133, 2, none⟩ = some (.int .i64 0) := (blk_cell BK133.out 2).trans rfl; have hcz13_3 : w11.cell? ⟨gb133, 3, none⟩ = some (.slice none 0 0) := (blk_cell BK133.out 3).trans rfl; have hfz13_0 := blk_frozen BK133.out 0; have hfz13_1 := blk_frozen BK133.out 1; have hfz13_2 := blk_frozen BK133.out 2; have hfz13_3 := blk_frozen BK133.out 3) | ((with_reducible refine gate_builtin (b := .append) (xs := #[.tmp 25, .tmp 27]) rfl ?_); at_builtin; refine Kd.N_append_rows k24 (w0 := w) w.heap.size rfl (.tmp 25) (.tmp 27) 22 24 (.agg #[(.int .i64 0), (.int .i64 0), (.int .i64 0), (.slice none 0 0)]) 48 rfl Tryd.underlying22 info24 rfl (by decide) (by omega) u7 x7_1 ((rd_T24 l2 x8_1).f3) _ _ _ (fun k_ => (P2_ k_ ∨ w.heap.size ≤ k_) ∧ k_ ≠ gb128 ∧ k_ ≠ gb133) (fun k_ => ((fun k_ => (P2_ k_ ∨ w.heap.size ≤ k_) ∧ k_ ≠ gb128 ∧ k_ ≠ gb133)) k_ ∧ some k_ ≠ (u7 : Value).ownBlock) rfl rfl ?aO ?aR (fun _ hk => hk) ?aF ?aB ?aS ?aL ?_; (case aR => exact (by skip; exact Kd.V_F (Kd.V_mono (ok' := (fun k_ => ((fun k_ => (P2_ k_ ∨ w.heap.size ≤ k_) ∧ k_ ≠ gb128 ∧ k_ ≠ gb133)) k_ ∧ some k_ ≠ (u7 : Value).ownBlock)) ((Kd.V_far (p := ⟨gb133, 3, none⟩) (Kd.V_far (p := ⟨gb133, 2, none⟩) (Kd.V_far (p := ⟨gb133, 1, none⟩) (Kd.V_far (p := ⟨gb133, 0, none⟩) (Kd.V_mono HL132_3.out (fun k_ hk => (⟨hk, hk.2⟩ : _ ∧ k_ ≠ gb133))) (fun _ hk => hk.2) (.int .i64 ((rd_T24 l2 x8_1).f0))) (fun _ hk => hk.2) (.int .i64 ((rd_T24 l2 x8_1).f1))) (fun _ hk => hk.2) (.int .i64 ((rd_T24 l2 x8_1).f2))) (fun _ hk => hk.2) (.slice A132_3 ((rd_T24 l2 x8_1).f3).length c132_3))) (fun k_ hk => ⟨⟨hk.1.1.1, ⟨hk.1.1.2.2, hk.1.2⟩⟩, hk.1.1.2.1⟩)))); (case aB => exact (by repeat (first | (with_reducible first | exact HB.out | apply below_alloc | apply pw_below_drewN | apply below_drew1 | refine below_set ?_ GE128.out | refine below_set ?_ GE133.out) | exact HB.out))); (case aF => exact (fun k_ hk => ⟨(.inr (Nat.le_trans (below_size (by repeat (first | (with_reducible first | exact HB.out | apply below_alloc | apply pw_below_drewN | apply below_drew1 | refine below_set ?_ GE128.out | refine below_set ?_ GE133.out) | exact HB.out))) hk)), Kd.freshB (g := gb128) (o := .cells #[.int .i64 x129000_1, .int .i64 x129001_1, .int .i64 x129002_1, .slice none 0 0] 24 (0, 0)) (by (with_reducible repeat (first | refine blk_drewN ?_ _ | refine blk_drew ?_ | refine blk_alloc ?_ _)); refine blk_far ?_ NB128_133.out _; (with_reducible repeat (first | refine blk_drewN ?_ _ | refine blk_drew ?_ | refine blk_alloc ?_ _)); refine blk_far ?_ NB128_133.out _; (with_reducible repeat (first | refine blk_drewN ?_ _ | refine blk_drew ?_ | refine blk_alloc ?_ _)); refine blk_far ?_ NB128_133.out _; (with_reducible repeat (first | refine blk_drewN ?_ _ | refine blk_drew ?_ | refine blk_alloc ?_ _)); refine blk_far ?_ NB128_133.out _; (with_reducible repeat (first | refine blk_drewN ?_ _ | refine blk_drew ?_ | refine blk_alloc ?_ _)); exact BK128.out) k_ hk, Kd.freshB (g := gb133) (o := .cells #[.int .i64 ((rd_T24 l2 x8_1).f0), .int .i64 ((rd_T24 l2 x8_1).f1), .int .i64 ((rd_T24 l2 x8_1).f2), .slice A132_3 ((rd_T24 l2 x8_1).f3).length c132_3] 24 (0, 0)) (by (with_reducible repeat (first | refine blk_drewN ?_ _ | refine blk_drew ?_ | refine blk_alloc ?_ _)); refine blk_put (cs := #[.int .i64 ((rd_T24 l2 x8_1).f0), .int .i64 ((rd_T24 l2 x8_1).f1), .int .i64 ((rd_T24 l2 x8_1).f2), .slice none 0 0]) ?_ 3 _ rfl; (with_reducible repeat (first | refine blk_drewN ?_ _ | refine blk_drew ?_ | refine blk_alloc ?_ _)); refine blk_put (cs := #[.int .i64 ((rd_T24 l2 x8_1).f0), .int .i64 ((rd_T24 l2 x8_1).f1), .int .i64 0, .slice none 0 0]) ?_ 2 _ rfl; (with_reducible repeat (first | refine blk_drewN ?_ _ | refine blk_drew ?_ | refine blk_alloc ?_ _)); refine blk_put (cs := #[.int .i64 ((rd_T24 l2 x8_1).f0), .int .i64 0, .int .i64 0, .slice none 0 0]) ?_ 1 _ rfl; (with_reducible repeat (first | refine blk_drewN ?_ _ | refine blk_drew ?_ | refine blk_alloc ?_ _)); refine blk_put (cs := #[.int .i64 0, .int .i64 0, .int .i64 0, .slice none 0 0]) ?_ 0 _ rfl; (with_reducible repeat (first | refine blk_drewN ?_ _ | refine blk_drew ?_ | refine blk_alloc ?_ _)); exact BK133.out) k_ hk⟩)); (case aO => exact (by (with_reducible repeat (first | apply Kd.N_alloc | apply Kd.N_drewN | apply Kd.N_drew)); exact Kd.N_mono (Kd.N_far (p := ⟨gb133, 3, none⟩) (Kd.N_far (p := ⟨gb133, 2, none⟩) (Kd.N_far (p := ⟨gb133, 1, none⟩) (Kd.N_far (p := ⟨gb133, 0, none⟩) (Kd.N_mono HO_7.out (fun k_ hk => (⟨hk, hk.2⟩ : _ ∧ k_ ≠ gb133))) (fun _ hk => hk.2) (.int .i64 ((rd_T24 l2 x8_1).f0))) (fun _ hk => hk.2) (.int .i64 ((rd_T24 l2 x8_1).f1))) (fun _ hk => hk.2) (.int .i64 ((rd_T24 l2 x8_1).f2))) (fun _ hk => hk.2) (.slice A132_3 ((rd_T24 l2 x8_1).f3).length c132_3)) (fun _ hk => ⟨hk.1.1.1, ⟨hk.1.1.2, hk.1.2⟩⟩))); (case aS => exact (below_size (by repeat (first | (with_reducible first | exact HB.out | apply below_alloc | apply pw_below_drewN | apply below_drew1 | refine below_set ?_ GE128.out | refine below_set ?_ GE133.out) | exact HB.out)))); (case aL => have := LMc10.out; omega); intro v135 w14 ho hb hg hat; rw [← Ny134.out] at ho; have n0_ := Aside0.mk (Kd.V_afterv (ok := (fun k_ => (P2_ k_ ∨ w.heap.size ≤ k_) ∧ k_ ≠ gb128 ∧ k_ ≠ gb133)) (by (with_reducible repeat (first | apply Kd.V_alloc | apply Kd.V_drewN | apply Kd.V_drew)); exact Kd.V_mono (Kd.V_far (p := ⟨gb133, 3, none⟩) (Kd.V_far (p := ⟨gb133, 2, none⟩) (Kd.V_far (p := ⟨gb133, 1, none⟩) (Kd.V_far (p := ⟨gb133, 0, none⟩) (Kd.V_mono HO_2.out (fun k_ hk => (⟨hk, hk.2⟩ : _ ∧ k_ ≠ gb133))) (fun _ hk => hk.2) (.int .i64 ((rd_T24 l2 x8_1).f0))) (fun _ hk => hk.2) (.int .i64 ((rd_T24 l2 x8_1).f1))) (fun _ hk => hk.2) (.int .i64 ((rd_T24 l2 x8_1).f2))) (fun _ hk => hk.2) (.slice A132_3 ((rd_T24 l2 x8_1).f3).length c132_3)) (fun _ hk => ⟨⟨hk.1.1.1, ⟨hk.1.1.2.2, hk.1.2⟩⟩, hk.1.1.2.1⟩)) hg hat); have n1_ := Aside0.mk (blk_grown (g := gb128) (o := .cells #[.int .i64 x129000_1, .int .i64 x129001_1, .int .i64 x129002_1, .slice none 0 0] 24 (0, 0)) (by (with_reducible repeat (first | refine blk_drewN ?_ _ | refine blk_drew ?_ | refine blk_alloc ?_ _)); refine blk_far ?_ NB128_133.out _; (with_reducible repeat (first | refine blk_drewN ?_ _ | refine blk_drew ?_ | refine blk_alloc ?_ _)); refine blk_far ?_ NB128_133.out _; (with_reducible repeat (first | refine blk_drewN ?_ _ | refine blk_drew ?_ | refine blk_alloc ?_ _)); refine blk_far ?_ NB128_133.out _; (with_reducible repeat (first | refine blk_drewN ?_ _ | refine blk_drew ?_ | refine blk_alloc ?_ _)); refine blk_far ?_ NB128_133.out _; (with_reducible repeat (first | refine blk_drewN ?_ _ | refine blk_drew ?_ | refine blk_alloc ?_ _)); exact BK128.out) hg (Kd.N_away HO_7.out (fun _ hk => hk.1.2))); have n2_ := Aside0.mk (Kd.V_afterv (ok := (fun k_ => (P2_ k_ ∨ w.heap.size ≤ k_) ∧ k_ ≠ gb128 ∧ k_ ≠ gb133)) (by (with_reducible repeat (first | apply Kd.V_alloc | apply Kd.V_drewN | apply Kd.V_drew)); exact Kd.V_mono (Kd.V_far (p := ⟨gb133, 3, none⟩) (Kd.V_far (p := ⟨gb133, 2, none⟩) (Kd.V_far (p := ⟨gb133, 1, none⟩) (Kd.V_far (p := ⟨gb133, 0, none⟩) (Kd.V_mono HL132_3.out (fun k_ hk => (⟨hk, hk.2⟩ : _ ∧ k_ ≠ gb133))) (fun _ hk => hk.2) (.int .i64 ((rd_T24 l2 x8_1).f0))) (fun _ hk => hk.2) (.int .i64 ((rd_T24 l2 x8_1).f1))) (fun _ hk => hk.2) (.int .i64 ((rd_T24 l2 x8_1).f2))) (fun _ hk => hk.2) (.slice A132_3 ((rd_T24 l2 x8_1).f3).length c132_3)) (fun _ hk => ⟨⟨hk.1.1.1, ⟨hk.1.1.2.2, hk.1.2⟩⟩, hk.1.1.2.1⟩)) hg hat); have n3_ := Aside0.mk (blk_grown (g := gb133) (o := .cells #[.int .i64 ((rd_T24 l2 x8_1).f0), .int .i64 ((rd_T24 l2 x8_1).f1), .int .i64 ((rd_T24 l2 x8_1).f2), .slice A132_3 ((rd_T24 l2 x8_1).f3).length c132_3] 24 (0, 0)) (by (with_reducible repeat (first | refine blk_drewN ?_ _ | refine blk_drew ?_ | refine blk_alloc ?_ _)); refine blk_put (cs := #[.int .i64 ((rd_T24 l2 x8_1).f0), .int .i64 ((rd_T24 l2 x8_1).f1), .int .i64 ((rd_T24 l2 x8_1).f2), .slice none 0 0]) ?_ 3 _ rfl; (with_reducible repeat (first | refine blk_drewN ?_ _ | refine blk_drew ?_ | refine blk_alloc ?_ _)); refine blk_put (cs := #[.int .i64 ((rd_T24 l2 x8_1).f0), .int .i64 ((rd_T24 l2 x8_1).f1), .int .i64 0, .slice none 0 0]) ?_ 2 _ rfl; (with_reducible repeat (first | refine blk_drewN ?_ _ | refine blk_drew ?_ | refine blk_alloc ?_ _)); refine blk_put (cs := #[.int .i64 ((rd_T24 l2 x8_1).f0), .int .i64 0, .int .i64 0, .slice none 0 0]) ?_ 1 _ rfl; (with_reducible repeat (first | refine blk_drewN ?_ _ | refine blk_drew ?_ | refine blk_alloc ?_ _)); refine blk_put (cs := #[.int .i64 0, .int .i64 0, .int .i64 0, .slice none 0 0]) ?_ 0 _ rfl; (with_reducible repeat (first | refine blk_drewN ?_ _ | refine blk_drew ?_ | refine blk_alloc ?_ _)); exact BK133.out) hg (Kd.N_away HO_7.out (fun _ hk => hk.2))); have n4_ := Aside0.mk (hb); have n5_ := Aside0.mk (ho); clear HO_2; clear BK128; clear HL132_3; clear BK133; clear HB; clear HO_7; have HO_2 := n0_; have BK128 := n1_; have HL132_3 := n2_; have BK133 := n3_; have HB := n4_; have HO136 := n5_; clear n0_ n1_ n2_ n3_ n4_ n5_; clear ho hb hg hat))
              go_roundg k1
              case measure => have := HK1.out; omega
              case rel => exact ⟨(y134), (wrap64 (x8_1 + 1)), (x129000_1), (x129001_1), (x129002_1), (by first | rfl | (simp; done) | (simp [*]; done)), H', ⟨by have := HK1.out; omega⟩, ⟨by (with_reducible repeat (first | apply Kd.V_alloc | apply Kd.V_drewN | apply Kd.V_drew)); exact Kd.V_mono HO_2.out (fun _ hk => ⟨hk.1.1, ⟨hk.2, hk.1.2.1⟩⟩)⟩, ⟨by (with_reducible repeat (first | apply Kd.N_alloc | apply Kd.N_drewN | apply Kd.N_drew)); exact Kd.N_mono HO136.out (fun _ hk => ⟨hk.1, hk.2.1⟩)⟩, ⟨by (with_reducible repeat (first | refine blk_drewN ?_ _ | refine blk_drew ?_ | refine blk_alloc ?_ _)); exact BK128.out⟩, ⟨by repeat (first | (with_reducible first | exact HB.out | apply below_alloc | apply pw_below_drewN | apply below_drew1 | refine below_set ?_ GE128.out | refine below_set ?_ GE133.out) | exact HB.out)⟩⟩
            · rw [if_neg c10] at H
              exact absurd H (by simp)
          · rw [if_neg c9] at H
            have c9b0 : (((rd_T24 l2 x8_1).f0) == a0) = false := beq_eq_false_iff_ne.mpr c9
            have c9b1 : (((rd_T24 l2 x8_1).f0) != a0) = true := bne_iff_ne.mpr c9
            by_cases c15 : ((rd_T24 l2 x8_1).f0) = 1
            · rw [if_pos c15] at H
              have c15b0 : (((rd_T24 l2 x8_1).f0) == 1) = true := beq_iff_eq.mpr c15
              have c15b1 : (((rd_T24 l2 x8_1).f0) != 1) = false := bne_eq_false_iff_eq.mpr c15
              clear c15
              by_cases c16 : ((rd_T24 l2 x8_1).f1) = a1
              · rw [if_pos c16] at H
                have c16b0 : (((rd_T24 l2 x8_1).f1) == a1) = true := beq_iff_eq.mpr c16
                have c16b1 : (((rd_T24 l2 x8_1).f1) != a1) = false := bne_eq_false_iff_eq.mpr c16
                clear c16
                have H' := Aside0.mk H
                clear H
                have p132 : 0 ≤ (x8_1 : Int) := of_decide_eq_true (by first | (with_reducible assumption) | assumption)
                have q132 : x8_1 < (l2.length : Int) := of_decide_eq_true (by first | (with_reducible assumption) | assumption)
                obtain ⟨ad132, A132_3, c132_3, e132, hx132_0, hx132_1, hx132_2, hx132_3, hl132_3, hi132_3⟩ := at_T24 (Kd.V_reads' HO_2.out).2.2 x8_1 p132 q132
                cases e132
                obtain ⟨ce132, hce132, hMe132, hcc132⟩ := Kd.V_get HO_2.out z24 x8_1 p132 (by first | exact q132 | exact of_decide_eq_true (by first | (with_reducible assumption) | assumption) | (have e_ := (Kd.V_reads' HO_2.out).1; omega))
                obtain ⟨ua132_3, uc132_3, rfl, ul132_3, ge132_3⟩ := k24_openF hMe132
                have hv132_3 := hcc132 3 _ rfl
                rw [add_field _ _ 3 (by omega)] at hv132_3
                replace hv132_3 := Option.some.inj (hv132_3.symm.trans hx132_3)
                injection hv132_3 with hva_ hvn_ hvc_
                rw [hva_] at ge132_3
                rw [hvc_] at ul132_3
                have HL132_3 := Aside0.mk (show Kd.V k24 24 _ w.heap.size _ _ ((rd_T24 l2 x8_1).f3) from Kd.V_mk ul132_3 ge132_3)
                clear hva_ hvn_ hvc_ ge132_3 ul132_3
                clear hcc132 hce132
                have HR132_3 := Aside0.mk hi132_3
                have HC132_3 := Aside0.mk hl132_3
                clear hi132_3 hl132_3
                replace p132 := eq_true p132
                replace q132 := eq_true q132
                go_wp2_with (first | ((with_reducible refine gate_dst (N := 9) rfl ?_); refine box_event ?hg (N := 9) ?hd (cs := #[.int .i64 0, .int .i64 0, .int .i64 0, .slice none 0 0]) (t := 24) ?hr ?_; (case hd => rfl); (case hg => rfl); (case hr => first | (go_simp; done) | (go_simp; rfl)); intro gb133 hg w17 hbox hb; have n0_ := Aside0.mk (Kd.V_below (Kd.V_elderB (by (with_reducible repeat (first | apply Kd.V_alloc | apply Kd.V_drewN | apply Kd.V_drew)); exact HO_2.out) gb133 (Nat.le_of_eq hg.symm)) hb); have n1_ := Aside0.mk (Kd.N_below (Kd.N_elderB (by (with_reducible repeat (first | apply Kd.N_alloc | apply Kd.N_drewN | apply Kd.N_drew)); exact HO_7.out) gb133 (Nat.le_of_eq hg.symm)) hb); have n2_ := Aside0.mk (Kd.V_below (Kd.V_elderB (by (with_reducible repeat (first | apply Kd.V_alloc | apply Kd.V_drewN | apply Kd.V_drew)); exact HL132_3.out) gb133 (Nat.le_of_eq hg.symm)) hb); have n3_ := Aside0.mk (blk_below (g := gb128) (o := .cells #[.int .i64 x129000_1, .int .i64 x129001_1, .int .i64 x129002_1, .slice none 0 0] 24 (0, 0)) (by (with_reducible repeat (first | refine blk_drewN ?_ _ | refine blk_drew ?_ | refine blk_alloc ?_ _)); exact BK128.out) hb); have n4_ := Aside0.mk (Kd.C_below (by repeat (first | (with_reducible exact HR132_3.out) | (with_reducible refine Kd.C_alloc ?_ _) | (with_reducible refine Kd.C_drewN ?_ _) | (with_reducible refine Kd.C_drew ?_) | exact HR132_3.out)) hb); have n5_ := Aside0.mk (below_step (by repeat (first | (with_reducible first | exact HB.out | apply below_alloc | apply pw_below_drewN | apply below_drew1 | refine below_set ?_ GE128.out) | exact HB.out)) hb); have n6_ := Aside0.mk (hbox); have n7_ := Aside0.mk ((by rw [hg]; exact (below_size (by repeat (first | (with_reducible first | exact HB.out | apply below_alloc | apply pw_below_drewN | apply below_drew1 | refine below_set ?_ GE128.out) | exact HB.out))) : w.heap.size ≤ gb133)); have n8_ := Aside0.mk ((by rw [hg]; exact (below_size (by repeat (first | (with_reducible first | exact HB.out | apply below_alloc | apply pw_below_drewN | apply below_drew1 | refine below_set ?_ GE128.out) | exact HB.out))) : w.heap.size ≤ gb133)); have n9_ := Aside0.mk ((by rw [hg]; exact Nat.ne_of_lt (blk_lt (g := gb128) (o := .cells #[.int .i64 x129000_1, .int .i64 x129001_1, .int .i64 x129002_1, .slice none 0 0] 24 (0, 0)) (by (with_reducible repeat (first | refine blk_drewN ?_ _ | refine blk_drew ?_ | refine blk_alloc ?_ _)); exact BK128.out)) : gb128 ≠ gb133)); have n10_ := Aside0.mk ((by rw [hg]; exact Nat.ne_of_gt (blk_lt (g := gb128) (o := .cells #[.int .i64 x129000_1, .int .i64 x129001_1, .int .i64 x129002_1, .slice none 0 0] 24 (0, 0)) (by (with_reducible repeat (first | refine blk_drewN ?_ _ | refine blk_drew ?_ | refine blk_alloc ?_ _)); exact BK128.out)) : gb133 ≠ gb128)); clear HO_2; clear HO_7; clear HL132_3; clear BK128; clear HR132_3; clear HB; have HO_2 := n0_; have HO_7 := n1_; have HL132_3 := n2_; have BK128 := n3_; have HR132_3 := n4_; have HB := n5_; have BK133 := n6_; have GW133 := n7_; have GE133 := n8_; have NB128_133 := n9_; have NB133_128 := n10_; clear n0_ n1_ n2_ n3_ n4_ n5_ n6_ n7_ n8_ n9_ n10_; clear hb hbox hg; have hnb18 := NB133_128.out; have hnc18 := NB128_133.out; have hcz19_0 : w17.cell? ⟨gb133, 0, none⟩ = some (.int .i64 0) := (blk_cell BK133.out 0).trans rfl; have hcz19_1 : w17.cell? ⟨gb133, 1, none⟩ = some (.int .i64 0) := (blk_cell BK133.out 1).trans rfl; have hcz19_2 : w17.cell? ⟨gb133, 2, none⟩ = some (.int .i64 0) := (blk_cell BK133.out 2).trans rfl; have hcz19_3 : w17.cell? ⟨gb133, 3, none⟩ = some (.slice none 0 0) := (blk_cell BK133.out 3).trans rfl; have hfz19_0 := blk_frozen BK133.out 0; have hfz19_1 := blk_frozen BK133.out 1; have hfz19_2 := blk_frozen BK133.out 2; have hfz19_3 := blk_frozen BK133.out 3))
                go_roundg k1
                case measure => have := HK1.out; omega
                case rel => exact ⟨(x7_1), (wrap64 (x8_1 + 1)), (x129000_1), (x129001_1), (x129002_1), (by first | rfl | (simp; done) | (simp [*]; done)), H', ⟨by have := HK1.out; omega⟩, ⟨by (with_reducible repeat (first | apply Kd.V_alloc | apply Kd.V_drewN | apply Kd.V_drew)); exact Kd.V_mono (Kd.V_far (p := ⟨gb133, 3, none⟩) (Kd.V_far (p := ⟨gb133, 2, none⟩) (Kd.V_far (p := ⟨gb133, 1, none⟩) (Kd.V_far (p := ⟨gb133, 0, none⟩) (Kd.V_mono HO_2.out (fun k_ hk => (⟨hk, hk.2⟩ : _ ∧ k_ ≠ gb133))) (fun _ hk => hk.2) (.int .i64 ((rd_T24 l2 x8_1).f0))) (fun _ hk => hk.2) (.int .i64 ((rd_T24 l2 x8_1).f1))) (fun _ hk => hk.2) (.int .i64 ((rd_T24 l2 x8_1).f2))) (fun _ hk => hk.2) (.slice A132_3 ((rd_T24 l2 x8_1).f3).length c132_3)) (fun _ hk => ⟨hk.1.1.1, ⟨hk.1.1.2.1, hk.1.1.2.2⟩⟩)⟩, ⟨by (with_reducible repeat (first | apply Kd.N_alloc | apply Kd.N_drewN | apply Kd.N_drew)); exact Kd.N_mono (Kd.N_far (p := ⟨gb133, 3, none⟩) (Kd.N_far (p := ⟨gb133, 2, none⟩) (Kd.N_far (p := ⟨gb133, 1, none⟩) (Kd.N_far (p := ⟨gb133, 0, none⟩) (Kd.N_mono HO_7.out (fun k_ hk => (⟨hk, hk.2⟩ : _ ∧ k_ ≠ gb133))) (fun _ hk => hk.2) (.int .i64 ((rd_T24 l2 x8_1).f0))) (fun _ hk => hk.2) (.int .i64 ((rd_T24 l2 x8_1).f1))) (fun _ hk => hk.2) (.int .i64 ((rd_T24 l2 x8_1).f2))) (fun _ hk => hk.2) (.slice A132_3 ((rd_T24 l2 x8_1).f3).length c132_3)) (fun _ hk => ⟨hk.1.1.1, hk.1.1.2⟩)⟩, ⟨by (with_reducible repeat (first | refine blk_drewN ?_ _ | refine blk_drew ?_ | refine blk_alloc ?_ _)); refine blk_far ?_ NB128_133.out _; (with_reducible repeat (first | refine blk_drewN ?_ _ | refine blk_drew ?_ | refine blk_alloc ?_ _)); refine blk_far ?_ NB128_133.out _; (with_reducible repeat (first | refine blk_drewN ?_ _ | refine blk_drew ?_ | refine blk_alloc ?_ _)); refine blk_far ?_ NB128_133.out _; (with_reducible repeat (first | refine blk_drewN ?_ _ | refine blk_drew ?_ | refine blk_alloc ?_ _)); refine blk_far ?_ NB128_133.out _; (with_reducible repeat (first | refine blk_drewN ?_ _ | refine blk_drew ?_ | refine blk_alloc ?_ _)); exact BK128.out⟩, ⟨by repeat (first | (with_reducible first | exact HB.out | apply below_alloc | apply pw_below_drewN | apply below_drew1 | refine below_set ?_ GE128.out | refine below_set ?_ GE133.out) | exact HB.out)⟩⟩
              · rw [if_neg c16] at H
                have c16b0 : (((rd_T24 l2 x8_1).f1) == a1) = false := beq_eq_false_iff_ne.mpr c16
                have c16b1 : (((rd_T24 l2 x8_1).f1) != a1) = true := bne_iff_ne.mpr c16
                replace H := Option.bind_eq_some_iff.mp H
                obtain ⟨⟨t137, t138, t139, t140⟩, A200, H⟩ := H
                replace H : (some (t137, t138, t139, t140)) = some (r1, r2, r3, r4) := H
                have A20 := Aside0.mk A200
                clear A200
                simp only [Option.some.injEq, Prod.mk.injEq] at H
                obtain ⟨rfl, rfl, rfl, rfl⟩ := H
                have p132 : 0 ≤ (x8_1 : Int) := of_decide_eq_true (by first | (with_reducible assumption) | assumption)
                have q132 : x8_1 < (l2.length : Int) := of_decide_eq_true (by first | (with_reducible assumption) | assumption)
                obtain ⟨ad132, A132_3, c132_3, e132, hx132_0, hx132_1, hx132_2, hx132_3, hl132_3, hi132_3⟩ := at_T24 (Kd.V_reads' HO_2.out).2.2 x8_1 p132 q132
                cases e132
                obtain ⟨ce132, hce132, hMe132, hcc132⟩ := Kd.V_get HO_2.out z24 x8_1 p132 (by first | exact q132 | exact of_decide_eq_true (by first | (with_reducible assumption) | assumption) | (have e_ := (Kd.V_reads' HO_2.out).1; omega))
                obtain ⟨ua132_3, uc132_3, rfl, ul132_3, ge132_3⟩ := k24_openF hMe132
                have hv132_3 := hcc132 3 _ rfl
                rw [add_field _ _ 3 (by omega)] at hv132_3
                replace hv132_3 := Option.some.inj (hv132_3.symm.trans hx132_3)
                injection hv132_3 with hva_ hvn_ hvc_
                rw [hva_] at ge132_3
                rw [hvc_] at ul132_3
                have HL132_3 := Aside0.mk (show Kd.V k24 24 _ w.heap.size _ _ ((rd_T24 l2 x8_1).f3) from Kd.V_mk ul132_3 ge132_3)
                clear hva_ hvn_ hvc_ ge132_3 ul132_3
                clear hcc132 hce132
                have HR132_3 := Aside0.mk hi132_3
                have HC132_3 := Aside0.mk hl132_3
                clear hi132_3 hl132_3
                replace p132 := eq_true p132
                replace q132 := eq_true q132
                go_wp2_with (first | ((with_reducible refine gate_dst (N := 9) rfl ?_); refine box_event ?hg (N := 9) ?hd (cs := #[.int .i64 0, .int .i64 0, .int .i64 0, .slice none 0 0]) (t := 24) ?hr ?_; (case hd => rfl); (case hg => rfl); (case hr => first | (go_simp; done) | (go_simp; rfl)); intro gb133 hg w21 hbox hb; have n0_ := Aside0.mk (Kd.V_below (Kd.V_elderB (by (with_reducible repeat (first | apply Kd.V_alloc | apply Kd.V_drewN | apply Kd.V_drew)); exact HO_2.out) gb133 (Nat.le_of_eq hg.symm)) hb); have n1_ := Aside0.mk (Kd.N_below (Kd.N_elderB (by (with_reducible repeat (first | apply Kd.N_alloc | apply Kd.N_drewN | apply Kd.N_drew)); exact HO_7.out) gb133 (Nat.le_of_eq hg.symm)) hb); have n2_ := Aside0.mk (Kd.V_below (Kd.V_elderB (by (with_reducible repeat (first | apply Kd.V_alloc | apply Kd.V_drewN | apply Kd.V_drew)); exact HL132_3.out) gb133 (Nat.le_of_eq hg.symm)) hb); have n3_ := Aside0.mk (blk_below (g := gb128) (o := .cells #[.int .i64 x129000_1, .int .i64 x129001_1, .int .i64 x129002_1, .slice none 0 0] 24 (0, 0)) (by (with_reducible repeat (first | refine blk_drewN ?_ _ | refine blk_drew ?_ | refine blk_alloc ?_ _)); exact BK128.out) hb); have n4_ := Aside0.mk (Kd.C_below (by repeat (first | (with_reducible exact HR132_3.out) | (with_reducible refine Kd.C_alloc ?_ _) | (with_reducible refine Kd.C_drewN ?_ _) | (with_reducible refine Kd.C_drew ?_) | exact HR132_3.out)) hb); have n5_ := Aside0.mk (below_step (by repeat (first | (with_reducible first | exact HB.out | apply below_alloc | apply pw_below_drewN | apply below_drew1 | refine below_set ?_ GE128.out) | exact HB.out)) hb); have n6_ := Aside0.mk (hbox); have n7_ := Aside0.mk ((by rw [hg]; exact (below_size (by repeat (first | (with_reducible first | exact HB.out | apply below_alloc | apply pw_below_drewN | apply below_drew1 | refine below_set ?_ GE128.out) | exact HB.out))) : w.heap.size ≤ gb133)); have n8_ := Aside0.mk ((by rw [hg]; exact (below_size (by repeat (first | (with_reducible first | exact HB.out | apply below_alloc | apply pw_below_drewN | apply below_drew1 | refine below_set ?_ GE128.out) | exact HB.out))) : w.heap.size ≤ gb133)); have n9_ := Aside0.mk ((by rw [hg]; exact Nat.ne_of_lt (blk_lt (g := gb128) (o := .cells #[.int .i64 x129000_1, .int .i64 x129001_1, .int .i64 x129002_1, .slice none 0 0] 24 (0, 0)) (by (with_reducible repeat (first | refine blk_drewN ?_ _ | refine blk_drew ?_ | refine blk_alloc ?_ _)); exact BK128.out)) : gb128 ≠ gb133)); have n10_ := Aside0.mk ((by rw [hg]; exact Nat.ne_of_gt (blk_lt (g := gb128) (o := .cells #[.int .i64 x129000_1, .int .i64 x129001_1, .int .i64 x129002_1, .slice none 0 0] 24 (0, 0)) (by (with_reducible repeat (first | refine blk_drewN ?_ _ | refine blk_drew ?_ | refine blk_alloc ?_ _)); exact BK128.out)) : gb133 ≠ gb128)); clear HO_2; clear HO_7; clear HL132_3; clear BK128; clear HR132_3; clear HB; have HO_2 := n0_; have HO_7 := n1_; have HL132_3 := n2_; have BK128 := n3_; have HR132_3 := n4_; have HB := n5_; have BK133 := n6_; have GW133 := n7_; have GE133 := n8_; have NB128_133 := n9_; have NB133_128 := n10_; clear n0_ n1_ n2_ n3_ n4_ n5_ n6_ n7_ n8_ n9_ n10_; clear hb hbox hg; have hnb22 := NB133_128.out; have hnc22 := NB128_133.out; have hcz23_0 : w21.cell? ⟨gb133, 0, none⟩ = some (.int .i64 0) := (blk_cell BK133.out 0).trans rfl; have hcz23_1 : w21.cell? ⟨gb133, 1, none⟩ = some (.int .i64 0) := (blk_cell BK133.out 1).trans rfl; have hcz23_2 : w21.cell? ⟨gb133, 2, none⟩ = some (.int .i64 0) := (blk_cell BK133.out 2).trans rfl; have hcz23_3 : w21.cell? ⟨gb133, 3, none⟩ = some (.slice none 0 0) := (blk_cell BK133.out 3).trans rfl; have hfz23_0 := blk_frozen BK133.out 0; have hfz23_1 := blk_frozen BK133.out 1; have hfz23_2 := blk_frozen BK133.out 2; have hfz23_3 := blk_frozen BK133.out 3) | ((with_reducible refine gate_callee (f := 48) rfl ?_); refine goesL_ (some 42) rfl rfl Tryd.func48 (by kernel_rfl) rfl #[.int .i64 (wrap64 (1 - a1))] rfl (by (try simp only [List.map_toArray, List.map_cons, List.map_nil]); first | done | rfl | (simp only [List.length_drop, List.length_take]; rfl)) ?_; (with_reducible refine (chalklineref11_constant.calls (wrap64 (1 - a1)) t137 t138 t139 t140 _ A20.out).mono ?_); rintro e w24 ⟨v141, rfl, ho0, hb⟩; refine ⟨_, rfl, ?_⟩; have n0_ := Aside0.mk (Kd.V_elder' (by (with_reducible repeat (first | apply Kd.V_alloc | apply Kd.V_drewN | apply Kd.V_drew)); exact (Kd.V_mono (Kd.V_far (p := ⟨gb133, 3, none⟩) (Kd.V_far (p := ⟨gb133, 2, none⟩) (Kd.V_far (p := ⟨gb133, 1, none⟩) (Kd.V_far (p := ⟨gb133, 0, none⟩) (Kd.V_mono HO_2.out (fun k_ hk => (⟨hk, hk.2⟩ : _ ∧ k_ ≠ gb133))) (fun _ hk => hk.2) (.int .i64 ((rd_T24 l2 x8_1).f0))) (fun _ hk => hk.2) (.int .i64 ((rd_T24 l2 x8_1).f1))) (fun _ hk => hk.2) (.int .i64 ((rd_T24 l2 x8_1).f2))) (fun _ hk => hk.2) (.slice A132_3 ((rd_T24 l2 x8_1).f3).length c132_3)) (fun _ h_ => h_.1))) (Kd.N_base (Kd.R_N ho0)) hb); have n1_ := Aside0.mk (Kd.N_elder' (by (with_reducible repeat (first | apply Kd.N_alloc | apply Kd.N_drewN | apply Kd.N_drew)); exact (Kd.N_mono (Kd.N_far (p := ⟨gb133, 3, none⟩) (Kd.N_far (p := ⟨gb133, 2, none⟩) (Kd.N_far (p := ⟨gb133, 1, none⟩) (Kd.N_far (p := ⟨gb133, 0, none⟩) (Kd.N_mono HO_7.out (fun k_ hk => (⟨hk, hk.2⟩ : _ ∧ k_ ≠ gb133))) (fun _ hk => hk.2) (.int .i64 ((rd_T24 l2 x8_1).f0))) (fun _ hk => hk.2) (.int .i64 ((rd_T24 l2 x8_1).f1))) (fun _ hk => hk.2) (.int .i64 ((rd_T24 l2 x8_1).f2))) (fun _ hk => hk.2) (.slice A132_3 ((rd_T24 l2 x8_1).f3).length c132_3)) (fun _ h_ => h_.1))) (Kd.N_base (Kd.R_N ho0)) hb); have n2_ := Aside0.mk (Kd.V_elder' (by (with_reducible repeat (first | apply Kd.V_alloc | apply Kd.V_drewN | apply Kd.V_drew)); exact (Kd.V_mono (Kd.V_far (p := ⟨gb133, 3, none⟩) (Kd.V_far (p := ⟨gb133, 2, none⟩) (Kd.V_far (p := ⟨gb133, 1, none⟩) (Kd.V_far (p := ⟨gb133, 0, none⟩) (Kd.V_mono HL132_3.out (fun k_ hk => (⟨hk, hk.2⟩ : _ ∧ k_ ≠ gb133))) (fun _ hk => hk.2) (.int .i64 ((rd_T24 l2 x8_1).f0))) (fun _ hk => hk.2) (.int .i64 ((rd_T24 l2 x8_1).f1))) (fun _ hk => hk.2) (.int .i64 ((rd_T24 l2 x8_1).f2))) (fun _ hk => hk.2) (.slice A132_3 ((rd_T24 l2 x8_1).f3).length c132_3)) (fun _ h_ => h_.1))) (Kd.N_base (Kd.R_N ho0)) hb); have n3_ := Aside0.mk (Kd.N_lower (Kd.N_mono (ok' := fun k_ => (P2_ k_ ∨ w.heap.size ≤ k_) ∧ some k_ ≠ (u7 : Value).ownBlock ∧ k_ ≠ gb128 ∧ k_ ≠ gb133) (Kd.R_N (Kd.R_bound ho0)) (fun k_ hk_ => ⟨(.inr (Nat.le_trans (below_size (by repeat (first | (with_reducible first | exact HB.out | apply below_alloc | apply pw_below_drewN | apply below_drew1 | refine below_set ?_ GE128.out | refine below_set ?_ GE133.out) | exact HB.out))) hk_.2.1)), (Kd.fresh' (Kd.N_lt (by (with_reducible repeat (first | apply Kd.N_alloc | apply Kd.N_drewN | apply Kd.N_drew)); exact (Kd.N_mono (Kd.N_far (p := ⟨gb133, 3, none⟩) (Kd.N_far (p := ⟨gb133, 2, none⟩) (Kd.N_far (p := ⟨gb133, 1, none⟩) (Kd.N_far (p := ⟨gb133, 0, none⟩) (Kd.N_mono HO_7.out (fun k_ hk => (⟨hk, hk.2⟩ : _ ∧ k_ ≠ gb133))) (fun _ hk => hk.2) (.int .i64 ((rd_T24 l2 x8_1).f0))) (fun _ hk => hk.2) (.int .i64 ((rd_T24 l2 x8_1).f1))) (fun _ hk => hk.2) (.int .i64 ((rd_T24 l2 x8_1).f2))) (fun _ hk => hk.2) (.slice A132_3 ((rd_T24 l2 x8_1).f3).length c132_3)) (fun _ h_ => h_.1)))) k_ hk_.2.1), (Kd.freshB (g := gb128) (o := .cells #[.int .i64 x129000_1, .int .i64 x129001_1, .int .i64 x129002_1, .slice none 0 0] 24 (0, 0)) (by (with_reducible repeat (first | refine blk_drewN ?_ _ | refine blk_drew ?_ | refine blk_alloc ?_ _)); refine blk_far ?_ NB128_133.out _; (with_reducible repeat (first | refine blk_drewN ?_ _ | refine blk_drew ?_ | refine blk_alloc ?_ _)); refine blk_far ?_ NB128_133.out _; (with_reducible repeat (first | refine blk_drewN ?_ _ | refine blk_drew ?_ | refine blk_alloc ?_ _)); refine blk_far ?_ NB128_133.out _; (with_reducible repeat (first | refine blk_drewN ?_ _ | refine blk_drew ?_ | refine blk_alloc ?_ _)); refine blk_far ?_ NB128_133.out _; (with_reducible repeat (first | refine blk_drewN ?_ _ | refine blk_drew ?_ | refine blk_alloc ?_ _)); exact BK128.out) k_ hk_.2.1), (Kd.freshB (g := gb133) (o := .cells #[.int .i64 ((rd_T24 l2 x8_1).f0), .int .i64 ((rd_T24 l2 x8_1).f1), .int .i64 ((rd_T24 l2 x8_1).f2), .slice A132_3 ((rd_T24 l2 x8_1).f3).length c132_3] 24 (0, 0)) (by (with_reducible repeat (first | refine blk_drewN ?_ _ | refine blk_drew ?_ | refine blk_alloc ?_ _)); refine blk_put (cs := #[.int .i64 ((rd_T24 l2 x8_1).f0), .int .i64 ((rd_T24 l2 x8_1).f1), .int .i64 ((rd_T24 l2 x8_1).f2), .slice none 0 0]) ?_ 3 _ rfl; (with_reducible repeat (first | refine blk_drewN ?_ _ | refine blk_drew ?_ | refine blk_alloc ?_ _)); refine blk_put (cs := #[.int .i64 ((rd_T24 l2 x8_1).f0), .int .i64 ((rd_T24 l2 x8_1).f1), .int .i64 0, .slice none 0 0]) ?_ 2 _ rfl; (with_reducible repeat (first | refine blk_drewN ?_ _ | refine blk_drew ?_ | refine blk_alloc ?_ _)); refine blk_put (cs := #[.int .i64 ((rd_T24 l2 x8_1).f0), .int .i64 0, .int .i64 0, .slice none 0 0]) ?_ 1 _ rfl; (with_reducible repeat (first | refine blk_drewN ?_ _ | refine blk_drew ?_ | refine blk_alloc ?_ _)); refine blk_put (cs := #[.int .i64 0, .int .i64 0, .int .i64 0, .slice none 0 0]) ?_ 0 _ rfl; (with_reducible repeat (first | refine blk_drewN ?_ _ | refine blk_drew ?_ | refine blk_alloc ?_ _)); exact BK133.out) k_ hk_.2.1)⟩)) (below_size (by repeat (first | (with_reducible first | exact HB.out | apply below_alloc | apply pw_below_drewN | apply below_drew1 | refine below_set ?_ GE128.out | refine below_set ?_ GE133.out) | exact HB.out)))); have n4_ := Aside0.mk (blk_below (g := gb128) (o := .cells #[.int .i64 x129000_1, .int .i64 x129001_1, .int .i64 x129002_1, .slice none 0 0] 24 (0, 0)) (by (with_reducible repeat (first | refine blk_drewN ?_ _ | refine blk_drew ?_ | refine blk_alloc ?_ _)); refine blk_far ?_ NB128_133.out _; (with_reducible repeat (first | refine blk_drewN ?_ _ | refine blk_drew ?_ | refine blk_alloc ?_ _)); refine blk_far ?_ NB128_133.out _; (with_reducible repeat (first | refine blk_drewN ?_ _ | refine blk_drew ?_ | refine blk_alloc ?_ _)); refine blk_far ?_ NB128_133.out _; (with_reducible repeat (first | refine blk_drewN ?_ _ | refine blk_drew ?_ | refine blk_alloc ?_ _)); refine blk_far ?_ NB128_133.out _; (with_reducible repeat (first | refine blk_drewN ?_ _ | refine blk_drew ?_ | refine blk_alloc ?_ _)); exact BK128.out) hb); have n5_ := Aside0.mk (Kd.C_below ((Kd.V_reads' (by (with_reducible repeat (first | apply Kd.V_alloc | apply Kd.V_drewN | apply Kd.V_drew)); exact (Kd.V_mono (Kd.V_far (p := ⟨gb133, 3, none⟩) (Kd.V_far (p := ⟨gb133, 2, none⟩) (Kd.V_far (p := ⟨gb133, 1, none⟩) (Kd.V_far (p := ⟨gb133, 0, none⟩) (Kd.V_mono HL132_3.out (fun k_ hk => (⟨hk, hk.2⟩ : _ ∧ k_ ≠ gb133))) (fun _ hk => hk.2) (.int .i64 ((rd_T24 l2 x8_1).f0))) (fun _ hk => hk.2) (.int .i64 ((rd_T24 l2 x8_1).f1))) (fun _ hk => hk.2) (.int .i64 ((rd_T24 l2 x8_1).f2))) (fun _ hk => hk.2) (.slice A132_3 ((rd_T24 l2 x8_1).f3).length c132_3)) (fun _ h_ => h_.1)))).2.2) hb); have n6_ := Aside0.mk (blk_below (g := gb133) (o := .cells #[.int .i64 ((rd_T24 l2 x8_1).f0), .int .i64 ((rd_T24 l2 x8_1).f1), .int .i64 ((rd_T24 l2 x8_1).f2), .slice A132_3 ((rd_T24 l2 x8_1).f3).length c132_3] 24 (0, 0)) (by (with_reducible repeat (first | refine blk_drewN ?_ _ | refine blk_drew ?_ | refine blk_alloc ?_ _)); refine blk_put (cs := #[.int .i64 ((rd_T24 l2 x8_1).f0), .int .i64 ((rd_T24 l2 x8_1).f1), .int .i64 ((rd_T24 l2 x8_1).f2), .slice none 0 0]) ?_ 3 _ rfl; (with_reducible repeat (first | refine blk_drewN ?_ _ | refine blk_drew ?_ | refine blk_alloc ?_ _)); refine blk_put (cs := #[.int .i64 ((rd_T24 l2 x8_1).f0), .int .i64 ((rd_T24 l2 x8_1).f1), .int .i64 0, .slice none 0 0]) ?_ 2 _ rfl; (with_reducible repeat (first | refine blk_drewN ?_ _ | refine blk_drew ?_ | refine blk_alloc ?_ _)); refine blk_put (cs := #[.int .i64 ((rd_T24 l2 x8_1).f0), .int .i64 0, .int .i64 0, .slice none 0 0]) ?_ 1 _ rfl; (with_reducible repeat (first | refine blk_drewN ?_ _ | refine blk_drew ?_ | refine blk_alloc ?_ _)); refine blk_put (cs := #[.int .i64 0, .int .i64 0, .int .i64 0, .slice none 0 0]) ?_ 0 _ rfl; (with_reducible repeat (first | refine blk_drewN ?_ _ | refine blk_drew ?_ | refine blk_alloc ?_ _)); exact BK133.out) hb); have n7_ := Aside0.mk (below_step (by repeat (first | (with_reducible first | exact HB.out | apply below_alloc | apply pw_below_drewN | apply below_drew1 | refine below_set ?_ GE128.out | refine below_set ?_ GE133.out) | exact HB.out)) hb); clear HO_2; clear HO_7; clear HL132_3; clear BK128; clear HR132_3; clear BK133; clear HB; have HO_2 := n0_; have HO_7 := n1_; have HL132_3 := n2_; have HO142 := n3_; have BK128 := n4_; have HR132_3 := n5_; have BK133 := n6_; have HB := n7_; clear n0_ n1_ n2_ n3_ n4_ n5_ n6_ n7_; (try clear hb); (try clear hb2); (try clear hk); (try clear hi); (try clear ho0); have hcz25_0 : w24.cell? ⟨gb128, 0, none⟩ = some (.int .i64 x129000_1) := (blk_cell BK128.out 0).trans rfl; have hcz25_1 : w24.cell? ⟨gb128, 1, none⟩ = some (.int .i64 x129001_1) := (blk_cell BK128.out 1).trans rfl; have hcz25_2 : w24.cell? ⟨gb128, 2, none⟩ = some (.int .i64 x129002_1) := (blk_cell BK128.out 2).trans rfl; have hcz25_3 : w24.cell? ⟨gb128, 3, none⟩ = some (.slice none 0 0) := (blk_cell BK128.out 3).trans rfl; have hfz25_0 := blk_frozen BK128.out 0; have hfz25_1 := blk_frozen BK128.out 1; have hfz25_2 := blk_frozen BK128.out 2; have hfz25_3 := blk_frozen BK128.out 3; obtain ⟨Ao26, co26, eo26⟩ := Kd.N_slice HO142.out; subst eo26))
                refine bodyPost_ret (results_cell_row rfl _ _ gb128 24 #[.int .i64 t137, .int .i64 t138, .int .i64 t139, .slice Ao26 t140.length co26] (0, 0) _ rfl (by (with_reducible repeat (first | refine blk_drewN ?_ _ | refine blk_drew ?_ | refine blk_alloc ?_ _)); refine blk_put (cs := #[.int .i64 t137, .int .i64 t138, .int .i64 t139, .slice none 0 0]) ?_ 3 _ rfl; (with_reducible repeat (first | refine blk_drewN ?_ _ | refine blk_drew ?_ | refine blk_alloc ?_ _)); refine blk_put (cs := #[.int .i64 t137, .int .i64 t138, .int .i64 x129002_1, .slice none 0 0]) ?_ 2 _ rfl; (with_reducible repeat (first | refine blk_drewN ?_ _ | refine blk_drew ?_ | refine blk_alloc ?_ _)); refine blk_put (cs := #[.int .i64 t137, .int .i64 x129001_1, .int .i64 x129002_1, .slice none 0 0]) ?_ 1 _ rfl; (with_reducible repeat (first | refine blk_drewN ?_ _ | refine blk_drew ?_ | refine blk_alloc ?_ _)); refine blk_put (cs := #[.int .i64 x129000_1, .int .i64 x129001_1, .int .i64 x129002_1, .slice none 0 0]) ?_ 0 _ rfl; (with_reducible repeat (first | refine blk_drewN ?_ _ | refine blk_drew ?_ | refine blk_alloc ?_ _)); exact BK128.out) Tryd.underlying24 rfl (by kernel_rfl)) rfl ?_
                exact ⟨_, by first | rfl | (simp [errW_none, errW_some] <;> rfl) | (simp [*, errW_none, errW_some] <;> rfl), Kd.N_V (by (with_reducible repeat (first | apply Kd.N_alloc | apply Kd.N_drewN | apply Kd.N_drew)); exact Kd.N_mono (Kd.N_far (p := ⟨gb128, 3, none⟩) (Kd.N_far (p := ⟨gb128, 2, none⟩) (Kd.N_far (p := ⟨gb128, 1, none⟩) (Kd.N_far (p := ⟨gb128, 0, none⟩) (Kd.N_mono HO142.out (fun k_ hk => (⟨hk, hk.2.2.1⟩ : _ ∧ k_ ≠ gb128))) (fun _ hk => hk.2) (.int .i64 t137)) (fun _ hk => hk.2) (.int .i64 t138)) (fun _ hk => hk.2) (.int .i64 t139)) (fun _ hk => hk.2) (.slice Ao26 t140.length co26)) (fun _ hk => hk.1.1)), by repeat (first | (with_reducible first | exact HB.out | apply below_alloc | apply pw_below_drewN | apply below_drew1 | refine below_set ?_ GE128.out | refine below_set ?_ GE133.out) | exact HB.out)⟩
            · rw [if_neg c15] at H
              have c15b0 : (((rd_T24 l2 x8_1).f0) == 1) = false := beq_eq_false_iff_ne.mpr c15
              have c15b1 : (((rd_T24 l2 x8_1).f0) != 1) = true := bne_iff_ne.mpr c15
              by_cases c27 : x7_1.length < 2932031007402
              · rw [if_pos c27] at H
                have LMc27 := Aside0.mk c27
                clear c27
                obtain ⟨y143, hy143⟩ : ∃ y_ : List (S24), y_ = (x7_1 ++ [(⟨(rd_T24 l2 x8_1).f0, (rd_T24 l2 x8_1).f1, (rd_T24 l2 x8_1).f2, (rd_T24 l2 x8_1).f3⟩ : S24)]) := ⟨_, rfl⟩
                replace H : (chalklineref11_joined.l0 k1 a0 a1 l2 y143 (wrap64 (x8_1 + 1))) = some (r1, r2, r3, r4) := by first | (rw [hy143]; with_reducible exact H) | (have H2_ := (Option.bind_some _ _).symm.trans H; rw [hy143]; with_reducible exact H2_) | (have H2_ := (Option.bind_some _ _).symm.trans H; with_reducible exact H2_) | with_reducible exact H | (rw [hy143]; exact H) | exact H
                have Ny143 := Aside0.mk hy143
                clear hy143
                have H' := Aside0.mk H
                clear H
                have p132 : 0 ≤ (x8_1 : Int) := of_decide_eq_true (by first | (with_reducible assumption) | assumption)
                have q132 : x8_1 < (l2.length : Int) := of_decide_eq_true (by first | (with_reducible assumption) | assumption)
                obtain ⟨ad132, A132_3, c132_3, e132, hx132_0, hx132_1, hx132_2, hx132_3, hl132_3, hi132_3⟩ := at_T24 (Kd.V_reads' HO_2.out).2.2 x8_1 p132 q132
                cases e132
                obtain ⟨ce132, hce132, hMe132, hcc132⟩ := Kd.V_get HO_2.out z24 x8_1 p132 (by first | exact q132 | exact of_decide_eq_true (by first | (with_reducible assumption) | assumption) | (have e_ := (Kd.V_reads' HO_2.out).1; omega))
                obtain ⟨ua132_3, uc132_3, rfl, ul132_3, ge132_3⟩ := k24_openF hMe132
                have hv132_3 := hcc132 3 _ rfl
                rw [add_field _ _ 3 (by omega)] at hv132_3
                replace hv132_3 := Option.some.inj (hv132_3.symm.trans hx132_3)
                injection hv132_3 with hva_ hvn_ hvc_
                rw [hva_] at ge132_3
                rw [hvc_] at ul132_3
                have HL132_3 := Aside0.mk (show Kd.V k24 24 _ w.heap.size _ _ ((rd_T24 l2 x8_1).f3) from Kd.V_mk ul132_3 ge132_3)
                clear hva_ hvn_ hvc_ ge132_3 ul132_3
                clear hcc132 hce132
                have HR132_3 := Aside0.mk hi132_3
                have HC132_3 := Aside0.mk hl132_3
                clear hi132_3 hl132_3
                replace p132 := eq_true p132
                replace q132 := eq_true q132
                go_wp2_with (first | ((with_reducible refine gate_dst (N := 9) rfl ?_); refine box_event ?hg (N := 9) ?hd (cs := #[.int .i64 0, .int .i64 0, .int .i64 0, .slice none 0 0]) (t := 24) ?hr ?_; (case hd => rfl); (case hg => rfl); (case hr => first | (go_simp; done) | (go_simp; rfl)); intro gb133 hg w28 hbox hb; have n0_ := Aside0.mk (Kd.V_below (Kd.V_elderB (by (with_reducible repeat (first | apply Kd.V_alloc | apply Kd.V_drewN | apply Kd.V_drew)); exact HO_2.out) gb133 (Nat.le_of_eq hg.symm)) hb); have n1_ := Aside0.mk (Kd.N_below (Kd.N_elderB (by (with_reducible repeat (first | apply Kd.N_alloc | apply Kd.N_drewN | apply Kd.N_drew)); exact HO_7.out) gb133 (Nat.le_of_eq hg.symm)) hb); have n2_ := Aside0.mk (Kd.V_below (Kd.V_elderB (by (with_reducible repeat (first | apply Kd.V_alloc | apply Kd.V_drewN | apply Kd.V_drew)); exact HL132_3.out) gb133 (Nat.le_of_eq hg.symm)) hb); have n3_ := Aside0.mk (blk_below (g := gb128) (o := .cells #[.int .i64 x129000_1, .int .i64 x129001_1, .int .i64 x129002_1, .slice none 0 0] 24 (0, 0)) (by (with_reducible repeat (first | refine blk_drewN ?_ _ | refine blk_drew ?_ | refine blk_alloc ?_ _)); exact BK128.out) hb); have n4_ := Aside0.mk (Kd.C_below (by repeat (first | (with_reducible exact HR132_3.out) | (with_reducible refine Kd.C_alloc ?_ _) | (with_reducible refine Kd.C_drewN ?_ _) | (with_reducible refine Kd.C_drew ?_) | exact HR132_3.out)) hb); have n5_ := Aside0.mk (below_step (by repeat (first | (with_reducible first | exact HB.out | apply below_alloc | apply pw_below_drewN | apply below_drew1 | refine below_set ?_ GE128.out) | exact HB.out)) hb); have n6_ := Aside0.mk (hbox); have n7_ := Aside0.mk ((by rw [hg]; exact (below_size (by repeat (first | (with_reducible first | exact HB.out | apply below_alloc | apply pw_below_drewN | apply below_drew1 | refine below_set ?_ GE128.out) | exact HB.out))) : w.heap.size ≤ gb133)); have n8_ := Aside0.mk ((by rw [hg]; exact (below_size (by repeat (first | (with_reducible first | exact HB.out | apply below_alloc | apply pw_below_drewN | apply below_drew1 | refine below_set ?_ GE128.out) | exact HB.out))) : w.heap.size ≤ gb133)); have n9_ := Aside0.mk ((by rw [hg]; exact Nat.ne_of_lt (blk_lt (g := gb128) (o := .cells #[.int .i64 x129000_1, .int .i64 x129001_1, .int .i64 x129002_1, .slice none 0 0] 24 (0, 0)) (by (with_reducible repeat (first | refine blk_drewN ?_ _ | refine blk_drew ?_ | refine blk_alloc ?_ _)); exact BK128.out)) : gb128 ≠ gb133)); have n10_ := Aside0.mk ((by rw [hg]; exact Nat.ne_of_gt (blk_lt (g := gb128) (o := .cells #[.int .i64 x129000_1, .int .i64 x129001_1, .int .i64 x129002_1, .slice none 0 0] 24 (0, 0)) (by (with_reducible repeat (first | refine blk_drewN ?_ _ | refine blk_drew ?_ | refine blk_alloc ?_ _)); exact BK128.out)) : gb133 ≠ gb128)); clear HO_2; clear HO_7; clear HL132_3; clear BK128; clear HR132_3; clear HB; have HO_2 := n0_; have HO_7 := n1_; have HL132_3 := n2_; have BK128 := n3_; have HR132_3 := n4_; have HB := n5_; have BK133 := n6_; have GW133 := n7_; have GE133 := n8_; have NB128_133 := n9_; have NB133_128 := n10_; clear n0_ n1_ n2_ n3_ n4_ n5_ n6_ n7_ n8_ n9_ n10_; clear hb hbox hg; have hnb29 := NB133_128.out; have hnc29 := NB128_133.out; have hcz30_0 : w28.cell? ⟨gb133, 0, none⟩ = some (.int .i64 0) := (blk_cell BK133.out 0).trans rfl; have hcz30_1 : w28.cell? ⟨gb133, 1, none⟩ = some (.int .i64 0) := (blk_cell BK133.out 1).trans rfl; have hcz30_2 : w28.cell? ⟨gb133, 2, none⟩ = some (.int .i64 0) := (blk_cell BK133.out 2).trans rfl; have hcz30_3 : w28.cell? ⟨gb133, 3, none⟩ = some (.slice none 0 0) := (blk_cell BK133.out 3).trans rfl; have hfz30_0 := blk_frozen BK133.out 0; have hfz30_1 := blk_frozen BK133.out 1; have hfz30_2 := blk_frozen BK133.out 2; have hfz30_3 := blk_frozen BK133.out 3) | ((with_reducible refine gate_store (t := 24) (p := 9) rfl ?_); refine store_event (t := 24) (p := 9) (v := ?vo_w31) (w1 := ((((w28.setCell ⟨gb133, 0, none⟩ (.int .i64 ((rd_T24 l2 x8_1).f0))).setCell ⟨gb133, 1, none⟩ (.int .i64 ((rd_T24 l2 x8_1).f1))).setCell ⟨gb133, 2, none⟩ (.int .i64 ((rd_T24 l2 x8_1).f2))).setCell ⟨gb133, 3, none⟩ (.slice A132_3 ((rd_T24 l2 x8_1).f3).length c132_3))) ?hg ?ho ?hn ?hr ?_; (case ho => rfl); (case hg => rfl); (case hn => rfl); (case hr => first | (go_simp; done) | (go_simp; rfl)); intro w31 hw; have n0_ : Aside0 (Kd.V k24 24 w31 w.heap.size (fun k_ => (P2_ k_ ∨ w.heap.size ≤ k_) ∧ some k_ ≠ (u7 : Value).ownBlock ∧ k_ ≠ gb128 ∧ k_ ≠ gb133) (.slice (some ad132) l2.length c2) l2) := ⟨(by rw [hw]; exact (by (with_reducible repeat (first | apply Kd.V_alloc | apply Kd.V_drewN | apply Kd.V_drew)); exact Kd.V_mono (Kd.V_far (p := ⟨gb133, 3, none⟩) (Kd.V_far (p := ⟨gb133, 2, none⟩) (Kd.V_far (p := ⟨gb133, 1, none⟩) (Kd.V_far (p := ⟨gb133, 0, none⟩) (Kd.V_mono HO_2.out (fun k_ hk => (⟨hk, hk.2⟩ : _ ∧ k_ ≠ gb133))) (fun _ hk => hk.2) (.int .i64 ((rd_T24 l2 x8_1).f0))) (fun _ hk => hk.2) (.int .i64 ((rd_T24 l2 x8_1).f1))) (fun _ hk => hk.2) (.int .i64 ((rd_T24 l2 x8_1).f2))) (fun _ hk => hk.2) (.slice A132_3 ((rd_T24 l2 x8_1).f3).length c132_3)) (fun _ hk => ⟨hk.1.1.1, ⟨hk.1.1.2.1, ⟨hk.1.1.2.2, hk.1.2⟩⟩⟩)))⟩; have n1_ : Aside0 (Kd.N k24 24 w31 w.heap.size (fun k_ => (P2_ k_ ∨ w.heap.size ≤ k_) ∧ k_ ≠ gb128 ∧ k_ ≠ gb133) u7 x7_1) := ⟨(by rw [hw]; exact (by (with_reducible repeat (first | apply Kd.N_alloc | apply Kd.N_drewN | apply Kd.N_drew)); exact Kd.N_mono (Kd.N_far (p := ⟨gb133, 3, none⟩) (Kd.N_far (p := ⟨gb133, 2, none⟩) (Kd.N_far (p := ⟨gb133, 1, none⟩) (Kd.N_far (p := ⟨gb133, 0, none⟩) (Kd.N_mono HO_7.out (fun k_ hk => (⟨hk, hk.2⟩ : _ ∧ k_ ≠ gb133))) (fun _ hk => hk.2) (.int .i64 ((rd_T24 l2 x8_1).f0))) (fun _ hk => hk.2) (.int .i64 ((rd_T24 l2 x8_1).f1))) (fun _ hk => hk.2) (.int .i64 ((rd_T24 l2 x8_1).f2))) (fun _ hk => hk.2) (.slice A132_3 ((rd_T24 l2 x8_1).f3).length c132_3)) (fun _ hk => ⟨hk.1.1.1, ⟨hk.1.1.2, hk.1.2⟩⟩)))⟩; have n2_ : Aside0 (Kd.V k24 24 w31 w.heap.size (fun k_ => (P2_ k_ ∨ w.heap.size ≤ k_) ∧ some k_ ≠ (u7 : Value).ownBlock ∧ k_ ≠ gb128 ∧ k_ ≠ gb133) (.slice A132_3 ((rd_T24 l2 x8_1).f3).length c132_3) ((rd_T24 l2 x8_1).f3)) := ⟨(by rw [hw]; exact (by (with_reducible repeat (first | apply Kd.V_alloc | apply Kd.V_drewN | apply Kd.V_drew)); exact Kd.V_mono (Kd.V_far (p := ⟨gb133, 3, none⟩) (Kd.V_far (p := ⟨gb133, 2, none⟩) (Kd.V_far (p := ⟨gb133, 1, none⟩) (Kd.V_far (p := ⟨gb133, 0, none⟩) (Kd.V_mono HL132_3.out (fun k_ hk => (⟨hk, hk.2⟩ : _ ∧ k_ ≠ gb133))) (fun _ hk => hk.2) (.int .i64 ((rd_T24 l2 x8_1).f0))) (fun _ hk => hk.2) (.int .i64 ((rd_T24 l2 x8_1).f1))) (fun _ hk => hk.2) (.int .i64 ((rd_T24 l2 x8_1).f2))) (fun _ hk => hk.2) (.slice A132_3 ((rd_T24 l2 x8_1).f3).length c132_3)) (fun _ hk => ⟨hk.1.1.1, ⟨hk.1.1.2.1, ⟨hk.1.1.2.2, hk.1.2⟩⟩⟩)))⟩; have n3_ : Aside0 (w31.heap[gb128]? = some (.cells #[.int .i64 x129000_1, .int .i64 x129001_1, .int .i64 x129002_1, .slice none 0 0] 24 (0, 0))) := ⟨(by rw [hw]; exact (by (with_reducible repeat (first | refine blk_drewN ?_ _ | refine blk_drew ?_ | refine blk_alloc ?_ _)); refine blk_far ?_ NB128_133.out _; (with_reducible repeat (first | refine blk_drewN ?_ _ | refine blk_drew ?_ | refine blk_alloc ?_ _)); refine blk_far ?_ NB128_133.out _; (with_reducible repeat (first | refine blk_drewN ?_ _ | refine blk_drew ?_ | refine blk_alloc ?_ _)); refine blk_far ?_ NB128_133.out _; (with_reducible repeat (first | refine blk_drewN ?_ _ | refine blk_drew ?_ | refine blk_alloc ?_ _)); refine blk_far ?_ NB128_133.out _; (with_reducible repeat (first | refine blk_drewN ?_ _ | refine blk_drew ?_ | refine blk_alloc ?_ _)); exact BK128.out))⟩; have n4_ : Aside0 (w31.heap[gb133]? = some (.cells #[.int .i64 ((rd_T24 l2 x8_1).f0), .int .i64 ((rd_T24 l2 x8_1).f1), .int .i64 ((rd_T24 l2 x8_1).f2), .slice A132_3 ((rd_T24 l2 x8_1).f3).length c132_3] 24 (0, 0))) := ⟨(by rw [hw]; exact (by (with_reducible repeat (first | refine blk_drewN ?_ _ | refine blk_drew ?_ | refine blk_alloc ?_ _)); refine blk_put (cs := #[.int .i64 ((rd_T24 l2 x8_1).f0), .int .i64 ((rd_T24 l2 x8_1).f1), .int .i64 ((rd_T24 l2 x8_1).f2), .slice none 0 0]) ?_ 3 _ rfl; (with_reducible repeat (first | refine blk_drewN ?_ _ | refine blk_drew ?_ | refine blk_alloc ?_ _)); refine blk_put (cs := #[.int .i64 ((rd_T24 l2 x8_1).f0), .int .i64 ((rd_T24 l2 x8_1).f1), .int .i64 0, .slice none 0 0]) ?_ 2 _ rfl; (with_reducible repeat (first | refine blk_drewN ?_ _ | refine blk_drew ?_ | refine blk_alloc ?_ _)); refine blk_put (cs := #[.int .i64 ((rd_T24 l2 x8_1).f0), .int .i64 0, .int .i64 0, .slice none 0 0]) ?_ 1 _ rfl; (with_reducible repeat (first | refine blk_drewN ?_ _ | refine blk_drew ?_ | refine blk_alloc ?_ _)); refine blk_put (cs := #[.int .i64 0, .int .i64 0, .int .i64 0, .slice none 0 0]) ?_ 0 _ rfl; (with_reducible repeat (first | refine blk_drewN ?_ _ | refine blk_drew ?_ | refine blk_alloc ?_ _)); exact BK133.out))⟩; have n5_ : Aside0 (Below w.heap.size w w31) := ⟨(by rw [hw]; exact (by repeat (first | (with_reducible first | exact HB.out | apply below_alloc | apply pw_below_drewN | apply below_drew1 | refine below_set ?_ GE128.out | refine below_set ?_ GE133.out) | exact HB.out)))⟩; clear hw; clear HO_2; clear HO_7; clear HL132_3; clear BK128; clear BK133; clear HB; have HO_2 := n0_; have HO_7 := n1_; have HL132_3 := n2_; have BK128 := n3_; have BK133 := n4_; have HB := n5_; clear n0_ n1_ n2_ n3_ n4_ n5_; have hcz32_0 : w31.cell? ⟨gb133, 0, none⟩ = some (.int .i64 ((rd_T24 l2 x8_1).f0)) := (blk_cell BK133.out 0).trans rfl; have hcz32_1 : w31.cell? ⟨gb133, 1, none⟩ = some (.int .i64 ((rd_T24 l2 x8_1).f1)) := (blk_cell BK133.out 1).trans rfl; have hcz32_2 : w31.cell? ⟨gb133, 2, none⟩ = some (.int .i64 ((rd_T24 l2 x8_1).f2)) := (blk_cell BK133.out 2).trans rfl; have hcz32_3 : w31.cell? ⟨gb133, 3, none⟩ = some (.slice A132_3 ((rd_T24 l2 x8_1).f3).length c132_3) := (blk_cell BK133.out 3).trans rfl; have hfz32_0 := blk_frozen BK133.out 0; have hfz32_1 := blk_frozen BK133.out 1; have hfz32_2 := blk_frozen BK133.out 2; have hfz32_3 := blk_frozen BK133.out 3) | ((with_reducible refine gate_builtin (b := .append) (xs := #[.tmp 32, .tmp 34]) rfl ?_); at_builtin; refine Kd.N_append k24 (w0 := w) w.heap.size rfl (.tmp 32) (.tmp 34) 22 24 (.agg #[(.int .i64 0), (.int .i64 0), (.int .i64 0), (.slice none 0 0)]) 48 rfl Tryd.underlying22 info24 rfl (by decide) (by omega) u7 x7_1 (⟨(rd_T24 l2 x8_1).f0, (rd_T24 l2 x8_1).f1, (rd_T24 l2 x8_1).f2, (rd_T24 l2 x8_1).f3⟩ : S24) [.int .i64 ((rd_T24 l2 x8_1).f0), .int .i64 ((rd_T24 l2 x8_1).f1), .int .i64 ((rd_T24 l2 x8_1).f2), .slice A132_3 ((rd_T24 l2 x8_1).f3).length c132_3] (fun k_ => (P2_ k_ ∨ w.heap.size ≤ k_) ∧ k_ ≠ gb128 ∧ k_ ≠ gb133) (fun k_ => ((fun k_ => (P2_ k_ ∨ w.heap.size ≤ k_) ∧ k_ ≠ gb128 ∧ k_ ≠ gb133)) k_ ∧ some k_ ≠ (u7 : Value).ownBlock) rfl rfl ?aP (fun _ hk => hk) ?aF ?aO ?aB ?aS ?aL ?_; (case aP => exact (k24_mkF _ _ (⟨(rd_T24 l2 x8_1).f0, (rd_T24 l2 x8_1).f1, (rd_T24 l2 x8_1).f2, (rd_T24 l2 x8_1).f3⟩ : S24) (Kd.V_reads' (Kd.V_mono (ok' := (fun k_ => ((fun k_ => (P2_ k_ ∨ w.heap.size ≤ k_) ∧ k_ ≠ gb128 ∧ k_ ≠ gb133)) k_ ∧ some k_ ≠ (u7 : Value).ownBlock)) (HL132_3.out) (fun k_ hk => ⟨⟨hk.1, ⟨hk.2.2.1, hk.2.2.2⟩⟩, hk.2.1⟩))).2.1 (Kd.V_F (Kd.V_mono (ok' := (fun k_ => ((fun k_ => (P2_ k_ ∨ w.heap.size ≤ k_) ∧ k_ ≠ gb128 ∧ k_ ≠ gb133)) k_ ∧ some k_ ≠ (u7 : Value).ownBlock)) (HL132_3.out) (fun k_ hk => ⟨⟨hk.1, ⟨hk.2.2.1, hk.2.2.2⟩⟩, hk.2.1⟩))))); (case aB => exact (by repeat (first | (with_reducible first | exact HB.out | apply below_alloc | apply pw_below_drewN | apply below_drew1 | refine below_set ?_ GE128.out | refine below_set ?_ GE133.out) | exact HB.out))); (case aF => exact (fun k_ hk => ⟨(.inr (Nat.le_trans (below_size (by repeat (first | (with_reducible first | exact HB.out | apply below_alloc | apply pw_below_drewN | apply below_drew1 | refine below_set ?_ GE128.out | refine below_set ?_ GE133.out) | exact HB.out))) hk)), Kd.freshB (g := gb128) (o := .cells #[.int .i64 x129000_1, .int .i64 x129001_1, .int .i64 x129002_1, .slice none 0 0] 24 (0, 0)) (by (with_reducible repeat (first | refine blk_drewN ?_ _ | refine blk_drew ?_ | refine blk_alloc ?_ _)); exact BK128.out) k_ hk, Kd.freshB (g := gb133) (o := .cells #[.int .i64 ((rd_T24 l2 x8_1).f0), .int .i64 ((rd_T24 l2 x8_1).f1), .int .i64 ((rd_T24 l2 x8_1).f2), .slice A132_3 ((rd_T24 l2 x8_1).f3).length c132_3] 24 (0, 0)) (by (with_reducible repeat (first | refine blk_drewN ?_ _ | refine blk_drew ?_ | refine blk_alloc ?_ _)); exact BK133.out) k_ hk⟩)); (case aO => exact (by (with_reducible repeat (first | apply Kd.N_alloc | apply Kd.N_drewN | apply Kd.N_drew)); exact HO_7.out)); (case aS => exact (below_size (by repeat (first | (with_reducible first | exact HB.out | apply below_alloc | apply pw_below_drewN | apply below_drew1 | refine below_set ?_ GE128.out | refine below_set ?_ GE133.out) | exact HB.out)))); (case aL => have := LMc27.out; omega); intro v144 w33 ho hb hg hat; rw [← Ny143.out] at ho; have n0_ := Aside0.mk (Kd.V_afterv (ok := (fun k_ => (P2_ k_ ∨ w.heap.size ≤ k_) ∧ k_ ≠ gb128 ∧ k_ ≠ gb133)) (by (with_reducible repeat (first | apply Kd.V_alloc | apply Kd.V_drewN | apply Kd.V_drew)); exact Kd.V_mono HO_2.out (fun _ hk => ⟨⟨hk.1, ⟨hk.2.2.1, hk.2.2.2⟩⟩, hk.2.1⟩)) hg hat); have n1_ := Aside0.mk (blk_grown (g := gb128) (o := .cells #[.int .i64 x129000_1, .int .i64 x129001_1, .int .i64 x129002_1, .slice none 0 0] 24 (0, 0)) (by (with_reducible repeat (first | refine blk_drewN ?_ _ | refine blk_drew ?_ | refine blk_alloc ?_ _)); exact BK128.out) hg (Kd.N_away HO_7.out (fun _ hk => hk.2.1))); have n2_ := Aside0.mk (Kd.V_afterv (ok := (fun k_ => (P2_ k_ ∨ w.heap.size ≤ k_) ∧ k_ ≠ gb128 ∧ k_ ≠ gb133)) (by (with_reducible repeat (first | apply Kd.V_alloc | apply Kd.V_drewN | apply Kd.V_drew)); exact Kd.V_mono HL132_3.out (fun _ hk => ⟨⟨hk.1, ⟨hk.2.2.1, hk.2.2.2⟩⟩, hk.2.1⟩)) hg hat); have n3_ := Aside0.mk (blk_grown (g := gb133) (o := .cells #[.int .i64 ((rd_T24 l2 x8_1).f0), .int .i64 ((rd_T24 l2 x8_1).f1), .int .i64 ((rd_T24 l2 x8_1).f2), .slice A132_3 ((rd_T24 l2 x8_1).f3).length c132_3] 24 (0, 0)) (by (with_reducible repeat (first | refine blk_drewN ?_ _ | refine blk_drew ?_ | refine blk_alloc ?_ _)); exact BK133.out) hg (Kd.N_away HO_7.out (fun _ hk => hk.2.2))); have n4_ := Aside0.mk (hb); have n5_ := Aside0.mk (ho); clear HO_2; clear BK128; clear HL132_3; clear BK133; clear HB; clear HO_7; have HO_2 := n0_; have BK128 := n1_; have HL132_3 := n2_; have BK133 := n3_; have HB := n4_; have HO145 := n5_; clear n0_ n1_ n2_ n3_ n4_ n5_; clear ho hb hg hat))
                go_roundg k1
                case measure => have := HK1.out; omega
                case rel => exact ⟨(y143), (wrap64 (x8_1 + 1)), (x129000_1), (x129001_1), (x129002_1), (by first | rfl | (simp; done) | (simp [*]; done)), H', ⟨by have := HK1.out; omega⟩, ⟨by (with_reducible repeat (first | apply Kd.V_alloc | apply Kd.V_drewN | apply Kd.V_drew)); exact Kd.V_mono HO_2.out (fun _ hk => ⟨hk.1.1, ⟨hk.2, hk.1.2.1⟩⟩)⟩, ⟨by (with_reducible repeat (first | apply Kd.N_alloc | apply Kd.N_drewN | apply Kd.N_drew)); exact Kd.N_mono HO145.out (fun _ hk => ⟨hk.1, hk.2.1⟩)⟩, ⟨by (with_reducible repeat (first | refine blk_drewN ?_ _ | refine blk_drew ?_ | refine blk_alloc ?_ _)); exact BK128.out⟩, ⟨by repeat (first | (with_reducible first | exact HB.out | apply below_alloc | apply pw_below_drewN | apply below_drew1 | refine below_set ?_ GE128.out | refine below_set ?_ GE133.out) | exact HB.out)⟩⟩
              · rw [if_neg c27] at H
                exact absurd H (by simp)
        · rw [if_neg c8] at H
          exact absurd H (by simp)
      · rw [if_neg c7] at H
        have c7b0 : decide (x8_1 < (l2.length : Int)) = false := decide_eq_false c7
        clear c7
        by_cases c34 : (x7_1.length : Int) = 0
        · rw [if_pos c34] at H
          have c34b0 : ((x7_1.length : Int) == 0) = true := beq_iff_eq.mpr c34
          have c34b1 : ((x7_1.length : Int) != 0) = false := bne_eq_false_iff_eq.mpr c34
          clear c34
          replace H := Option.bind_eq_some_iff.mp H
          obtain ⟨⟨t146, t147, t148, t149⟩, A350, H⟩ := H
          replace H : (some (t146, t147, t148, t149)) = some (r1, r2, r3, r4) := H
          have A35 := Aside0.mk A350
          clear A350
          simp only [Option.some.injEq, Prod.mk.injEq] at H
          obtain ⟨rfl, rfl, rfl, rfl⟩ := H
          obtain ⟨Ao36, co36, eo36⟩ := Kd.N_slice HO_7.out
          subst eo36
          go_wp2_with (first | ((with_reducible refine gate_callee (f := 48) rfl ?_); refine goesL_ (some 47) rfl rfl Tryd.func48 (by kernel_rfl) rfl #[.int .i64 a1] rfl (by (try simp only [List.map_toArray, List.map_cons, List.map_nil]); first | done | rfl | (simp only [List.length_drop, List.length_take]; rfl)) ?_; (with_reducible refine (chalklineref11_constant.calls a1 t146 t147 t148 t149 _ A35.out).mono ?_); rintro e w37 ⟨v150, rfl, ho0, hb⟩; refine ⟨_, rfl, ?_⟩; have n0_ := Aside0.mk (Kd.V_elder' (by (with_reducible repeat (first | apply Kd.V_alloc | apply Kd.V_drewN | apply Kd.V_drew)); exact HO_2.out) (Kd.N_base (Kd.R_N ho0)) hb); have n1_ := Aside0.mk (Kd.N_elder' (by (with_reducible repeat (first | apply Kd.N_alloc | apply Kd.N_drewN | apply Kd.N_drew)); exact HO_7.out) (Kd.N_base (Kd.R_N ho0)) hb); have n2_ := Aside0.mk (Kd.N_lower (Kd.N_mono (ok' := fun k_ => (P2_ k_ ∨ w.heap.size ≤ k_) ∧ some k_ ≠ (.slice Ao36 x7_1.length co36 : Value).ownBlock ∧ k_ ≠ gb128) (Kd.R_N (Kd.R_bound ho0)) (fun k_ hk_ => ⟨(.inr (Nat.le_trans (below_size (by repeat (first | (with_reducible first | exact HB.out | apply below_alloc | apply pw_below_drewN | apply below_drew1 | refine below_set ?_ GE128.out) | exact HB.out))) hk_.2.1)), (Kd.fresh' (Kd.N_lt (by (with_reducible repeat (first | apply Kd.N_alloc | apply Kd.N_drewN | apply Kd.N_drew)); exact HO_7.out)) k_ hk_.2.1), (Kd.freshB (g := gb128) (o := .cells #[.int .i64 x129000_1, .int .i64 x129001_1, .int .i64 x129002_1, .slice none 0 0] 24 (0, 0)) (by (with_reducible repeat (first | refine blk_drewN ?_ _ | refine blk_drew ?_ | refine blk_alloc ?_ _)); exact BK128.out) k_ hk_.2.1)⟩)) (below_size (by repeat (first | (with_reducible first | exact HB.out | apply below_alloc | apply pw_below_drewN | apply below_drew1 | refine below_set ?_ GE128.out) | exact HB.out)))); have n3_ := Aside0.mk (blk_below (g := gb128) (o := .cells #[.int .i64 x129000_1, .int .i64 x129001_1, .int .i64 x129002_1, .slice none 0 0] 24 (0, 0)) (by (with_reducible repeat (first | refine blk_drewN ?_ _ | refine blk_drew ?_ | refine blk_alloc ?_ _)); exact BK128.out) hb); have n4_ := Aside0.mk (below_step (by repeat (first | (with_reducible first | exact HB.out | apply below_alloc | apply pw_below_drewN | apply below_drew1 | refine below_set ?_ GE128.out) | exact HB.out)) hb); clear HO_2; clear HO_7; clear BK128; clear HB; have HO_2 := n0_; have HO_7 := n1_; have HO151 := n2_; have BK128 := n3_; have HB := n4_; clear n0_ n1_ n2_ n3_ n4_; (try clear hb); (try clear hb2); (try clear hk); (try clear hi); (try clear ho0); have hcz38_0 : w37.cell? ⟨gb128, 0, none⟩ = some (.int .i64 x129000_1) := (blk_cell BK128.out 0).trans rfl; have hcz38_1 : w37.cell? ⟨gb128, 1, none⟩ = some (.int .i64 x129001_1) := (blk_cell BK128.out 1).trans rfl; have hcz38_2 : w37.cell? ⟨gb128, 2, none⟩ = some (.int .i64 x129002_1) := (blk_cell BK128.out 2).trans rfl; have hcz38_3 : w37.cell? ⟨gb128, 3, none⟩ = some (.slice none 0 0) := (blk_cell BK128.out 3).trans rfl; have hfz38_0 := blk_frozen BK128.out 0; have hfz38_1 := blk_frozen BK128.out 1; have hfz38_2 := blk_frozen BK128.out 2; have hfz38_3 := blk_frozen BK128.out 3; obtain ⟨Ao39, co39, eo39⟩ := Kd.N_slice HO151.out; subst eo39))
          refine bodyPost_ret (results_cell_row rfl _ _ gb128 24 #[.int .i64 t146, .int .i64 t147, .int .i64 t148, .slice Ao39 t149.length co39] (0, 0) _ rfl (by (with_reducible repeat (first | refine blk_drewN ?_ _ | refine blk_drew ?_ | refine blk_alloc ?_ _)); refine blk_put (cs := #[.int .i64 t146, .int .i64 t147, .int .i64 t148, .slice none 0 0]) ?_ 3 _ rfl; (with_reducible repeat (first | refine blk_drewN ?_ _ | refine blk_drew ?_ | refine blk_alloc ?_ _)); refine blk_put (cs := #[.int .i64 t146, .int .i64 t147, .int .i64 x129002_1, .slice none 0 0]) ?_ 2 _ rfl; (with_reducible repeat (first | refine blk_drewN ?_ _ | refine blk_drew ?_ | refine blk_alloc ?_ _)); refine blk_put (cs := #[.int .i64 t146, .int .i64 x129001_1, .int .i64 x129002_1, .slice none 0 0]) ?_ 1 _ rfl; (with_reducible repeat (first | refine blk_drewN ?_ _ | refine blk_drew ?_ | refine blk_alloc ?_ _)); refine blk_put (cs := #[.int .i64 x129000_1, .int .i64 x129001_1, .int .i64 x129002_1, .slice none 0 0]) ?_ 0 _ rfl; (with_reducible repeat (first | refine blk_drewN ?_ _ | refine blk_drew ?_ | refine blk_alloc ?_ _)); exact BK128.out) Tryd.underlying24 rfl (by kernel_rfl)) rfl ?_
          exact ⟨_, by first | rfl | (simp [errW_none, errW_some] <;> rfl) | (simp [*, errW_none, errW_some] <;> rfl), Kd.N_V (by (with_reducible repeat (first | apply Kd.N_alloc | apply Kd.N_drewN | apply Kd.N_drew)); exact Kd.N_mono (Kd.N_far (p := ⟨gb128, 3, none⟩) (Kd.N_far (p := ⟨gb128, 2, none⟩) (Kd.N_far (p := ⟨gb128, 1, none⟩) (Kd.N_far (p := ⟨gb128, 0, none⟩) (Kd.N_mono HO151.out (fun k_ hk => (⟨hk, hk.2.2⟩ : _ ∧ k_ ≠ gb128))) (fun _ hk => hk.2) (.int .i64 t146)) (fun _ hk => hk.2) (.int .i64 t147)) (fun _ hk => hk.2) (.int .i64 t148)) (fun _ hk => hk.2) (.slice Ao39 t149.length co39)) (fun _ hk => hk.1.1)), by repeat (first | (with_reducible first | exact HB.out | apply below_alloc | apply pw_below_drewN | apply below_drew1 | refine below_set ?_ GE128.out) | exact HB.out)⟩
        · rw [if_neg c34] at H
          have c34b0 : ((x7_1.length : Int) == 0) = false := beq_eq_false_iff_ne.mpr c34
          have c34b1 : ((x7_1.length : Int) != 0) = true := bne_iff_ne.mpr c34
          have c34b2 : ¬ (x7_1 = []) := fun h_ => c34 (by rw [h_]; rfl)
          by_cases c40 : (x7_1.length : Int) = 1
          · rw [if_pos c40] at H
            have c40b0 : ((x7_1.length : Int) == 1) = true := beq_iff_eq.mpr c40
            have c40b1 : ((x7_1.length : Int) != 1) = false := bne_eq_false_iff_eq.mpr c40
            clear c40
            by_cases c41 : 0 < (x7_1.length : Int)
            · rw [if_pos c41] at H
              have c41b0 : decide (0 < (x7_1.length : Int)) = true := decide_eq_true c41
              have c41b1 : decide (0 < x7_1.length) = true := decide_eq_true (by omega)
              clear c41
              simp only [Option.some.injEq, Prod.mk.injEq] at H
              obtain ⟨rfl, rfl, rfl, rfl⟩ := H
              obtain ⟨Ao42, co42, eo42⟩ := Kd.N_slice HO_7.out
              subst eo42
              have p152 : 0 ≤ (0 : Int) := (by omega)
              have q152 : 0 < (x7_1.length : Int) := of_decide_eq_true (by first | (with_reducible assumption) | assumption)
              obtain ⟨ad152, A152_3, c152_3, e152, hx152_0, hx152_1, hx152_2, hx152_3, hl152_3, hi152_3⟩ := at_T24 (Kd.N_reads' HO_7.out).2.2 0 p152 q152
              cases e152
              obtain ⟨ce152, hce152, hMe152, hcc152⟩ := Kd.N_get HO_7.out z24 0 p152 (by first | exact q152 | exact of_decide_eq_true (by first | (with_reducible assumption) | assumption) | (have e_ := (Kd.N_reads' HO_7.out).1; omega))
              obtain ⟨ua152_3, uc152_3, rfl, ul152_3, ge152_3⟩ := k24_openF hMe152
              have hv152_3 := hcc152 3 _ rfl
              rw [add_field _ _ 3 (by omega)] at hv152_3
              replace hv152_3 := Option.some.inj (hv152_3.symm.trans hx152_3)
              injection hv152_3 with hva_ hvn_ hvc_
              rw [hva_] at ge152_3
              rw [hvc_] at ul152_3
              have HL152_3 := Aside0.mk (show Kd.V k24 24 _ w.heap.size _ _ ((rd_T24 x7_1 0).f3) from Kd.V_mk ul152_3 ge152_3)
              clear hva_ hvn_ hvc_ ge152_3 ul152_3
              clear hcc152 hce152
              have qi152 : (0 < x7_1.length) = True := eq_true (by omega)
              (try rw [show ((0 : Int)).toNat = 0 from rfl] at hx152_0)
              (try rw [show 0 * 4 = 0 from rfl] at hx152_0)
              (try rw [Addr.add_zero'] at hx152_0)
              (try rw [show ((0 : Int)).toNat = 0 from rfl] at hx152_1)
              (try rw [show 0 * 4 = 0 from rfl] at hx152_1)
              (try rw [Addr.add_zero'] at hx152_1)
              (try rw [show ((0 : Int)).toNat = 0 from rfl] at hx152_2)
              (try rw [show 0 * 4 = 0 from rfl] at hx152_2)
              (try rw [Addr.add_zero'] at hx152_2)
              (try rw [show ((0 : Int)).toNat = 0 from rfl] at hx152_3)
              (try rw [show 0 * 4 = 0 from rfl] at hx152_3)
              (try rw [Addr.add_zero'] at hx152_3)
              have HR152_3 := Aside0.mk hi152_3
              have HC152_3 := Aside0.mk hl152_3
              clear hi152_3 hl152_3
              replace p152 := eq_true p152
              replace q152 := eq_true q152
              have hcz43_0 : wr.cell? ⟨gb128, 0, none⟩ = some (.int .i64 x129000_1) := (blk_cell BK128.out 0).trans rfl
              have hcz43_1 : wr.cell? ⟨gb128, 1, none⟩ = some (.int .i64 x129001_1) := (blk_cell BK128.out 1).trans rfl
              have hcz43_2 : wr.cell? ⟨gb128, 2, none⟩ = some (.int .i64 x129002_1) := (blk_cell BK128.out 2).trans rfl
              have hcz43_3 : wr.cell? ⟨gb128, 3, none⟩ = some (.slice none 0 0) := (blk_cell BK128.out 3).trans rfl
              have hfz43_0 := blk_frozen BK128.out 0
              have hfz43_1 := blk_frozen BK128.out 1
              have hfz43_2 := blk_frozen BK128.out 2
              have hfz43_3 := blk_frozen BK128.out 3
              go_wp2
              refine bodyPost_ret (results_cell_row rfl _ _ gb128 24 #[.int .i64 ((rd_T24 x7_1 0).f0), .int .i64 ((rd_T24 x7_1 0).f1), .int .i64 ((rd_T24 x7_1 0).f2), .slice A152_3 ((rd_T24 x7_1 0).f3).length c152_3] (0, 0) _ rfl (by (with_reducible repeat (first | refine blk_drewN ?_ _ | refine blk_drew ?_ | refine blk_alloc ?_ _)); refine blk_put (cs := #[.int .i64 ((rd_T24 x7_1 0).f0), .int .i64 ((rd_T24 x7_1 0).f1), .int .i64 ((rd_T24 x7_1 0).f2), .slice none 0 0]) ?_ 3 _ rfl; (with_reducible repeat (first | refine blk_drewN ?_ _ | refine blk_drew ?_ | refine blk_alloc ?_ _)); refine blk_put (cs := #[.int .i64 ((rd_T24 x7_1 0).f0), .int .i64 ((rd_T24 x7_1 0).f1), .int .i64 x129002_1, .slice none 0 0]) ?_ 2 _ rfl; (with_reducible repeat (first | refine blk_drewN ?_ _ | refine blk_drew ?_ | refine blk_alloc ?_ _)); refine blk_put (cs := #[.int .i64 ((rd_T24 x7_1 0).f0), .int .i64 x129001_1, .int .i64 x129002_1, .slice none 0 0]) ?_ 1 _ rfl; (with_reducible repeat (first | refine blk_drewN ?_ _ | refine blk_drew ?_ | refine blk_alloc ?_ _)); refine blk_put (cs := #[.int .i64 x129000_1, .int .i64 x129001_1, .int .i64 x129002_1, .slice none 0 0]) ?_ 0 _ rfl; (with_reducible repeat (first | refine blk_drewN ?_ _ | refine blk_drew ?_ | refine blk_alloc ?_ _)); exact BK128.out) Tryd.underlying24 rfl (by kernel_rfl)) rfl ?_
              exact ⟨_, by first | rfl | (simp [errW_none, errW_some] <;> rfl) | (simp [*, errW_none, errW_some] <;> rfl), by (with_reducible repeat (first | apply Kd.V_alloc | apply Kd.V_drewN | apply Kd.V_drew)); exact Kd.V_mono (Kd.V_far (p := ⟨gb128, 3, none⟩) (Kd.V_far (p := ⟨gb128, 2, none⟩) (Kd.V_far (p := ⟨gb128, 1, none⟩) (Kd.V_far (p := ⟨gb128, 0, none⟩) (Kd.V_mono HL152_3.out (fun k_ hk => (⟨hk, hk.1.2⟩ : _ ∧ k_ ≠ gb128))) (fun _ hk => hk.2) (.int .i64 ((rd_T24 x7_1 0).f0))) (fun _ hk => hk.2) (.int .i64 ((rd_T24 x7_1 0).f1))) (fun _ hk => hk.2) (.int .i64 ((rd_T24 x7_1 0).f2))) (fun _ hk => hk.2) (.slice A152_3 ((rd_T24 x7_1 0).f3).length c152_3)) (fun _ hk => hk.1.1.1), by repeat (first | (with_reducible first | exact HB.out | apply below_alloc | apply pw_below_drewN | apply below_drew1 | refine below_set ?_ GE128.out) | exact HB.out)⟩
            · rw [if_neg c41] at H
              exact absurd H (by simp)
          · rw [if_neg c40] at H
            have c40b0 : ((x7_1.length : Int) == 1) = false := beq_eq_false_iff_ne.mpr c40
            have c40b1 : ((x7_1.length : Int) != 1) = true := bne_iff_ne.mpr c40
            simp only [Option.some.injEq, Prod.mk.injEq] at H
            obtain ⟨rfl, rfl, rfl, rfl⟩ := H
            obtain ⟨Ao44, co44, eo44⟩ := Kd.N_slice HO_7.out
            subst eo44
            have hcz45_0 : wr.cell? ⟨gb128, 0, none⟩ = some (.int .i64 x129000_1) := (blk_cell BK128.out 0).trans rfl
            have hcz45_1 : wr.cell? ⟨gb128, 1, none⟩ = some (.int .i64 x129001_1) := (blk_cell BK128.out 1).trans rfl
            have hcz45_2 : wr.cell? ⟨gb128, 2, none⟩ = some (.int .i64 x129002_1) := (blk_cell BK128.out 2).trans rfl
            have hcz45_3 : wr.cell? ⟨gb128, 3, none⟩ = some (.slice none 0 0) := (blk_cell BK128.out 3).trans rfl
            have hfz45_0 := blk_frozen BK128.out 0
            have hfz45_1 := blk_frozen BK128.out 1
            have hfz45_2 := blk_frozen BK128.out 2
            have hfz45_3 := blk_frozen BK128.out 3
            go_wp2
            refine bodyPost_ret (results_cell_row rfl _ _ gb128 24 #[.int .i64 a0, .int .i64 0, .int .i64 0, .slice Ao44 x7_1.length co44] (0, 0) _ rfl (by (with_reducible repeat (first | refine blk_drewN ?_ _ | refine blk_drew ?_ | refine blk_alloc ?_ _)); refine blk_put (cs := #[.int .i64 a0, .int .i64 0, .int .i64 0, .slice none 0 0]) ?_ 3 _ rfl; (with_reducible repeat (first | refine blk_drewN ?_ _ | refine blk_drew ?_ | refine blk_alloc ?_ _)); refine blk_put (cs := #[.int .i64 a0, .int .i64 0, .int .i64 x129002_1, .slice none 0 0]) ?_ 2 _ rfl; (with_reducible repeat (first | refine blk_drewN ?_ _ | refine blk_drew ?_ | refine blk_alloc ?_ _)); refine blk_put (cs := #[.int .i64 a0, .int .i64 x129001_1, .int .i64 x129002_1, .slice none 0 0]) ?_ 1 _ rfl; (with_reducible repeat (first | refine blk_drewN ?_ _ | refine blk_drew ?_ | refine blk_alloc ?_ _)); refine blk_put (cs := #[.int .i64 x129000_1, .int .i64 x129001_1, .int .i64 x129002_1, .slice none 0 0]) ?_ 0 _ rfl; (with_reducible repeat (first | refine blk_drewN ?_ _ | refine blk_drew ?_ | refine blk_alloc ?_ _)); exact BK128.out) Tryd.underlying24 rfl (by kernel_rfl)) rfl ?_
            exact ⟨_, by first | rfl | (simp [errW_none, errW_some] <;> rfl) | (simp [*, errW_none, errW_some] <;> rfl), Kd.N_V (by (with_reducible repeat (first | apply Kd.N_alloc | apply Kd.N_drewN | apply Kd.N_drew)); exact Kd.N_mono (Kd.N_far (p := ⟨gb128, 3, none⟩) (Kd.N_far (p := ⟨gb128, 2, none⟩) (Kd.N_far (p := ⟨gb128, 1, none⟩) (Kd.N_far (p := ⟨gb128, 0, none⟩) (Kd.N_mono HO_7.out (fun k_ hk => (⟨hk, hk.2⟩ : _ ∧ k_ ≠ gb128))) (fun _ hk => hk.2) (.int .i64 a0)) (fun _ hk => hk.2) (.int .i64 0)) (fun _ hk => hk.2) (.int .i64 0)) (fun _ hk => hk.2) (.slice Ao44 x7_1.length co44)) (fun _ hk => hk.1.1)), by repeat (first | (with_reducible first | exact HB.out | apply below_alloc | apply pw_below_drewN | apply below_drew1 | refine below_set ?_ GE128.out) | exact HB.out)⟩

/-! ### chalklineref11_least: function 50 -/
def chalklineref11_least.l0 : Nat → Int → List (S24) → List (S24) → Int → Option (Int × Int × Int × (List (S24)))
  | 0, _, _, _, _ => none
  | k + 1, x0, x1, x5, x6 => if x6 < (x1.length : Int) then (if 0 ≤ x6 then (if ((rd_T24 x1 x6).f0) = 1 then (if ((rd_T24 x1 x6).f1) = 1 then (chalklineref11_least.l0 k (wrap64 (x0 - 1)) x1 x5 (wrap64 (x6 + 1))) else (chalklineref11_least.l0 k x0 x1 x5 (wrap64 (x6 + 1)))) else (if x5.length < 2932031007402 then (chalklineref11_least.l0 k x0 x1 (x5 ++ [(⟨(rd_T24 x1 x6).f0, (rd_T24 x1 x6).f1, (rd_T24 x1 x6).f2, (rd_T24 x1 x6).f3⟩ : S24)]) (wrap64 (x6 + 1))) else (none))) else (none)) else (if x0 ≤ 0 then ((chalklineref11_constant.f 1).bind fun bt163 => (some (bt163.1, bt163.2.1, bt163.2.2.1, bt163.2.2.2))) else (if x0 > (x5.length : Int) then ((chalklineref11_constant.f 0).bind fun bt169 => (some (bt169.1, bt169.2.1, bt169.2.2.1, bt169.2.2.2))) else (if x0 = (x5.length : Int) then ((chalklineref11_joined.f k 4 1 x5).bind fun bt175 => (some (bt175.1, bt175.2.1, bt175.2.2.1, bt175.2.2.2))) else (if x0 = 1 then ((chalklineref11_joined.f k 5 0 x5).bind fun bt181 => (some (bt181.1, bt181.2.1, bt181.2.2.1, bt181.2.2.2))) else (some (6, 0, x0, x5))))))
def chalklineref11_least.f (k : Nat) (a0 : Int) (l1 : List (S24)) : Option (Int × Int × Int × (List (S24))) := chalklineref11_least.l0 k a0 l1 (([] : List (S24))) 0
theorem chalklineref11_least.mono_l : ∀ k, (∀ y0 y1 y2 y3, LeO (chalklineref11_least.l0 k y0 y1 y2 y3) (chalklineref11_least.l0 (k + 1) y0 y1 y2 y3))
  | 0 => fun _ _ _ _ r h => by simp [chalklineref11_least.l0] at h
  | k + 1 => by
    have ih0 := chalklineref11_least.mono_l k
    · intro y0 y1 y2 y3
      unfold chalklineref11_least.l0
      repeat' first
      | (with_reducible exact ih0 _ _ _ _)
      | (with_reducible exact chalklineref11_joined.mono _ _ _ _)
      | (with_reducible exact LeO.refl _)
      | (with_reducible exact LeO.none _)
      | (with_reducible refine LeO.ite ?_ ?_)
      | (with_reducible refine LeO.bind ?_ (fun _ => ?_))
      | exact ih0 _ _ _ _
      | exact chalklineref11_joined.mono _ _ _ _
      | exact LeO.none _
      | refine LeO.ite ?_ ?_
      | refine LeO.bind ?_ (fun _ => ?_)
theorem chalklineref11_least.mono : ∀ a0 a1 k, LeO (chalklineref11_least.f k a0 a1) (chalklineref11_least.f (k + 1) a0 a1) := by
  intro a0 a1 k
  have ih0 := chalklineref11_least.mono_l k
  unfold chalklineref11_least.f
  repeat' first
      | (with_reducible exact ih0 _ _ _ _)
      | (with_reducible exact chalklineref11_joined.mono _ _ _ _)
      | (with_reducible exact LeO.refl _)
      | (with_reducible exact LeO.none _)
      | (with_reducible refine LeO.ite ?_ ?_)
      | (with_reducible refine LeO.bind ?_ (fun _ => ?_))
      | exact ih0 _ _ _ _
      | exact chalklineref11_joined.mono _ _ _ _
      | exact LeO.none _
      | refine LeO.ite ?_ ?_
      | refine LeO.bind ?_ (fun _ => ?_)
set_option maxHeartbeats 8000000 in
set_option maxRecDepth 100000 in
theorem chalklineref11_least.calls (k : Nat) (a0 : Int) (P1_ : Nat → Prop) (A1 : Option Addr) (c1 : Nat) (l1 : List (S24)) (r1 : Int) (r2 : Int) (r3 : Int) (r4 : List (S24)) (w : World) (hs1 : Kd.V k24 24 w w.heap.size (fun k_ => P1_ k_) (.slice A1 l1.length c1) l1) (h : chalklineref11_least.f k a0 l1 = some (r1, r2, r3, r4)) :
    Calls Tryd.prog 50 #[.int .i64 a0, .slice A1 l1.length c1] w fun e w' => ∃ v3_ : Value, e = .returned (.agg #[.int .i64 r1, .int .i64 r2, .int .i64 r3, v3_]) ∧ Kd.V k24 24 w' w.heap.size (fun k_ => (P1_ k_ ∨ w.heap.size ≤ k_)) v3_ r4 ∧ Below w.heap.size w w' := by
  have hu24 := Tryd.underlying24
  have HO1 := Aside0.mk (show Kd.V k24 24 w w.heap.size (fun k_ => (P1_ k_ ∨ w.heap.size ≤ k_)) (.slice A1 l1.length c1) l1 from Kd.V_mono hs1 (fun k_ hk => .inl hk))
  have HB := Aside0.mk (Below.refl w.heap.size w)
  have H : (chalklineref11_least.l0 k a0 l1 (([] : List (S24))) 0) = some (r1, r2, r3, r4) := h
  clear h
  obtain ⟨y154, hy154⟩ : ∃ y_ : List (S24), y_ = (([] : List (S24))) := ⟨_, rfl⟩
  replace H : (chalklineref11_least.l0 k a0 l1 y154 0) = some (r1, r2, r3, r4) := by first | (rw [hy154]; with_reducible exact H) | (have H2_ := (Option.bind_some _ _).symm.trans H; rw [hy154]; with_reducible exact H2_) | (have H2_ := (Option.bind_some _ _).symm.trans H; with_reducible exact H2_) | with_reducible exact H | (rw [hy154]; exact H) | exact H
  have Ny154 := Aside0.mk hy154
  clear hy154
  have H' := Aside0.mk H
  clear H
  go_enter Tryd.func50, Tryd.ntmps50
  go_wp2_with (first | ((with_reducible refine gate_dst (N := 4) rfl ?_); refine box_event ?hg (N := 4) ?hd (cs := #[.int .i64 0, .int .i64 0, .int .i64 0, .slice none 0 0]) (t := 24) ?hr ?_; (case hd => rfl); (case hg => rfl); (case hr => first | (go_simp; done) | (go_simp; rfl)); intro gb153 hg w3 hbox hb; have n0_ := Aside0.mk (Kd.V_below (Kd.V_elderB (by (with_reducible repeat (first | apply Kd.V_alloc | apply Kd.V_drewN | apply Kd.V_drew)); exact HO1.out) gb153 (Nat.le_of_eq hg.symm)) hb); have n1_ := Aside0.mk (below_step (by repeat (first | (with_reducible first | exact HB.out | apply below_alloc | apply pw_below_drewN | apply below_drew1) | exact HB.out)) hb); have n2_ := Aside0.mk (hbox); have n3_ := Aside0.mk ((by rw [hg]; exact (below_size (by repeat (first | (with_reducible first | exact HB.out | apply below_alloc | apply pw_below_drewN | apply below_drew1) | exact HB.out))) : w.heap.size ≤ gb153)); have n4_ := Aside0.mk ((by rw [hg]; exact (below_size (by repeat (first | (with_reducible first | exact HB.out | apply below_alloc | apply pw_below_drewN | apply below_drew1) | exact HB.out))) : w.heap.size ≤ gb153)); clear HO1; clear HB; have HO1 := n0_; have HB := n1_; have BK153 := n2_; have GW153 := n3_; have GE153 := n4_; clear n0_ n1_ n2_ n3_ n4_; clear hb hbox hg) | ((with_reducible refine gate_dst (N := 8) rfl ?_); refine Kd.N_lit k24 _ 24 ?hg (N' := 8) ?hd (xs := ([] : List (S24))) (inner := []) (ok := (fun k_ => (P1_ k_ ∨ w.heap.size ≤ k_) ∧ k_ ≠ gb153)) (okp := (fun k_ => (P1_ k_ ∨ w.heap.size ≤ k_) ∧ k_ ≠ gb153)) ?hr ?hp (fun _ hk => hk) ((show ∀ k_, w3.heap.size ≤ k_ → (fun k_ => (P1_ k_ ∨ w.heap.size ≤ k_) ∧ k_ ≠ gb153) k_ from fun k_ hk => ⟨(.inr (Nat.le_trans (below_size (by repeat (first | (with_reducible first | exact HB.out | apply below_alloc | apply pw_below_drewN | apply below_drew1 | refine below_set ?_ GE153.out) | exact HB.out))) hk)), Kd.freshB (g := gb153) (o := .cells #[.int .i64 0, .int .i64 0, .int .i64 0, .slice none 0 0] 24 (0, 0)) (by (with_reducible repeat (first | refine blk_drewN ?_ _ | refine blk_drew ?_ | refine blk_alloc ?_ _)); exact BK153.out) k_ hk⟩) _ (Nat.le_refl _)) (Below.refl _ _) (Nat.le_refl _) (by simp) ?_; (case hd => rfl); (case hg => rfl); (case hr => first | (go_simp; done) | (go_simp; rfl)); (case hp => exact (Reps.none _ _)); intro v155 w4 ho5 hb hg_ hnew_; clear hg_ hnew_; (first | rw [← Ny154.out] at ho5 | (simp only [Int.reduceToNat] at ho5; rw [← Ny154.out] at ho5)); have n0_ := Aside0.mk (Kd.V_elder' (by (with_reducible repeat (first | apply Kd.V_alloc | apply Kd.V_drewN | apply Kd.V_drew)); exact HO1.out) (Kd.N_base ho5) hb); have n1_ := Aside0.mk (Kd.N_lower ho5 (below_size (by repeat (first | (with_reducible first | exact HB.out | apply below_alloc | apply pw_below_drewN | apply below_drew1 | refine below_set ?_ GE153.out) | exact HB.out)))); have n2_ := Aside0.mk (blk_below (g := gb153) (o := .cells #[.int .i64 0, .int .i64 0, .int .i64 0, .slice none 0 0] 24 (0, 0)) (by (with_reducible repeat (first | refine blk_drewN ?_ _ | refine blk_drew ?_ | refine blk_alloc ?_ _)); exact BK153.out) hb); have n3_ := Aside0.mk (below_step (by repeat (first | (with_reducible first | exact HB.out | apply below_alloc | apply pw_below_drewN | apply below_drew1 | refine below_set ?_ GE153.out) | exact HB.out)) hb); clear HO1; clear BK153; clear HB; have HO1 := n0_; have HO156 := n1_; have BK153 := n2_; have HB := n3_; clear n0_ n1_ n2_ n3_; clear hb ho5))
  go_loopg [0, 5, 6] k (fun kq v0 v5 v6 w' => ∃ (x0_1 : Int) (x5_1 : List (S24)) (x6_1 : Int), v0 = .int .i64 x0_1 ∧ v6 = .int .i64 x6_1 ∧ Aside0 (chalklineref11_least.l0 kq x0_1 l1 x5_1 x6_1 = some (r1, r2, r3, r4)) ∧ Aside0 (kq ≤ k) ∧ Aside0 (Kd.V k24 24 w' w.heap.size (fun k_ => (P1_ k_ ∨ w.heap.size ≤ k_) ∧ some k_ ≠ (v5 : Value).ownBlock ∧ k_ ≠ gb153) (.slice A1 l1.length c1) l1) ∧ Aside0 (Kd.N k24 24 w' w.heap.size (fun k_ => (P1_ k_ ∨ w.heap.size ≤ k_) ∧ k_ ≠ gb153) v5 x5_1) ∧ Aside0 (w'.heap[gb153]? = some (.cells #[.int .i64 0, .int .i64 0, .int .i64 0, (.slice none 0 0)] 24 (0, 0))) ∧ Aside0 (Below w.heap.size w w'))
  case atStart => exact ⟨(a0), (y154), (0), (by first | rfl | (simp; done) | (simp [*]; done)), (by first | rfl | (simp; done) | (simp [*]; done)), H', ⟨Nat.le_refl _⟩, ⟨by (with_reducible repeat (first | apply Kd.V_alloc | apply Kd.V_drewN | apply Kd.V_drew)); exact Kd.V_mono HO1.out (fun _ hk => ⟨hk.1.1, ⟨hk.2, hk.1.2⟩⟩)⟩, ⟨by (with_reducible repeat (first | apply Kd.N_alloc | apply Kd.N_drewN | apply Kd.N_drew)); exact HO156.out⟩, ⟨by (with_reducible repeat (first | refine blk_drewN ?_ _ | refine blk_drew ?_ | refine blk_alloc ?_ _)); exact BK153.out⟩, ⟨by repeat (first | (with_reducible first | exact HB.out | apply below_alloc | apply pw_below_drewN | apply below_drew1 | refine below_set ?_ GE153.out) | exact HB.out)⟩⟩
  case round =>
    clear H'
    try clear c1
    try clear p2
    try clear c5
    obtain ⟨x0_1, x5_1, x6_1, rfl, rfl, HA, HK1, HO_1, HO_5, BK153, HB⟩ := hrel
    cases gk with
    | zero => exact absurd HA.out (by simp [chalklineref11_least.l0])
    | succ k1 =>
      have H := HA.out
      clear HA
      simp only [chalklineref11_least.l0] at H
      by_cases c6 : x6_1 < (l1.length : Int)
      · rw [if_pos c6] at H
        have c6b0 : decide (x6_1 < (l1.length : Int)) = true := decide_eq_true c6
        clear c6
        by_cases c7 : 0 ≤ x6_1
        · rw [if_pos c7] at H
          have c7b0 : decide (0 ≤ x6_1) = true := decide_eq_true c7
          clear c7
          by_cases c8 : ((rd_T24 l1 x6_1).f0) = 1
          · rw [if_pos c8] at H
            have c8b0 : (((rd_T24 l1 x6_1).f0) == 1) = true := beq_iff_eq.mpr c8
            have c8b1 : (((rd_T24 l1 x6_1).f0) != 1) = false := bne_eq_false_iff_eq.mpr c8
            clear c8
            by_cases c9 : ((rd_T24 l1 x6_1).f1) = 1
            · rw [if_pos c9] at H
              have c9b0 : (((rd_T24 l1 x6_1).f1) == 1) = true := beq_iff_eq.mpr c9
              have c9b1 : (((rd_T24 l1 x6_1).f1) != 1) = false := bne_eq_false_iff_eq.mpr c9
              clear c9
              have H' := Aside0.mk H
              clear H
              have p157 : 0 ≤ (x6_1 : Int) := of_decide_eq_true (by first | (with_reducible assumption) | assumption)
              have q157 : x6_1 < (l1.length : Int) := of_decide_eq_true (by first | (with_reducible assumption) | assumption)
              obtain ⟨ad157, A157_3, c157_3, e157, hx157_0, hx157_1, hx157_2, hx157_3, hl157_3, hi157_3⟩ := at_T24 (Kd.V_reads' HO_1.out).2.2 x6_1 p157 q157
              cases e157
              obtain ⟨ce157, hce157, hMe157, hcc157⟩ := Kd.V_get HO_1.out z24 x6_1 p157 (by first | exact q157 | exact of_decide_eq_true (by first | (with_reducible assumption) | assumption) | (have e_ := (Kd.V_reads' HO_1.out).1; omega))
              obtain ⟨ua157_3, uc157_3, rfl, ul157_3, ge157_3⟩ := k24_openF hMe157
              have hv157_3 := hcc157 3 _ rfl
              rw [add_field _ _ 3 (by omega)] at hv157_3
              replace hv157_3 := Option.some.inj (hv157_3.symm.trans hx157_3)
              injection hv157_3 with hva_ hvn_ hvc_
              rw [hva_] at ge157_3
              rw [hvc_] at ul157_3
              have HL157_3 := Aside0.mk (show Kd.V k24 24 _ w.heap.size _ _ ((rd_T24 l1 x6_1).f3) from Kd.V_mk ul157_3 ge157_3)
              clear hva_ hvn_ hvc_ ge157_3 ul157_3
              clear hcc157 hce157
              have HR157_3 := Aside0.mk hi157_3
              have HC157_3 := Aside0.mk hl157_3
              clear hi157_3 hl157_3
              replace p157 := eq_true p157
              replace q157 := eq_true q157
              have p158 : 0 ≤ (x6_1 : Int) := of_decide_eq_true (by first | (with_reducible assumption) | assumption)
              have q158 : x6_1 < (l1.length : Int) := of_decide_eq_true (by first | (with_reducible assumption) | assumption)
              obtain ⟨ad158, A158_3, c158_3, e158, hx158_0, hx158_1, hx158_2, hx158_3, hl158_3, hi158_3⟩ := at_T24 (Kd.V_reads' HO_1.out).2.2 x6_1 p158 q158
              obtain rfl : ad157 = ad158 := (by injection e158)
              obtain ⟨ce158, hce158, hMe158, hcc158⟩ := Kd.V_get HO_1.out z24 x6_1 p158 (by first | exact q158 | exact of_decide_eq_true (by first | (with_reducible assumption) | assumption) | (have e_ := (Kd.V_reads' HO_1.out).1; omega))
              obtain ⟨ua158_3, uc158_3, rfl, ul158_3, ge158_3⟩ := k24_openF hMe158
              have hv158_3 := hcc158 3 _ rfl
              rw [add_field _ _ 3 (by omega)] at hv158_3
              replace hv158_3 := Option.some.inj (hv158_3.symm.trans hx158_3)
              injection hv158_3 with hva_ hvn_ hvc_
              rw [hva_] at ge158_3
              rw [hvc_] at ul158_3
              have HL158_3 := Aside0.mk (show Kd.V k24 24 _ w.heap.size _ _ ((rd_T24 l1 x6_1).f3) from Kd.V_mk ul158_3 ge158_3)
              clear hva_ hvn_ hvc_ ge158_3 ul158_3
              clear hcc158 hce158
              have HR158_3 := Aside0.mk hi158_3
              have HC158_3 := Aside0.mk hl158_3
              clear hi158_3 hl158_3
              replace p158 := eq_true p158
              replace q158 := eq_true q158
              have ea_ := Option.some.inj (hx157_3.symm.trans hx158_3)
              injection ea_ with ea_ en_ ec_
              subst ea_
              subst ec_
              clear en_
              go_wp2
              go_roundg k1
              case measure => have := HK1.out; omega
              case rel => exact ⟨(wrap64 (x0_1 - 1)), (x5_1), (wrap64 (x6_1 + 1)), (by first | rfl | (simp; done) | (simp [*]; done)), (by first | rfl | (simp; done) | (simp [*]; done)), H', ⟨by have := HK1.out; omega⟩, ⟨by (with_reducible repeat (first | apply Kd.V_alloc | apply Kd.V_drewN | apply Kd.V_drew)); exact HO_1.out⟩, ⟨by (with_reducible repeat (first | apply Kd.N_alloc | apply Kd.N_drewN | apply Kd.N_drew)); exact HO_5.out⟩, ⟨by (with_reducible repeat (first | refine blk_drewN ?_ _ | refine blk_drew ?_ | refine blk_alloc ?_ _)); exact BK153.out⟩, ⟨by repeat (first | (with_reducible first | exact HB.out | apply below_alloc | apply pw_below_drewN | apply below_drew1 | refine below_set ?_ GE153.out) | exact HB.out)⟩⟩
            · rw [if_neg c9] at H
              have c9b0 : (((rd_T24 l1 x6_1).f1) == 1) = false := beq_eq_false_iff_ne.mpr c9
              have c9b1 : (((rd_T24 l1 x6_1).f1) != 1) = true := bne_iff_ne.mpr c9
              have H' := Aside0.mk H
              clear H
              have p157 : 0 ≤ (x6_1 : Int) := of_decide_eq_true (by first | (with_reducible assumption) | assumption)
              have q157 : x6_1 < (l1.length : Int) := of_decide_eq_true (by first | (with_reducible assumption) | assumption)
              obtain ⟨ad157, A157_3, c157_3, e157, hx157_0, hx157_1, hx157_2, hx157_3, hl157_3, hi157_3⟩ := at_T24 (Kd.V_reads' HO_1.out).2.2 x6_1 p157 q157
              cases e157
              obtain ⟨ce157, hce157, hMe157, hcc157⟩ := Kd.V_get HO_1.out z24 x6_1 p157 (by first | exact q157 | exact of_decide_eq_true (by first | (with_reducible assumption) | assumption) | (have e_ := (Kd.V_reads' HO_1.out).1; omega))
              obtain ⟨ua157_3, uc157_3, rfl, ul157_3, ge157_3⟩ := k24_openF hMe157
              have hv157_3 := hcc157 3 _ rfl
              rw [add_field _ _ 3 (by omega)] at hv157_3
              replace hv157_3 := Option.some.inj (hv157_3.symm.trans hx157_3)
              injection hv157_3 with hva_ hvn_ hvc_
              rw [hva_] at ge157_3
              rw [hvc_] at ul157_3
              have HL157_3 := Aside0.mk (show Kd.V k24 24 _ w.heap.size _ _ ((rd_T24 l1 x6_1).f3) from Kd.V_mk ul157_3 ge157_3)
              clear hva_ hvn_ hvc_ ge157_3 ul157_3
              clear hcc157 hce157
              have HR157_3 := Aside0.mk hi157_3
              have HC157_3 := Aside0.mk hl157_3
              clear hi157_3 hl157_3
              replace p157 := eq_true p157
              replace q157 := eq_true q157
              have p158 : 0 ≤ (x6_1 : Int) := of_decide_eq_true (by first | (with_reducible assumption) | assumption)
              have q158 : x6_1 < (l1.length : Int) := of_decide_eq_true (by first | (with_reducible assumption) | assumption)
              obtain ⟨ad158, A158_3, c158_3, e158, hx158_0, hx158_1, hx158_2, hx158_3, hl158_3, hi158_3⟩ := at_T24 (Kd.V_reads' HO_1.out).2.2 x6_1 p158 q158
              obtain rfl : ad157 = ad158 := (by injection e158)
              obtain ⟨ce158, hce158, hMe158, hcc158⟩ := Kd.V_get HO_1.out z24 x6_1 p158 (by first | exact q158 | exact of_decide_eq_true (by first | (with_reducible assumption) | assumption) | (have e_ := (Kd.V_reads' HO_1.out).1; omega))
              obtain ⟨ua158_3, uc158_3, rfl, ul158_3, ge158_3⟩ := k24_openF hMe158
              have hv158_3 := hcc158 3 _ rfl
              rw [add_field _ _ 3 (by omega)] at hv158_3
              replace hv158_3 := Option.some.inj (hv158_3.symm.trans hx158_3)
              injection hv158_3 with hva_ hvn_ hvc_
              rw [hva_] at ge158_3
              rw [hvc_] at ul158_3
              have HL158_3 := Aside0.mk (show Kd.V k24 24 _ w.heap.size _ _ ((rd_T24 l1 x6_1).f3) from Kd.V_mk ul158_3 ge158_3)
              clear hva_ hvn_ hvc_ ge158_3 ul158_3
              clear hcc158 hce158
              have HR158_3 := Aside0.mk hi158_3
              have HC158_3 := Aside0.mk hl158_3
              clear hi158_3 hl158_3
              replace p158 := eq_true p158
              replace q158 := eq_true q158
              have ea_ := Option.some.inj (hx157_3.symm.trans hx158_3)
              injection ea_ with ea_ en_ ec_
              subst ea_
              subst ec_
              clear en_
              go_wp2
              go_roundg k1
              case measure => have := HK1.out; omega
              case rel => exact ⟨(x0_1), (x5_1), (wrap64 (x6_1 + 1)), (by first | rfl | (simp; done) | (simp [*]; done)), (by first | rfl | (simp; done) | (simp [*]; done)), H', ⟨by have := HK1.out; omega⟩, ⟨by (with_reducible repeat (first | apply Kd.V_alloc | apply Kd.V_drewN | apply Kd.V_drew)); exact HO_1.out⟩, ⟨by (with_reducible repeat (first | apply Kd.N_alloc | apply Kd.N_drewN | apply Kd.N_drew)); exact HO_5.out⟩, ⟨by (with_reducible repeat (first | refine blk_drewN ?_ _ | refine blk_drew ?_ | refine blk_alloc ?_ _)); exact BK153.out⟩, ⟨by repeat (first | (with_reducible first | exact HB.out | apply below_alloc | apply pw_below_drewN | apply below_drew1 | refine below_set ?_ GE153.out) | exact HB.out)⟩⟩
          · rw [if_neg c8] at H
            have c8b0 : (((rd_T24 l1 x6_1).f0) == 1) = false := beq_eq_false_iff_ne.mpr c8
            have c8b1 : (((rd_T24 l1 x6_1).f0) != 1) = true := bne_iff_ne.mpr c8
            by_cases c10 : x5_1.length < 2932031007402
            · rw [if_pos c10] at H
              have LMc10 := Aside0.mk c10
              clear c10
              obtain ⟨y160, hy160⟩ : ∃ y_ : List (S24), y_ = (x5_1 ++ [(⟨(rd_T24 l1 x6_1).f0, (rd_T24 l1 x6_1).f1, (rd_T24 l1 x6_1).f2, (rd_T24 l1 x6_1).f3⟩ : S24)]) := ⟨_, rfl⟩
              replace H : (chalklineref11_least.l0 k1 x0_1 l1 y160 (wrap64 (x6_1 + 1))) = some (r1, r2, r3, r4) := by first | (rw [hy160]; with_reducible exact H) | (have H2_ := (Option.bind_some _ _).symm.trans H; rw [hy160]; with_reducible exact H2_) | (have H2_ := (Option.bind_some _ _).symm.trans H; with_reducible exact H2_) | with_reducible exact H | (rw [hy160]; exact H) | exact H
              have Ny160 := Aside0.mk hy160
              clear hy160
              have H' := Aside0.mk H
              clear H
              have p157 : 0 ≤ (x6_1 : Int) := of_decide_eq_true (by first | (with_reducible assumption) | assumption)
              have q157 : x6_1 < (l1.length : Int) := of_decide_eq_true (by first | (with_reducible assumption) | assumption)
              obtain ⟨ad157, A157_3, c157_3, e157, hx157_0, hx157_1, hx157_2, hx157_3, hl157_3, hi157_3⟩ := at_T24 (Kd.V_reads' HO_1.out).2.2 x6_1 p157 q157
              cases e157
              obtain ⟨ce157, hce157, hMe157, hcc157⟩ := Kd.V_get HO_1.out z24 x6_1 p157 (by first | exact q157 | exact of_decide_eq_true (by first | (with_reducible assumption) | assumption) | (have e_ := (Kd.V_reads' HO_1.out).1; omega))
              obtain ⟨ua157_3, uc157_3, rfl, ul157_3, ge157_3⟩ := k24_openF hMe157
              have hv157_3 := hcc157 3 _ rfl
              rw [add_field _ _ 3 (by omega)] at hv157_3
              replace hv157_3 := Option.some.inj (hv157_3.symm.trans hx157_3)
              injection hv157_3 with hva_ hvn_ hvc_
              rw [hva_] at ge157_3
              rw [hvc_] at ul157_3
              have HL157_3 := Aside0.mk (show Kd.V k24 24 _ w.heap.size _ _ ((rd_T24 l1 x6_1).f3) from Kd.V_mk ul157_3 ge157_3)
              clear hva_ hvn_ hvc_ ge157_3 ul157_3
              clear hcc157 hce157
              have HR157_3 := Aside0.mk hi157_3
              have HC157_3 := Aside0.mk hl157_3
              clear hi157_3 hl157_3
              replace p157 := eq_true p157
              replace q157 := eq_true q157
              have p159 : 0 ≤ (x6_1 : Int) := of_decide_eq_true (by first | (with_reducible assumption) | assumption)
              have q159 : x6_1 < (l1.length : Int) := of_decide_eq_true (by first | (with_reducible assumption) | assumption)
              obtain ⟨ad159, A159_3, c159_3, e159, hx159_0, hx159_1, hx159_2, hx159_3, hl159_3, hi159_3⟩ := at_T24 (Kd.V_reads' HO_1.out).2.2 x6_1 p159 q159
              obtain rfl : ad157 = ad159 := (by injection e159)
              obtain ⟨ce159, hce159, hMe159, hcc159⟩ := Kd.V_get HO_1.out z24 x6_1 p159 (by first | exact q159 | exact of_decide_eq_true (by first | (with_reducible assumption) | assumption) | (have e_ := (Kd.V_reads' HO_1.out).1; omega))
              obtain ⟨ua159_3, uc159_3, rfl, ul159_3, ge159_3⟩ := k24_openF hMe159
              have hv159_3 := hcc159 3 _ rfl
              rw [add_field _ _ 3 (by omega)] at hv159_3
              replace hv159_3 := Option.some.inj (hv159_3.symm.trans hx159_3)
              injection hv159_3 with hva_ hvn_ hvc_
              rw [hva_] at ge159_3
              rw [hvc_] at ul159_3
              have HL159_3 := Aside0.mk (show Kd.V k24 24 _ w.heap.size _ _ ((rd_T24 l1 x6_1).f3) from Kd.V_mk ul159_3 ge159_3)
              clear hva_ hvn_ hvc_ ge159_3 ul159_3
              clear hcc159 hce159
              have HR159_3 := Aside0.mk hi159_3
              have HC159_3 := Aside0.mk hl159_3
              clear hi159_3 hl159_3
              replace p159 := eq_true p159
              replace q159 := eq_true q159
              have ea_ := Option.some.inj (hx157_3.symm.trans hx159_3)
              injection ea_ with ea_ en_ ec_
              subst ea_
              subst ec_
              clear en_
              go_wp2_with (first | ((with_reducible refine gate_builtin (b := .append) (xs := #[.tmp 21, .tmp 26]) rfl ?_); at_builtin; refine Kd.N_append k24 (w0 := w) w.heap.size rfl (.tmp 21) (.tmp 26) 22 24 (.agg #[(.int .i64 0), (.int .i64 0), (.int .i64 0), (.slice none 0 0)]) 48 rfl Tryd.underlying22 info24 rfl (by decide) (by omega) u5 x5_1 (⟨(rd_T24 l1 x6_1).f0, (rd_T24 l1 x6_1).f1, (rd_T24 l1 x6_1).f2, (rd_T24 l1 x6_1).f3⟩ : S24) [.int .i64 ((rd_T24 l1 x6_1).f0), .int .i64 ((rd_T24 l1 x6_1).f1), .int .i64 ((rd_T24 l1 x6_1).f2), .slice A157_3 ((rd_T24 l1 x6_1).f3).length c157_3] (fun k_ => (P1_ k_ ∨ w.heap.size ≤ k_) ∧ k_ ≠ gb153) (fun k_ => ((fun k_ => (P1_ k_ ∨ w.heap.size ≤ k_) ∧ k_ ≠ gb153)) k_ ∧ some k_ ≠ (u5 : Value).ownBlock) rfl rfl ?aP (fun _ hk => hk) ?aF ?aO ?aB ?aS ?aL ?_; (case aP => exact (k24_mkF _ _ (⟨(rd_T24 l1 x6_1).f0, (rd_T24 l1 x6_1).f1, (rd_T24 l1 x6_1).f2, (rd_T24 l1 x6_1).f3⟩ : S24) (Kd.V_reads' (Kd.V_mono (ok' := (fun k_ => ((fun k_ => (P1_ k_ ∨ w.heap.size ≤ k_) ∧ k_ ≠ gb153)) k_ ∧ some k_ ≠ (u5 : Value).ownBlock)) (HL159_3.out) (fun k_ hk => ⟨⟨hk.1, hk.2.2⟩, hk.2.1⟩))).2.1 (Kd.V_F (Kd.V_mono (ok' := (fun k_ => ((fun k_ => (P1_ k_ ∨ w.heap.size ≤ k_) ∧ k_ ≠ gb153)) k_ ∧ some k_ ≠ (u5 : Value).ownBlock)) (HL159_3.out) (fun k_ hk => ⟨⟨hk.1, hk.2.2⟩, hk.2.1⟩))))); (case aB => exact (by repeat (first | (with_reducible first | exact HB.out | apply below_alloc | apply pw_below_drewN | apply below_drew1 | refine below_set ?_ GE153.out) | exact HB.out))); (case aF => exact (fun k_ hk => ⟨(.inr (Nat.le_trans (below_size (by repeat (first | (with_reducible first | exact HB.out | apply below_alloc | apply pw_below_drewN | apply below_drew1 | refine below_set ?_ GE153.out) | exact HB.out))) hk)), Kd.freshB (g := gb153) (o := .cells #[.int .i64 0, .int .i64 0, .int .i64 0, .slice none 0 0] 24 (0, 0)) (by (with_reducible repeat (first | refine blk_drewN ?_ _ | refine blk_drew ?_ | refine blk_alloc ?_ _)); exact BK153.out) k_ hk⟩)); (case aO => exact (by (with_reducible repeat (first | apply Kd.N_alloc | apply Kd.N_drewN | apply Kd.N_drew)); exact HO_5.out)); (case aS => exact (below_size (by repeat (first | (with_reducible first | exact HB.out | apply below_alloc | apply pw_below_drewN | apply below_drew1 | refine below_set ?_ GE153.out) | exact HB.out)))); (case aL => have := LMc10.out; omega); intro v161 w11 ho hb hg hat; rw [← Ny160.out] at ho; have n0_ := Aside0.mk (Kd.V_afterv (ok := (fun k_ => (P1_ k_ ∨ w.heap.size ≤ k_) ∧ k_ ≠ gb153)) (by (with_reducible repeat (first | apply Kd.V_alloc | apply Kd.V_drewN | apply Kd.V_drew)); exact Kd.V_mono HO_1.out (fun _ hk => ⟨⟨hk.1, hk.2.2⟩, hk.2.1⟩)) hg hat); have n1_ := Aside0.mk (blk_grown (g := gb153) (o := .cells #[.int .i64 0, .int .i64 0, .int .i64 0, .slice none 0 0] 24 (0, 0)) (by (with_reducible repeat (first | refine blk_drewN ?_ _ | refine blk_drew ?_ | refine blk_alloc ?_ _)); exact BK153.out) hg (Kd.N_away HO_5.out (fun _ hk => hk.2))); have n2_ := Aside0.mk (Kd.V_afterv (ok := (fun k_ => (P1_ k_ ∨ w.heap.size ≤ k_) ∧ k_ ≠ gb153)) (by (with_reducible repeat (first | apply Kd.V_alloc | apply Kd.V_drewN | apply Kd.V_drew)); exact Kd.V_mono HL157_3.out (fun _ hk => ⟨⟨hk.1, hk.2.2⟩, hk.2.1⟩)) hg hat); have n3_ := Aside0.mk (Kd.V_afterv (ok := (fun k_ => (P1_ k_ ∨ w.heap.size ≤ k_) ∧ k_ ≠ gb153)) (by (with_reducible repeat (first | apply Kd.V_alloc | apply Kd.V_drewN | apply Kd.V_drew)); exact Kd.V_mono HL159_3.out (fun _ hk => ⟨⟨hk.1, hk.2.2⟩, hk.2.1⟩)) hg hat); have n4_ := Aside0.mk (hb); have n5_ := Aside0.mk (ho); clear HO_1; clear BK153; clear HL157_3; clear HL159_3; clear HB; clear HO_5; have HO_1 := n0_; have BK153 := n1_; have HL157_3 := n2_; have HL159_3 := n3_; have HB := n4_; have HO162 := n5_; clear n0_ n1_ n2_ n3_ n4_ n5_; clear ho hb hg hat))
              go_roundg k1
              case measure => have := HK1.out; omega
              case rel => exact ⟨(x0_1), (y160), (wrap64 (x6_1 + 1)), (by first | rfl | (simp; done) | (simp [*]; done)), (by first | rfl | (simp; done) | (simp [*]; done)), H', ⟨by have := HK1.out; omega⟩, ⟨by (with_reducible repeat (first | apply Kd.V_alloc | apply Kd.V_drewN | apply Kd.V_drew)); exact Kd.V_mono HO_1.out (fun _ hk => ⟨hk.1.1, ⟨hk.2, hk.1.2⟩⟩)⟩, ⟨by (with_reducible repeat (first | apply Kd.N_alloc | apply Kd.N_drewN | apply Kd.N_drew)); exact HO162.out⟩, ⟨by (with_reducible repeat (first | refine blk_drewN ?_ _ | refine blk_drew ?_ | refine blk_alloc ?_ _)); exact BK153.out⟩, ⟨by repeat (first | (with_reducible first | exact HB.out | apply below_alloc | apply pw_below_drewN | apply below_drew1 | refine below_set ?_ GE153.out) | exact HB.out)⟩⟩
            · rw [if_neg c10] at H
              exact absurd H (by simp)
        · rw [if_neg c7] at H
          exact absurd H (by simp)
      · rw [if_neg c6] at H
        have c6b0 : decide (x6_1 < (l1.length : Int)) = false := decide_eq_false c6
        clear c6
        by_cases c12 : x0_1 ≤ 0
        · rw [if_pos c12] at H
          have c12b0 : decide (x0_1 ≤ 0) = true := decide_eq_true c12
          clear c12
          replace H := Option.bind_eq_some_iff.mp H
          obtain ⟨⟨t163, t164, t165, t166⟩, A130, H⟩ := H
          replace H : (some (t163, t164, t165, t166)) = some (r1, r2, r3, r4) := H
          have A13 := Aside0.mk A130
          clear A130
          simp only [Option.some.injEq, Prod.mk.injEq] at H
          obtain ⟨rfl, rfl, rfl, rfl⟩ := H
          obtain ⟨Ao14, co14, eo14⟩ := Kd.N_slice HO_5.out
          subst eo14
          go_wp2_with (first | ((with_reducible refine gate_callee (f := 48) rfl ?_); refine goesL_ (some 40) rfl rfl Tryd.func48 (by kernel_rfl) rfl #[.int .i64 1] rfl (by (try simp only [List.map_toArray, List.map_cons, List.map_nil]); first | done | rfl | (simp only [List.length_drop, List.length_take]; rfl)) ?_; (with_reducible refine (chalklineref11_constant.calls 1 t163 t164 t165 t166 _ A13.out).mono ?_); rintro e w15 ⟨v167, rfl, ho0, hb⟩; refine ⟨_, rfl, ?_⟩; have n0_ := Aside0.mk (Kd.V_elder' (by (with_reducible repeat (first | apply Kd.V_alloc | apply Kd.V_drewN | apply Kd.V_drew)); exact HO_1.out) (Kd.N_base (Kd.R_N ho0)) hb); have n1_ := Aside0.mk (Kd.N_elder' (by (with_reducible repeat (first | apply Kd.N_alloc | apply Kd.N_drewN | apply Kd.N_drew)); exact HO_5.out) (Kd.N_base (Kd.R_N ho0)) hb); have n2_ := Aside0.mk (Kd.N_lower (Kd.N_mono (ok' := fun k_ => (P1_ k_ ∨ w.heap.size ≤ k_) ∧ some k_ ≠ (.slice Ao14 x5_1.length co14 : Value).ownBlock ∧ k_ ≠ gb153) (Kd.R_N (Kd.R_bound ho0)) (fun k_ hk_ => ⟨(.inr (Nat.le_trans (below_size (by repeat (first | (with_reducible first | exact HB.out | apply below_alloc | apply pw_below_drewN | apply below_drew1 | refine below_set ?_ GE153.out) | exact HB.out))) hk_.2.1)), (Kd.fresh' (Kd.N_lt (by (with_reducible repeat (first | apply Kd.N_alloc | apply Kd.N_drewN | apply Kd.N_drew)); exact HO_5.out)) k_ hk_.2.1), (Kd.freshB (g := gb153) (o := .cells #[.int .i64 0, .int .i64 0, .int .i64 0, .slice none 0 0] 24 (0, 0)) (by (with_reducible repeat (first | refine blk_drewN ?_ _ | refine blk_drew ?_ | refine blk_alloc ?_ _)); exact BK153.out) k_ hk_.2.1)⟩)) (below_size (by repeat (first | (with_reducible first | exact HB.out | apply below_alloc | apply pw_below_drewN | apply below_drew1 | refine below_set ?_ GE153.out) | exact HB.out)))); have n3_ := Aside0.mk (blk_below (g := gb153) (o := .cells #[.int .i64 0, .int .i64 0, .int .i64 0, .slice none 0 0] 24 (0, 0)) (by (with_reducible repeat (first | refine blk_drewN ?_ _ | refine blk_drew ?_ | refine blk_alloc ?_ _)); exact BK153.out) hb); have n4_ := Aside0.mk (below_step (by repeat (first | (with_reducible first | exact HB.out | apply below_alloc | apply pw_below_drewN | apply below_drew1 | refine below_set ?_ GE153.out) | exact HB.out)) hb); clear HO_1; clear HO_5; clear BK153; clear HB; have HO_1 := n0_; have HO_5 := n1_; have HO168 := n2_; have BK153 := n3_; have HB := n4_; clear n0_ n1_ n2_ n3_ n4_; (try clear hb); (try clear hb2); (try clear hk); (try clear hi); (try clear ho0); have hcz16_0 : w15.cell? ⟨gb153, 0, none⟩ = some (.int .i64 0) := (blk_cell BK153.out 0).trans rfl; have hcz16_1 : w15.cell? ⟨gb153, 1, none⟩ = some (.int .i64 0) := (blk_cell BK153.out 1).trans rfl; have hcz16_2 : w15.cell? ⟨gb153, 2, none⟩ = some (.int .i64 0) := (blk_cell BK153.out 2).trans rfl; have hcz16_3 : w15.cell? ⟨gb153, 3, none⟩ = some (.slice none 0 0) := (blk_cell BK153.out 3).trans rfl; have hfz16_0 := blk_frozen BK153.out 0; have hfz16_1 := blk_frozen BK153.out 1; have hfz16_2 := blk_frozen BK153.out 2; have hfz16_3 := blk_frozen BK153.out 3; obtain ⟨Ao17, co17, eo17⟩ := Kd.N_slice HO168.out; subst eo17))
          refine bodyPost_ret (results_cell_row rfl _ _ gb153 24 #[.int .i64 t163, .int .i64 t164, .int .i64 t165, .slice Ao17 t166.length co17] (0, 0) _ rfl (by (with_reducible repeat (first | refine blk_drewN ?_ _ | refine blk_drew ?_ | refine blk_alloc ?_ _)); refine blk_put (cs := #[.int .i64 t163, .int .i64 t164, .int .i64 t165, .slice none 0 0]) ?_ 3 _ rfl; (with_reducible repeat (first | refine blk_drewN ?_ _ | refine blk_drew ?_ | refine blk_alloc ?_ _)); refine blk_put (cs := #[.int .i64 t163, .int .i64 t164, .int .i64 0, .slice none 0 0]) ?_ 2 _ rfl; (with_reducible repeat (first | refine blk_drewN ?_ _ | refine blk_drew ?_ | refine blk_alloc ?_ _)); refine blk_put (cs := #[.int .i64 t163, .int .i64 0, .int .i64 0, .slice none 0 0]) ?_ 1 _ rfl; (with_reducible repeat (first | refine blk_drewN ?_ _ | refine blk_drew ?_ | refine blk_alloc ?_ _)); refine blk_put (cs := #[.int .i64 0, .int .i64 0, .int .i64 0, .slice none 0 0]) ?_ 0 _ rfl; (with_reducible repeat (first | refine blk_drewN ?_ _ | refine blk_drew ?_ | refine blk_alloc ?_ _)); exact BK153.out) Tryd.underlying24 rfl (by kernel_rfl)) rfl ?_
          exact ⟨_, by first | rfl | (simp [errW_none, errW_some] <;> rfl) | (simp [*, errW_none, errW_some] <;> rfl), Kd.N_V (by (with_reducible repeat (first | apply Kd.N_alloc | apply Kd.N_drewN | apply Kd.N_drew)); exact Kd.N_mono (Kd.N_far (p := ⟨gb153, 3, none⟩) (Kd.N_far (p := ⟨gb153, 2, none⟩) (Kd.N_far (p := ⟨gb153, 1, none⟩) (Kd.N_far (p := ⟨gb153, 0, none⟩) (Kd.N_mono HO168.out (fun k_ hk => (⟨hk, hk.2.2⟩ : _ ∧ k_ ≠ gb153))) (fun _ hk => hk.2) (.int .i64 t163)) (fun _ hk => hk.2) (.int .i64 t164)) (fun _ hk => hk.2) (.int .i64 t165)) (fun _ hk => hk.2) (.slice Ao17 t166.length co17)) (fun _ hk => hk.1.1)), by repeat (first | (with_reducible first | exact HB.out | apply below_alloc | apply pw_below_drewN | apply below_drew1 | refine below_set ?_ GE153.out) | exact HB.out)⟩
        · rw [if_neg c12] at H
          have c12b0 : decide (x0_1 ≤ 0) = false := decide_eq_false c12
          clear c12
          by_cases c18 : x0_1 > (x5_1.length : Int)
          · rw [if_pos c18] at H
            have c18b0 : decide ((x5_1.length : Int) < x0_1) = true := decide_eq_true c18
            clear c18
            replace H := Option.bind_eq_some_iff.mp H
            obtain ⟨⟨t169, t170, t171, t172⟩, A190, H⟩ := H
            replace H : (some (t169, t170, t171, t172)) = some (r1, r2, r3, r4) := H
            have A19 := Aside0.mk A190
            clear A190
            simp only [Option.some.injEq, Prod.mk.injEq] at H
            obtain ⟨rfl, rfl, rfl, rfl⟩ := H
            obtain ⟨Ao20, co20, eo20⟩ := Kd.N_slice HO_5.out
            subst eo20
            go_wp2_with (first | ((with_reducible refine gate_callee (f := 48) rfl ?_); refine goesL_ (some 44) rfl rfl Tryd.func48 (by kernel_rfl) rfl #[.int .i64 0] rfl (by (try simp only [List.map_toArray, List.map_cons, List.map_nil]); first | done | rfl | (simp only [List.length_drop, List.length_take]; rfl)) ?_; (with_reducible refine (chalklineref11_constant.calls 0 t169 t170 t171 t172 _ A19.out).mono ?_); rintro e w21 ⟨v173, rfl, ho0, hb⟩; refine ⟨_, rfl, ?_⟩; have n0_ := Aside0.mk (Kd.V_elder' (by (with_reducible repeat (first | apply Kd.V_alloc | apply Kd.V_drewN | apply Kd.V_drew)); exact HO_1.out) (Kd.N_base (Kd.R_N ho0)) hb); have n1_ := Aside0.mk (Kd.N_elder' (by (with_reducible repeat (first | apply Kd.N_alloc | apply Kd.N_drewN | apply Kd.N_drew)); exact HO_5.out) (Kd.N_base (Kd.R_N ho0)) hb); have n2_ := Aside0.mk (Kd.N_lower (Kd.N_mono (ok' := fun k_ => (P1_ k_ ∨ w.heap.size ≤ k_) ∧ some k_ ≠ (.slice Ao20 x5_1.length co20 : Value).ownBlock ∧ k_ ≠ gb153) (Kd.R_N (Kd.R_bound ho0)) (fun k_ hk_ => ⟨(.inr (Nat.le_trans (below_size (by repeat (first | (with_reducible first | exact HB.out | apply below_alloc | apply pw_below_drewN | apply below_drew1 | refine below_set ?_ GE153.out) | exact HB.out))) hk_.2.1)), (Kd.fresh' (Kd.N_lt (by (with_reducible repeat (first | apply Kd.N_alloc | apply Kd.N_drewN | apply Kd.N_drew)); exact HO_5.out)) k_ hk_.2.1), (Kd.freshB (g := gb153) (o := .cells #[.int .i64 0, .int .i64 0, .int .i64 0, .slice none 0 0] 24 (0, 0)) (by (with_reducible repeat (first | refine blk_drewN ?_ _ | refine blk_drew ?_ | refine blk_alloc ?_ _)); exact BK153.out) k_ hk_.2.1)⟩)) (below_size (by repeat (first | (with_reducible first | exact HB.out | apply below_alloc | apply pw_below_drewN | apply below_drew1 | refine below_set ?_ GE153.out) | exact HB.out)))); have n3_ := Aside0.mk (blk_below (g := gb153) (o := .cells #[.int .i64 0, .int .i64 0, .int .i64 0, .slice none 0 0] 24 (0, 0)) (by (with_reducible repeat (first | refine blk_drewN ?_ _ | refine blk_drew ?_ | refine blk_alloc ?_ _)); exact BK153.out) hb); have n4_ := Aside0.mk (below_step (by repeat (first | (with_reducible first | exact HB.out | apply below_alloc | apply pw_below_drewN | apply below_drew1 | refine below_set ?_ GE153.out) | exact HB.out)) hb); clear HO_1; clear HO_5; clear BK153; clear HB; have HO_1 := n0_; have HO_5 := n1_; have HO174 := n2_; have BK153 := n3_; have HB := n4_; clear n0_ n1_ n2_ n3_ n4_; (try clear hb); (try clear hb2); (try clear hk); (try clear hi); (try clear ho0); have hcz22_0 : w21.cell? ⟨gb153, 0, none⟩ = some (.int .i64 0) := (blk_cell BK153.out 0).trans rfl; have hcz22_1 : w21.cell? ⟨gb153, 1, none⟩ = some (.int .i64 0) := (blk_cell BK153.out 1).trans rfl; have hcz22_2 : w21.cell? ⟨gb153, 2, none⟩ = some (.int .i64 0) := (blk_cell BK153.out 2).trans rfl; have hcz22_3 : w21.cell? ⟨gb153, 3, none⟩ = some (.slice none 0 0) := (blk_cell BK153.out 3).trans rfl; have hfz22_0 := blk_frozen BK153.out 0; have hfz22_1 := blk_frozen BK153.out 1; have hfz22_2 := blk_frozen BK153.out 2; have hfz22_3 := blk_frozen BK153.out 3; obtain ⟨Ao23, co23, eo23⟩ := Kd.N_slice HO174.out; subst eo23))
            refine bodyPost_ret (results_cell_row rfl _ _ gb153 24 #[.int .i64 t169, .int .i64 t170, .int .i64 t171, .slice Ao23 t172.length co23] (0, 0) _ rfl (by (with_reducible repeat (first | refine blk_drewN ?_ _ | refine blk_drew ?_ | refine blk_alloc ?_ _)); refine blk_put (cs := #[.int .i64 t169, .int .i64 t170, .int .i64 t171, .slice none 0 0]) ?_ 3 _ rfl; (with_reducible repeat (first | refine blk_drewN ?_ _ | refine blk_drew ?_ | refine blk_alloc ?_ _)); refine blk_put (cs := #[.int .i64 t169, .int .i64 t170, .int .i64 0, .slice none 0 0]) ?_ 2 _ rfl; (with_reducible repeat (first | refine blk_drewN ?_ _ | refine blk_drew ?_ | refine blk_alloc ?_ _)); refine blk_put (cs := #[.int .i64 t169, .int .i64 0, .int .i64 0, .slice none 0 0]) ?_ 1 _ rfl; (with_reducible repeat (first | refine blk_drewN ?_ _ | refine blk_drew ?_ | refine blk_alloc ?_ _)); refine blk_put (cs := #[.int .i64 0, .int .i64 0, .int .i64 0, .slice none 0 0]) ?_ 0 _ rfl; (with_reducible repeat (first | refine blk_drewN ?_ _ | refine blk_drew ?_ | refine blk_alloc ?_ _)); exact BK153.out) Tryd.underlying24 rfl (by kernel_rfl)) rfl ?_
            exact ⟨_, by first | rfl | (simp [errW_none, errW_some] <;> rfl) | (simp [*, errW_none, errW_some] <;> rfl), Kd.N_V (by (with_reducible repeat (first | apply Kd.N_alloc | apply Kd.N_drewN | apply Kd.N_drew)); exact Kd.N_mono (Kd.N_far (p := ⟨gb153, 3, none⟩) (Kd.N_far (p := ⟨gb153, 2, none⟩) (Kd.N_far (p := ⟨gb153, 1, none⟩) (Kd.N_far (p := ⟨gb153, 0, none⟩) (Kd.N_mono HO174.out (fun k_ hk => (⟨hk, hk.2.2⟩ : _ ∧ k_ ≠ gb153))) (fun _ hk => hk.2) (.int .i64 t169)) (fun _ hk => hk.2) (.int .i64 t170)) (fun _ hk => hk.2) (.int .i64 t171)) (fun _ hk => hk.2) (.slice Ao23 t172.length co23)) (fun _ hk => hk.1.1)), by repeat (first | (with_reducible first | exact HB.out | apply below_alloc | apply pw_below_drewN | apply below_drew1 | refine below_set ?_ GE153.out) | exact HB.out)⟩
          · rw [if_neg c18] at H
            have c18b0 : decide ((x5_1.length : Int) < x0_1) = false := decide_eq_false c18
            clear c18
            by_cases c24 : x0_1 = (x5_1.length : Int)
            · rw [if_pos c24] at H
              have c24b0 : (x0_1 == (x5_1.length : Int)) = true := beq_iff_eq.mpr c24
              have c24b1 : (x0_1 != (x5_1.length : Int)) = false := bne_eq_false_iff_eq.mpr c24
              clear c24
              replace H := Option.bind_eq_some_iff.mp H
              obtain ⟨⟨t175, t176, t177, t178⟩, A250, H⟩ := H
              replace H : (some (t175, t176, t177, t178)) = some (r1, r2, r3, r4) := H
              have A25 := Aside0.mk A250
              clear A250
              simp only [Option.some.injEq, Prod.mk.injEq] at H
              obtain ⟨rfl, rfl, rfl, rfl⟩ := H
              obtain ⟨Ao26, co26, eo26⟩ := Kd.N_slice HO_5.out
              subst eo26
              go_wp2_with (first | ((with_reducible refine gate_callee (f := 49) rfl ?_); refine goesL_ (some 49) rfl rfl Tryd.func49 (by kernel_rfl) rfl #[.int .i64 4, .int .i64 1, .slice Ao26 x5_1.length co26] rfl (by (try simp only [List.map_toArray, List.map_cons, List.map_nil]); first | done | rfl | (simp only [List.length_drop, List.length_take]; rfl)) ?_; (with_reducible refine (chalklineref11_joined.calls k1 4 1 (fun k_ => ((P1_ k_ ∨ w.heap.size ≤ k_) ∧ k_ ≠ gb153)) _ _ x5_1 t175 t176 t177 t178 _ ?side1 A25.out).mono ?_); (case side1 => exact Kd.N_V (HO_5.out)); rintro e w27 ⟨v179, rfl, ho0, hb⟩; refine ⟨_, rfl, ?_⟩; have n0_ := Aside0.mk (Kd.V_below (by (with_reducible repeat (first | apply Kd.V_alloc | apply Kd.V_drewN | apply Kd.V_drew)); exact HO_1.out) hb); have n1_ := Aside0.mk (Kd.N_below (by (with_reducible repeat (first | apply Kd.N_alloc | apply Kd.N_drewN | apply Kd.N_drew)); exact HO_5.out) hb); have n2_ := Aside0.mk (Kd.V_lower (Kd.V_mono (ok' := fun k_ => (P1_ k_ ∨ w.heap.size ≤ k_) ∧ k_ ≠ gb153) ho0 (fun k_ hk_ => ⟨Or.elim hk_ (fun hs_ => hs_.1) (fun hn_ => (.inr (Nat.le_trans (below_size (by repeat (first | (with_reducible first | exact HB.out | apply below_alloc | apply pw_below_drewN | apply below_drew1 | refine below_set ?_ GE153.out) | exact HB.out))) hn_))), Or.elim hk_ (fun hs_ => hs_.2) (fun hn_ => (Kd.freshB (g := gb153) (o := .cells #[.int .i64 0, .int .i64 0, .int .i64 0, .slice none 0 0] 24 (0, 0)) (by (with_reducible repeat (first | refine blk_drewN ?_ _ | refine blk_drew ?_ | refine blk_alloc ?_ _)); exact BK153.out) k_ hn_))⟩)) (below_size (by repeat (first | (with_reducible first | exact HB.out | apply below_alloc | apply pw_below_drewN | apply below_drew1 | refine below_set ?_ GE153.out) | exact HB.out)))); have n3_ := Aside0.mk (blk_below (g := gb153) (o := .cells #[.int .i64 0, .int .i64 0, .int .i64 0, .slice none 0 0] 24 (0, 0)) (by (with_reducible repeat (first | refine blk_drewN ?_ _ | refine blk_drew ?_ | refine blk_alloc ?_ _)); exact BK153.out) hb); have n4_ := Aside0.mk (below_step (by repeat (first | (with_reducible first | exact HB.out | apply below_alloc | apply pw_below_drewN | apply below_drew1 | refine below_set ?_ GE153.out) | exact HB.out)) hb); clear HO_1; clear HO_5; clear BK153; clear HB; have HO_1 := n0_; have HO_5 := n1_; have HO180 := n2_; have BK153 := n3_; have HB := n4_; clear n0_ n1_ n2_ n3_ n4_; (try clear hb); (try clear hb2); (try clear hk); (try clear hi); (try clear ho0); have hcz28_0 : w27.cell? ⟨gb153, 0, none⟩ = some (.int .i64 0) := (blk_cell BK153.out 0).trans rfl; have hcz28_1 : w27.cell? ⟨gb153, 1, none⟩ = some (.int .i64 0) := (blk_cell BK153.out 1).trans rfl; have hcz28_2 : w27.cell? ⟨gb153, 2, none⟩ = some (.int .i64 0) := (blk_cell BK153.out 2).trans rfl; have hcz28_3 : w27.cell? ⟨gb153, 3, none⟩ = some (.slice none 0 0) := (blk_cell BK153.out 3).trans rfl; have hfz28_0 := blk_frozen BK153.out 0; have hfz28_1 := blk_frozen BK153.out 1; have hfz28_2 := blk_frozen BK153.out 2; have hfz28_3 := blk_frozen BK153.out 3; obtain ⟨Ao29, co29, eo29⟩ := Kd.V_slice HO180.out; subst eo29))
              refine bodyPost_ret (results_cell_row rfl _ _ gb153 24 #[.int .i64 t175, .int .i64 t176, .int .i64 t177, .slice Ao29 t178.length co29] (0, 0) _ rfl (by (with_reducible repeat (first | refine blk_drewN ?_ _ | refine blk_drew ?_ | refine blk_alloc ?_ _)); refine blk_put (cs := #[.int .i64 t175, .int .i64 t176, .int .i64 t177, .slice none 0 0]) ?_ 3 _ rfl; (with_reducible repeat (first | refine blk_drewN ?_ _ | refine blk_drew ?_ | refine blk_alloc ?_ _)); refine blk_put (cs := #[.int .i64 t175, .int .i64 t176, .int .i64 0, .slice none 0 0]) ?_ 2 _ rfl; (with_reducible repeat (first | refine blk_drewN ?_ _ | refine blk_drew ?_ | refine blk_alloc ?_ _)); refine blk_put (cs := #[.int .i64 t175, .int .i64 0, .int .i64 0, .slice none 0 0]) ?_ 1 _ rfl; (with_reducible repeat (first | refine blk_drewN ?_ _ | refine blk_drew ?_ | refine blk_alloc ?_ _)); refine blk_put (cs := #[.int .i64 0, .int .i64 0, .int .i64 0, .slice none 0 0]) ?_ 0 _ rfl; (with_reducible repeat (first | refine blk_drewN ?_ _ | refine blk_drew ?_ | refine blk_alloc ?_ _)); exact BK153.out) Tryd.underlying24 rfl (by kernel_rfl)) rfl ?_
              exact ⟨_, by first | rfl | (simp [errW_none, errW_some] <;> rfl) | (simp [*, errW_none, errW_some] <;> rfl), by (with_reducible repeat (first | apply Kd.V_alloc | apply Kd.V_drewN | apply Kd.V_drew)); exact Kd.V_mono (Kd.V_far (p := ⟨gb153, 3, none⟩) (Kd.V_far (p := ⟨gb153, 2, none⟩) (Kd.V_far (p := ⟨gb153, 1, none⟩) (Kd.V_far (p := ⟨gb153, 0, none⟩) (Kd.V_mono HO180.out (fun k_ hk => (⟨hk, hk.2⟩ : _ ∧ k_ ≠ gb153))) (fun _ hk => hk.2) (.int .i64 t175)) (fun _ hk => hk.2) (.int .i64 t176)) (fun _ hk => hk.2) (.int .i64 t177)) (fun _ hk => hk.2) (.slice Ao29 t178.length co29)) (fun _ hk => hk.1.1), by repeat (first | (with_reducible first | exact HB.out | apply below_alloc | apply pw_below_drewN | apply below_drew1 | refine below_set ?_ GE153.out) | exact HB.out)⟩
            · rw [if_neg c24] at H
              have c24b0 : (x0_1 == (x5_1.length : Int)) = false := beq_eq_false_iff_ne.mpr c24
              have c24b1 : (x0_1 != (x5_1.length : Int)) = true := bne_iff_ne.mpr c24
              by_cases c30 : x0_1 = 1
              · rw [if_pos c30] at H
                have c30b0 : (x0_1 == 1) = true := beq_iff_eq.mpr c30
                have c30b1 : (x0_1 != 1) = false := bne_eq_false_iff_eq.mpr c30
                clear c30
                replace H := Option.bind_eq_some_iff.mp H
                obtain ⟨⟨t181, t182, t183, t184⟩, A310, H⟩ := H
                replace H : (some (t181, t182, t183, t184)) = some (r1, r2, r3, r4) := H
                have A31 := Aside0.mk A310
                clear A310
                simp only [Option.some.injEq, Prod.mk.injEq] at H
                obtain ⟨rfl, rfl, rfl, rfl⟩ := H
                obtain ⟨Ao32, co32, eo32⟩ := Kd.N_slice HO_5.out
                subst eo32
                go_wp2_with (first | ((with_reducible refine gate_callee (f := 49) rfl ?_); refine goesL_ (some 53) rfl rfl Tryd.func49 (by kernel_rfl) rfl #[.int .i64 5, .int .i64 0, .slice Ao32 x5_1.length co32] rfl (by (try simp only [List.map_toArray, List.map_cons, List.map_nil]); first | done | rfl | (simp only [List.length_drop, List.length_take]; rfl)) ?_; (with_reducible refine (chalklineref11_joined.calls k1 5 0 (fun k_ => ((P1_ k_ ∨ w.heap.size ≤ k_) ∧ k_ ≠ gb153)) _ _ x5_1 t181 t182 t183 t184 _ ?side1 A31.out).mono ?_); (case side1 => exact Kd.N_V (HO_5.out)); rintro e w33 ⟨v185, rfl, ho0, hb⟩; refine ⟨_, rfl, ?_⟩; have n0_ := Aside0.mk (Kd.V_below (by (with_reducible repeat (first | apply Kd.V_alloc | apply Kd.V_drewN | apply Kd.V_drew)); exact HO_1.out) hb); have n1_ := Aside0.mk (Kd.N_below (by (with_reducible repeat (first | apply Kd.N_alloc | apply Kd.N_drewN | apply Kd.N_drew)); exact HO_5.out) hb); have n2_ := Aside0.mk (Kd.V_lower (Kd.V_mono (ok' := fun k_ => (P1_ k_ ∨ w.heap.size ≤ k_) ∧ k_ ≠ gb153) ho0 (fun k_ hk_ => ⟨Or.elim hk_ (fun hs_ => hs_.1) (fun hn_ => (.inr (Nat.le_trans (below_size (by repeat (first | (with_reducible first | exact HB.out | apply below_alloc | apply pw_below_drewN | apply below_drew1 | refine below_set ?_ GE153.out) | exact HB.out))) hn_))), Or.elim hk_ (fun hs_ => hs_.2) (fun hn_ => (Kd.freshB (g := gb153) (o := .cells #[.int .i64 0, .int .i64 0, .int .i64 0, .slice none 0 0] 24 (0, 0)) (by (with_reducible repeat (first | refine blk_drewN ?_ _ | refine blk_drew ?_ | refine blk_alloc ?_ _)); exact BK153.out) k_ hn_))⟩)) (below_size (by repeat (first | (with_reducible first | exact HB.out | apply below_alloc | apply pw_below_drewN | apply below_drew1 | refine below_set ?_ GE153.out) | exact HB.out)))); have n3_ := Aside0.mk (blk_below (g := gb153) (o := .cells #[.int .i64 0, .int .i64 0, .int .i64 0, .slice none 0 0] 24 (0, 0)) (by (with_reducible repeat (first | refine blk_drewN ?_ _ | refine blk_drew ?_ | refine blk_alloc ?_ _)); exact BK153.out) hb); have n4_ := Aside0.mk (below_step (by repeat (first | (with_reducible first | exact HB.out | apply below_alloc | apply pw_below_drewN | apply below_drew1 | refine below_set ?_ GE153.out) | exact HB.out)) hb); clear HO_1; clear HO_5; clear BK153; clear HB; have HO_1 := n0_; have HO_5 := n1_; have HO186 := n2_; have BK153 := n3_; have HB := n4_; clear n0_ n1_ n2_ n3_ n4_; (try clear hb); (try clear hb2); (try clear hk); (try clear hi); (try clear ho0); have hcz34_0 : w33.cell? ⟨gb153, 0, none⟩ = some (.int .i64 0) := (blk_cell BK153.out 0).trans rfl; have hcz34_1 : w33.cell? ⟨gb153, 1, none⟩ = some (.int .i64 0) := (blk_cell BK153.out 1).trans rfl; have hcz34_2 : w33.cell? ⟨gb153, 2, none⟩ = some (.int .i64 0) := (blk_cell BK153.out 2).trans rfl; have hcz34_3 : w33.cell? ⟨gb153, 3, none⟩ = some (.slice none 0 0) := (blk_cell BK153.out 3).trans rfl; have hfz34_0 := blk_frozen BK153.out 0; have hfz34_1 := blk_frozen BK153.out 1; have hfz34_2 := blk_frozen BK153.out 2; have hfz34_3 := blk_frozen BK153.out 3; obtain ⟨Ao35, co35, eo35⟩ := Kd.V_slice HO186.out; subst eo35))
                refine bodyPost_ret (results_cell_row rfl _ _ gb153 24 #[.int .i64 t181, .int .i64 t182, .int .i64 t183, .slice Ao35 t184.length co35] (0, 0) _ rfl (by (with_reducible repeat (first | refine blk_drewN ?_ _ | refine blk_drew ?_ | refine blk_alloc ?_ _)); refine blk_put (cs := #[.int .i64 t181, .int .i64 t182, .int .i64 t183, .slice none 0 0]) ?_ 3 _ rfl; (with_reducible repeat (first | refine blk_drewN ?_ _ | refine blk_drew ?_ | refine blk_alloc ?_ _)); refine blk_put (cs := #[.int .i64 t181, .int .i64 t182, .int .i64 0, .slice none 0 0]) ?_ 2 _ rfl; (with_reducible repeat (first | refine blk_drewN ?_ _ | refine blk_drew ?_ | refine blk_alloc ?_ _)); refine blk_put (cs := #[.int .i64 t181, .int .i64 0, .int .i64 0, .slice none 0 0]) ?_ 1 _ rfl; (with_reducible repeat (first | refine blk_drewN ?_ _ | refine blk_drew ?_ | refine blk_alloc ?_ _)); refine blk_put (cs := #[.int .i64 0, .int .i64 0, .int .i64 0, .slice none 0 0]) ?_ 0 _ rfl; (with_reducible repeat (first | refine blk_drewN ?_ _ | refine blk_drew ?_ | refine blk_alloc ?_ _)); exact BK153.out) Tryd.underlying24 rfl (by kernel_rfl)) rfl ?_
                exact ⟨_, by first | rfl | (simp [errW_none, errW_some] <;> rfl) | (simp [*, errW_none, errW_some] <;> rfl), by (with_reducible repeat (first | apply Kd.V_alloc | apply Kd.V_drewN | apply Kd.V_drew)); exact Kd.V_mono (Kd.V_far (p := ⟨gb153, 3, none⟩) (Kd.V_far (p := ⟨gb153, 2, none⟩) (Kd.V_far (p := ⟨gb153, 1, none⟩) (Kd.V_far (p := ⟨gb153, 0, none⟩) (Kd.V_mono HO186.out (fun k_ hk => (⟨hk, hk.2⟩ : _ ∧ k_ ≠ gb153))) (fun _ hk => hk.2) (.int .i64 t181)) (fun _ hk => hk.2) (.int .i64 t182)) (fun _ hk => hk.2) (.int .i64 t183)) (fun _ hk => hk.2) (.slice Ao35 t184.length co35)) (fun _ hk => hk.1.1), by repeat (first | (with_reducible first | exact HB.out | apply below_alloc | apply pw_below_drewN | apply below_drew1 | refine below_set ?_ GE153.out) | exact HB.out)⟩
              · rw [if_neg c30] at H
                have c30b0 : (x0_1 == 1) = false := beq_eq_false_iff_ne.mpr c30
                have c30b1 : (x0_1 != 1) = true := bne_iff_ne.mpr c30
                simp only [Option.some.injEq, Prod.mk.injEq] at H
                obtain ⟨rfl, rfl, rfl, rfl⟩ := H
                obtain ⟨Ao36, co36, eo36⟩ := Kd.N_slice HO_5.out
                subst eo36
                have hcz37_0 : wr.cell? ⟨gb153, 0, none⟩ = some (.int .i64 0) := (blk_cell BK153.out 0).trans rfl
                have hcz37_1 : wr.cell? ⟨gb153, 1, none⟩ = some (.int .i64 0) := (blk_cell BK153.out 1).trans rfl
                have hcz37_2 : wr.cell? ⟨gb153, 2, none⟩ = some (.int .i64 0) := (blk_cell BK153.out 2).trans rfl
                have hcz37_3 : wr.cell? ⟨gb153, 3, none⟩ = some (.slice none 0 0) := (blk_cell BK153.out 3).trans rfl
                have hfz37_0 := blk_frozen BK153.out 0
                have hfz37_1 := blk_frozen BK153.out 1
                have hfz37_2 := blk_frozen BK153.out 2
                have hfz37_3 := blk_frozen BK153.out 3
                go_wp2
                refine bodyPost_ret (results_cell_row rfl _ _ gb153 24 #[.int .i64 6, .int .i64 0, .int .i64 x0_1, .slice Ao36 x5_1.length co36] (0, 0) _ rfl (by (with_reducible repeat (first | refine blk_drewN ?_ _ | refine blk_drew ?_ | refine blk_alloc ?_ _)); refine blk_put (cs := #[.int .i64 6, .int .i64 0, .int .i64 x0_1, .slice none 0 0]) ?_ 3 _ rfl; (with_reducible repeat (first | refine blk_drewN ?_ _ | refine blk_drew ?_ | refine blk_alloc ?_ _)); refine blk_put (cs := #[.int .i64 6, .int .i64 0, .int .i64 0, .slice none 0 0]) ?_ 2 _ rfl; (with_reducible repeat (first | refine blk_drewN ?_ _ | refine blk_drew ?_ | refine blk_alloc ?_ _)); refine blk_put (cs := #[.int .i64 6, .int .i64 0, .int .i64 0, .slice none 0 0]) ?_ 1 _ rfl; (with_reducible repeat (first | refine blk_drewN ?_ _ | refine blk_drew ?_ | refine blk_alloc ?_ _)); refine blk_put (cs := #[.int .i64 0, .int .i64 0, .int .i64 0, .slice none 0 0]) ?_ 0 _ rfl; (with_reducible repeat (first | refine blk_drewN ?_ _ | refine blk_drew ?_ | refine blk_alloc ?_ _)); exact BK153.out) Tryd.underlying24 rfl (by kernel_rfl)) rfl ?_
                exact ⟨_, by first | rfl | (simp [errW_none, errW_some] <;> rfl) | (simp [*, errW_none, errW_some] <;> rfl), Kd.N_V (by (with_reducible repeat (first | apply Kd.N_alloc | apply Kd.N_drewN | apply Kd.N_drew)); exact Kd.N_mono (Kd.N_far (p := ⟨gb153, 3, none⟩) (Kd.N_far (p := ⟨gb153, 2, none⟩) (Kd.N_far (p := ⟨gb153, 1, none⟩) (Kd.N_far (p := ⟨gb153, 0, none⟩) (Kd.N_mono HO_5.out (fun k_ hk => (⟨hk, hk.2⟩ : _ ∧ k_ ≠ gb153))) (fun _ hk => hk.2) (.int .i64 6)) (fun _ hk => hk.2) (.int .i64 0)) (fun _ hk => hk.2) (.int .i64 x0_1)) (fun _ hk => hk.2) (.slice Ao36 x5_1.length co36)) (fun _ hk => hk.1.1)), by repeat (first | (with_reducible first | exact HB.out | apply below_alloc | apply pw_below_drewN | apply below_drew1 | refine below_set ?_ GE153.out) | exact HB.out)⟩

/-! ### chalklineref11_simple: function 33 -/
mutual
def chalklineref11_simple.l0 : Nat → List (S24) → Int → Int → Int → Int → List (S24) → Option (Int × Int × Int × (List (S24)))
  | 0, _, _, _, _, _, _ => none
  | k + 1, x3, x4, x188000, x188001, x188002, x188003 => if x4 < (x188003.length : Int) then (if 0 ≤ x4 then ((chalklineref11_simple.f k ((rd_T24 x188003 x4).f0) ((rd_T24 x188003 x4).f1) ((rd_T24 x188003 x4).f2) ((rd_T24 x188003 x4).f3)).bind fun bt193 => (if x3.length < 2932031007402 then (chalklineref11_simple.l0 k (x3 ++ [(⟨bt193.1, bt193.2.1, bt193.2.2.1, bt193.2.2.2⟩ : S24)]) (wrap64 (x4 + 1)) x188000 x188001 x188002 x188003) else (none))) else (none)) else (if x188000 = 3 then (if 0 < (x3.length : Int) then (if ((rd_T24 x3 0).f0) = 1 then ((chalklineref11_constant.f (wrap64 (1 - ((rd_T24 x3 0).f1)))).bind fun bt204 => (some (bt204.1, bt204.2.1, bt204.2.2.1, bt204.2.2.2))) else (if ((rd_T24 x3 0).f0) = 3 then (if 0 < (((rd_T24 x3 0).f3).length : Int) then (some ((rd_T24 ((rd_T24 x3 0).f3) 0).f0, (rd_T24 ((rd_T24 x3 0).f3) 0).f1, (rd_T24 ((rd_T24 x3 0).f3) 0).f2, (rd_T24 ((rd_T24 x3 0).f3) 0).f3)) else (none)) else (some (3, 0, 0, x3)))) else (none)) else (if x188000 = 4 then ((chalklineref11_joined.f k 4 1 x3).bind fun bt213 => (some (bt213.1, bt213.2.1, bt213.2.2.1, bt213.2.2.2))) else (if x188000 = 5 then ((chalklineref11_joined.f k 5 0 x3).bind fun bt219 => (some (bt219.1, bt219.2.1, bt219.2.2.1, bt219.2.2.2))) else (if x188000 = 6 then ((chalklineref11_least.f k x188002 x3).bind fun bt225 => (some (bt225.1, bt225.2.1, bt225.2.2.1, bt225.2.2.2))) else (some (x188000, x188001, x188002, x188003))))))
def chalklineref11_simple.f : Nat → Int → Int → Int → List (S24) → Option (Int × Int × Int × (List (S24)))
  | 0, _, _, _, _ => none
  | k + 1, a0_0, a0_1, a0_2, l0_3 => chalklineref11_simple.l0 k (([] : List (S24))) 0 a0_0 a0_1 a0_2 l0_3
end
theorem chalklineref11_simple.mono_l : ∀ k, (∀ y0 y1 y2 y3, LeO (chalklineref11_simple.f k y0 y1 y2 y3) (chalklineref11_simple.f (k + 1) y0 y1 y2 y3)) ∧ (∀ y0 y1 y2 y3 y4 y5, LeO (chalklineref11_simple.l0 k y0 y1 y2 y3 y4 y5) (chalklineref11_simple.l0 (k + 1) y0 y1 y2 y3 y4 y5))
  | 0 => ⟨fun _ _ _ _ r h => by simp [chalklineref11_simple.f] at h, fun _ _ _ _ _ _ r h => by simp [chalklineref11_simple.l0] at h⟩
  | k + 1 => by
    obtain ⟨ih0, ih1⟩ := chalklineref11_simple.mono_l k
    refine ⟨?_, ?_⟩
    · intro y0 y1 y2 y3
      unfold chalklineref11_simple.f
      repeat' first
      | (with_reducible exact ih0 _ _ _ _)
      | (with_reducible exact ih1 _ _ _ _ _ _)
      | (with_reducible exact chalklineref11_joined.mono _ _ _ _)
      | (with_reducible exact chalklineref11_least.mono _ _ _)
      | (with_reducible exact LeO.refl _)
      | (with_reducible exact LeO.none _)
      | (with_reducible refine LeO.ite ?_ ?_)
      | (with_reducible refine LeO.bind ?_ (fun _ => ?_))
      | exact ih0 _ _ _ _
      | exact ih1 _ _ _ _ _ _
      | exact chalklineref11_joined.mono _ _ _ _
      | exact chalklineref11_least.mono _ _ _
      | exact LeO.none _
      | refine LeO.ite ?_ ?_
      | refine LeO.bind ?_ (fun _ => ?_)
    · intro y0 y1 y2 y3 y4 y5
      unfold chalklineref11_simple.l0
      repeat' first
      | (with_reducible exact ih0 _ _ _ _)
      | (with_reducible exact ih1 _ _ _ _ _ _)
      | (with_reducible exact chalklineref11_joined.mono _ _ _ _)
      | (with_reducible exact chalklineref11_least.mono _ _ _)
      | (with_reducible exact LeO.refl _)
      | (with_reducible exact LeO.none _)
      | (with_reducible refine LeO.ite ?_ ?_)
      | (with_reducible refine LeO.bind ?_ (fun _ => ?_))
      | exact ih0 _ _ _ _
      | exact ih1 _ _ _ _ _ _
      | exact chalklineref11_joined.mono _ _ _ _
      | exact chalklineref11_least.mono _ _ _
      | exact LeO.none _
      | refine LeO.ite ?_ ?_
      | refine LeO.bind ?_ (fun _ => ?_)
theorem chalklineref11_simple.mono : ∀ a0 a1 a2 a3 k, LeO (chalklineref11_simple.f k a0 a1 a2 a3) (chalklineref11_simple.f (k + 1) a0 a1 a2 a3) := by
  intro a0 a1 a2 a3 k
  obtain ⟨ih0, ih1⟩ := chalklineref11_simple.mono_l k
  exact ih0 a0 a1 a2 a3
set_option maxHeartbeats 8000000 in
set_option maxRecDepth 100000 in
theorem chalklineref11_simple.calls (k : Nat) : ∀ (a0_0 : Int) (a0_1 : Int) (a0_2 : Int) (P0_3_ : Nat → Prop) (A0_3 : Option Addr) (c0_3 : Nat) (l0_3 : List (S24)) (r1 : Int) (r2 : Int) (r3 : Int) (r4 : List (S24)) (w : World) (hs0_3 : Kd.V k24 24 w w.heap.size (fun k_ => P0_3_ k_) (.slice A0_3 l0_3.length c0_3) l0_3) (h : chalklineref11_simple.f k a0_0 a0_1 a0_2 l0_3 = some (r1, r2, r3, r4)),
    Calls Tryd.prog 33 #[.agg #[.int .i64 a0_0, .int .i64 a0_1, .int .i64 a0_2, .slice A0_3 l0_3.length c0_3]] w fun e w' => ∃ v3_ : Value, e = .returned (.agg #[.int .i64 r1, .int .i64 r2, .int .i64 r3, v3_]) ∧ Kd.V k24 24 w' w.heap.size (fun k_ => (P0_3_ k_ ∨ w.heap.size ≤ k_)) v3_ r4 ∧ Below w.heap.size w w' := by
  induction k using Nat.strongRecOn with
  | _ k ih =>
  intro a0_0 a0_1 a0_2 P0_3_ A0_3 c0_3 l0_3 r1 r2 r3 r4 w hs0_3 h
  cases k with
  | zero => exact absurd h (by simp [chalklineref11_simple.f])
  | succ k =>
  simp only [chalklineref11_simple.f] at h
  have hu24 := Tryd.underlying24
  have HO0_3 := Aside0.mk (show Kd.V k24 24 w w.heap.size (fun k_ => (P0_3_ k_ ∨ w.heap.size ≤ k_)) (.slice A0_3 l0_3.length c0_3) l0_3 from Kd.V_mono hs0_3 (fun k_ hk => .inl hk))
  have HB := Aside0.mk (Below.refl w.heap.size w)
  have H : (chalklineref11_simple.l0 k (([] : List (S24))) 0 a0_0 a0_1 a0_2 l0_3) = some (r1, r2, r3, r4) := h
  clear h
  obtain ⟨y189, hy189⟩ : ∃ y_ : List (S24), y_ = (([] : List (S24))) := ⟨_, rfl⟩
  replace H : (chalklineref11_simple.l0 k y189 0 a0_0 a0_1 a0_2 l0_3) = some (r1, r2, r3, r4) := by first | (rw [hy189]; with_reducible exact H) | (have H2_ := (Option.bind_some _ _).symm.trans H; rw [hy189]; with_reducible exact H2_) | (have H2_ := (Option.bind_some _ _).symm.trans H; with_reducible exact H2_) | with_reducible exact H | (rw [hy189]; exact H) | exact H
  have Ny189 := Aside0.mk hy189
  clear hy189
  have H' := Aside0.mk H
  clear H
  go_enter Tryd.func33, Tryd.ntmps33
  go_wp2_with (first | ((with_reducible refine gate_dst (N := 1) rfl ?_); refine box_event ?hg (N := 1) ?hd (cs := #[.int .i64 a0_0, .int .i64 a0_1, .int .i64 a0_2, .slice A0_3 l0_3.length c0_3]) (t := 24) ?hr ?_; (case hd => rfl); (case hg => rfl); (case hr => first | (go_simp; done) | (go_simp; rfl)); intro gb187 hg w2 hbox hb; have n0_ := Aside0.mk (Kd.V_below (Kd.V_elderB (by (with_reducible repeat (first | apply Kd.V_alloc | apply Kd.V_drewN | apply Kd.V_drew)); exact HO0_3.out) gb187 (Nat.le_of_eq hg.symm)) hb); have n1_ := Aside0.mk (below_step (by repeat (first | (with_reducible first | exact HB.out | apply below_alloc | apply pw_below_drewN | apply below_drew1) | exact HB.out)) hb); have n2_ := Aside0.mk (hbox); have n3_ := Aside0.mk ((by rw [hg]; exact (below_size (by repeat (first | (with_reducible first | exact HB.out | apply below_alloc | apply pw_below_drewN | apply below_drew1) | exact HB.out))) : w.heap.size ≤ gb187)); have n4_ := Aside0.mk ((by rw [hg]; exact (below_size (by repeat (first | (with_reducible first | exact HB.out | apply below_alloc | apply pw_below_drewN | apply below_drew1) | exact HB.out))) : w.heap.size ≤ gb187)); clear HO0_3; clear HB; have HO0_3 := n0_; have HB := n1_; have BK187 := n2_; have GW187 := n3_; have GE187 := n4_; clear n0_ n1_ n2_ n3_ n4_; clear hb hbox hg) | ((with_reducible refine gate_dst (N := 2) rfl ?_); refine box_event ?hg (N := 2) ?hd (cs := #[.int .i64 0, .int .i64 0, .int .i64 0, .slice none 0 0]) (t := 24) ?hr ?_; (case hd => rfl); (case hg => rfl); (case hr => first | (go_simp; done) | (go_simp; rfl)); intro gb188 hg w3 hbox hb; have n0_ := Aside0.mk (Kd.V_below (Kd.V_elderB (by (with_reducible repeat (first | apply Kd.V_alloc | apply Kd.V_drewN | apply Kd.V_drew)); exact HO0_3.out) gb188 (Nat.le_of_eq hg.symm)) hb); have n1_ := Aside0.mk (blk_below (g := gb187) (o := .cells #[.int .i64 a0_0, .int .i64 a0_1, .int .i64 a0_2, .slice A0_3 l0_3.length c0_3] 24 (0, 0)) (by (with_reducible repeat (first | refine blk_drewN ?_ _ | refine blk_drew ?_ | refine blk_alloc ?_ _)); exact BK187.out) hb); have n2_ := Aside0.mk (below_step (by repeat (first | (with_reducible first | exact HB.out | apply below_alloc | apply pw_below_drewN | apply below_drew1 | refine below_set ?_ GE187.out) | exact HB.out)) hb); have n3_ := Aside0.mk (hbox); have n4_ := Aside0.mk ((by rw [hg]; exact (below_size (by repeat (first | (with_reducible first | exact HB.out | apply below_alloc | apply pw_below_drewN | apply below_drew1 | refine below_set ?_ GE187.out) | exact HB.out))) : w.heap.size ≤ gb188)); have n5_ := Aside0.mk ((by rw [hg]; exact (below_size (by repeat (first | (with_reducible first | exact HB.out | apply below_alloc | apply pw_below_drewN | apply below_drew1 | refine below_set ?_ GE187.out) | exact HB.out))) : w.heap.size ≤ gb188)); have n6_ := Aside0.mk ((by rw [hg]; exact Nat.ne_of_lt (blk_lt (g := gb187) (o := .cells #[.int .i64 a0_0, .int .i64 a0_1, .int .i64 a0_2, .slice A0_3 l0_3.length c0_3] 24 (0, 0)) (by (with_reducible repeat (first | refine blk_drewN ?_ _ | refine blk_drew ?_ | refine blk_alloc ?_ _)); exact BK187.out)) : gb187 ≠ gb188)); have n7_ := Aside0.mk ((by rw [hg]; exact Nat.ne_of_gt (blk_lt (g := gb187) (o := .cells #[.int .i64 a0_0, .int .i64 a0_1, .int .i64 a0_2, .slice A0_3 l0_3.length c0_3] 24 (0, 0)) (by (with_reducible repeat (first | refine blk_drewN ?_ _ | refine blk_drew ?_ | refine blk_alloc ?_ _)); exact BK187.out)) : gb188 ≠ gb187)); clear HO0_3; clear BK187; clear HB; have HO0_3 := n0_; have BK187 := n1_; have HB := n2_; have BK188 := n3_; have GW188 := n4_; have GE188 := n5_; have NB187_188 := n6_; have NB188_187 := n7_; clear n0_ n1_ n2_ n3_ n4_ n5_ n6_ n7_; clear hb hbox hg) | ((with_reducible refine gate_dst (N := 5) rfl ?_); refine Kd.N_lit k24 _ 24 ?hg (N' := 5) ?hd (xs := ([] : List (S24))) (inner := []) (ok := (fun k_ => (P0_3_ k_ ∨ w.heap.size ≤ k_) ∧ k_ ≠ gb187 ∧ k_ ≠ gb188)) (okp := (fun k_ => (P0_3_ k_ ∨ w.heap.size ≤ k_) ∧ k_ ≠ gb187 ∧ k_ ≠ gb188)) ?hr ?hp (fun _ hk => hk) ((show ∀ k_, w3.heap.size ≤ k_ → (fun k_ => (P0_3_ k_ ∨ w.heap.size ≤ k_) ∧ k_ ≠ gb187 ∧ k_ ≠ gb188) k_ from fun k_ hk => ⟨(.inr (Nat.le_trans (below_size (by repeat (first | (with_reducible first | exact HB.out | apply below_alloc | apply pw_below_drewN | apply below_drew1 | refine below_set ?_ GE187.out | refine below_set ?_ GE188.out) | exact HB.out))) hk)), Kd.freshB (g := gb187) (o := .cells #[.int .i64 a0_0, .int .i64 a0_1, .int .i64 a0_2, .slice A0_3 l0_3.length c0_3] 24 (0, 0)) (by (with_reducible repeat (first | refine blk_drewN ?_ _ | refine blk_drew ?_ | refine blk_alloc ?_ _)); exact BK187.out) k_ hk, Kd.freshB (g := gb188) (o := .cells #[.int .i64 0, .int .i64 0, .int .i64 0, .slice none 0 0] 24 (0, 0)) (by (with_reducible repeat (first | refine blk_drewN ?_ _ | refine blk_drew ?_ | refine blk_alloc ?_ _)); exact BK188.out) k_ hk⟩) _ (Nat.le_refl _)) (Below.refl _ _) (Nat.le_refl _) (by simp) ?_; (case hd => rfl); (case hg => rfl); (case hr => first | (go_simp; done) | (go_simp; rfl)); (case hp => exact (Reps.none _ _)); intro v190 w4 ho5 hb hg_ hnew_; clear hg_ hnew_; (first | rw [← Ny189.out] at ho5 | (simp only [Int.reduceToNat] at ho5; rw [← Ny189.out] at ho5)); have n0_ := Aside0.mk (Kd.V_elder' (by (with_reducible repeat (first | apply Kd.V_alloc | apply Kd.V_drewN | apply Kd.V_drew)); exact HO0_3.out) (Kd.N_base ho5) hb); have n1_ := Aside0.mk (Kd.N_lower ho5 (below_size (by repeat (first | (with_reducible first | exact HB.out | apply below_alloc | apply pw_below_drewN | apply below_drew1 | refine below_set ?_ GE187.out | refine below_set ?_ GE188.out) | exact HB.out)))); have n2_ := Aside0.mk (blk_below (g := gb187) (o := .cells #[.int .i64 a0_0, .int .i64 a0_1, .int .i64 a0_2, .slice A0_3 l0_3.length c0_3] 24 (0, 0)) (by (with_reducible repeat (first | refine blk_drewN ?_ _ | refine blk_drew ?_ | refine blk_alloc ?_ _)); exact BK187.out) hb); have n3_ := Aside0.mk (blk_below (g := gb188) (o := .cells #[.int .i64 0, .int .i64 0, .int .i64 0, .slice none 0 0] 24 (0, 0)) (by (with_reducible repeat (first | refine blk_drewN ?_ _ | refine blk_drew ?_ | refine blk_alloc ?_ _)); exact BK188.out) hb); have n4_ := Aside0.mk (below_step (by repeat (first | (with_reducible first | exact HB.out | apply below_alloc | apply pw_below_drewN | apply below_drew1 | refine below_set ?_ GE187.out | refine below_set ?_ GE188.out) | exact HB.out)) hb); clear HO0_3; clear BK187; clear BK188; clear HB; have HO0_3 := n0_; have HO191 := n1_; have BK187 := n2_; have BK188 := n3_; have HB := n4_; clear n0_ n1_ n2_ n3_ n4_; clear hb ho5))
  go_loopg [3, 4] k (fun kq v3 v4 w' => ∃ (x3_1 : List (S24)) (x4_1 : Int), v4 = .int .i64 x4_1 ∧ Aside0 (chalklineref11_simple.l0 kq x3_1 x4_1 a0_0 a0_1 a0_2 l0_3 = some (r1, r2, r3, r4)) ∧ Aside0 (kq ≤ k) ∧ Aside0 (Kd.N k24 24 w' w.heap.size (fun k_ => (P0_3_ k_ ∨ w.heap.size ≤ k_) ∧ k_ ≠ gb187 ∧ k_ ≠ gb188) v3 x3_1) ∧ Aside0 (Kd.V k24 24 w' w.heap.size (fun k_ => (P0_3_ k_ ∨ w.heap.size ≤ k_) ∧ some k_ ≠ (v3 : Value).ownBlock ∧ k_ ≠ gb187 ∧ k_ ≠ gb188) (.slice A0_3 l0_3.length c0_3) l0_3) ∧ Aside0 (w'.heap[gb187]? = some (.cells #[.int .i64 a0_0, .int .i64 a0_1, .int .i64 a0_2, (.slice A0_3 l0_3.length c0_3)] 24 (0, 0))) ∧ Aside0 (w'.heap[gb188]? = some (.cells #[.int .i64 0, .int .i64 0, .int .i64 0, (.slice none 0 0)] 24 (0, 0))) ∧ Aside0 (Below w.heap.size w w'))
  case atStart => exact ⟨(y189), (0), (by first | rfl | (simp; done) | (simp [*]; done)), H', ⟨Nat.le_refl _⟩, ⟨by (with_reducible repeat (first | apply Kd.N_alloc | apply Kd.N_drewN | apply Kd.N_drew)); exact HO191.out⟩, ⟨by (with_reducible repeat (first | apply Kd.V_alloc | apply Kd.V_drewN | apply Kd.V_drew)); exact Kd.V_mono HO0_3.out (fun _ hk => ⟨hk.1.1.1, ⟨hk.2, ⟨hk.1.1.2, hk.1.2⟩⟩⟩)⟩, ⟨by (with_reducible repeat (first | refine blk_drewN ?_ _ | refine blk_drew ?_ | refine blk_alloc ?_ _)); exact BK187.out⟩, ⟨by (with_reducible repeat (first | refine blk_drewN ?_ _ | refine blk_drew ?_ | refine blk_alloc ?_ _)); exact BK188.out⟩, ⟨by repeat (first | (with_reducible first | exact HB.out | apply below_alloc | apply pw_below_drewN | apply below_drew1 | refine below_set ?_ GE187.out | refine below_set ?_ GE188.out) | exact HB.out)⟩⟩
  case round =>
    clear H'
    try clear p2
    try clear c3
    obtain ⟨x3_1, x4_1, rfl, HA, HK1, HO_3, HO_188003, BK187, BK188, HB⟩ := hrel
    cases gk with
    | zero => exact absurd HA.out (by simp [chalklineref11_simple.l0])
    | succ k1 =>
      have H := HA.out
      clear HA
      simp only [chalklineref11_simple.l0] at H
      by_cases c6 : x4_1 < (l0_3.length : Int)
      · rw [if_pos c6] at H
        have c6b0 : decide (x4_1 < (l0_3.length : Int)) = true := decide_eq_true c6
        clear c6
        by_cases c7 : 0 ≤ x4_1
        · rw [if_pos c7] at H
          have c7b0 : decide (0 ≤ x4_1) = true := decide_eq_true c7
          clear c7
          replace H := Option.bind_eq_some_iff.mp H
          obtain ⟨⟨t193, t194, t195, t196⟩, A80, H⟩ := H
          replace H : (if x3_1.length < 2932031007402 then (chalklineref11_simple.l0 k1 (x3_1 ++ [(⟨t193, t194, t195, t196⟩ : S24)]) (wrap64 (x4_1 + 1)) a0_0 a0_1 a0_2 l0_3) else (none)) = some (r1, r2, r3, r4) := H
          have A8 := Aside0.mk A80
          clear A80
          by_cases c9 : x3_1.length < 2932031007402
          · rw [if_pos c9] at H
            have LMc9 := Aside0.mk c9
            clear c9
            obtain ⟨y199, hy199⟩ : ∃ y_ : List (S24), y_ = (x3_1 ++ [(⟨t193, t194, t195, t196⟩ : S24)]) := ⟨_, rfl⟩
            replace H : (chalklineref11_simple.l0 k1 y199 (wrap64 (x4_1 + 1)) a0_0 a0_1 a0_2 l0_3) = some (r1, r2, r3, r4) := by first | (rw [hy199]; with_reducible exact H) | (have H2_ := (Option.bind_some _ _).symm.trans H; rw [hy199]; with_reducible exact H2_) | (have H2_ := (Option.bind_some _ _).symm.trans H; with_reducible exact H2_) | with_reducible exact H | (rw [hy199]; exact H) | exact H
            have Ny199 := Aside0.mk hy199
            clear hy199
            have H' := Aside0.mk H
            clear H
            have hnb10 := NB187_188.out
            have hnc10 := NB188_187.out
            have hcz11_0 : wr.cell? ⟨gb187, 0, none⟩ = some (.int .i64 a0_0) := (blk_cell BK187.out 0).trans rfl
            have hcz11_1 : wr.cell? ⟨gb187, 1, none⟩ = some (.int .i64 a0_1) := (blk_cell BK187.out 1).trans rfl
            have hcz11_2 : wr.cell? ⟨gb187, 2, none⟩ = some (.int .i64 a0_2) := (blk_cell BK187.out 2).trans rfl
            have hcz11_3 : wr.cell? ⟨gb187, 3, none⟩ = some (.slice A0_3 l0_3.length c0_3) := (blk_cell BK187.out 3).trans rfl
            have hfz11_0 := blk_frozen BK187.out 0
            have hfz11_1 := blk_frozen BK187.out 1
            have hfz11_2 := blk_frozen BK187.out 2
            have hfz11_3 := blk_frozen BK187.out 3
            have p192 : 0 ≤ (x4_1 : Int) := of_decide_eq_true (by first | (with_reducible assumption) | assumption)
            have q192 : x4_1 < (l0_3.length : Int) := of_decide_eq_true (by first | (with_reducible assumption) | assumption)
            obtain ⟨ad192, A192_3, c192_3, e192, hx192_0, hx192_1, hx192_2, hx192_3, hl192_3, hi192_3⟩ := at_T24 (Kd.V_reads' HO_188003.out).2.2 x4_1 p192 q192
            cases e192
            obtain ⟨ce192, hce192, hMe192, hcc192⟩ := Kd.V_get HO_188003.out z24 x4_1 p192 (by first | exact q192 | exact of_decide_eq_true (by first | (with_reducible assumption) | assumption) | (have e_ := (Kd.V_reads' HO_188003.out).1; omega))
            obtain ⟨ua192_3, uc192_3, rfl, ul192_3, ge192_3⟩ := k24_openF hMe192
            have hv192_3 := hcc192 3 _ rfl
            rw [add_field _ _ 3 (by omega)] at hv192_3
            replace hv192_3 := Option.some.inj (hv192_3.symm.trans hx192_3)
            injection hv192_3 with hva_ hvn_ hvc_
            rw [hva_] at ge192_3
            rw [hvc_] at ul192_3
            have HL192_3 := Aside0.mk (show Kd.V k24 24 _ w.heap.size _ _ ((rd_T24 l0_3 x4_1).f3) from Kd.V_mk ul192_3 ge192_3)
            clear hva_ hvn_ hvc_ ge192_3 ul192_3
            clear hcc192 hce192
            have HR192_3 := Aside0.mk hi192_3
            have HC192_3 := Aside0.mk hl192_3
            clear hi192_3 hl192_3
            replace p192 := eq_true p192
            replace q192 := eq_true q192
            go_wp2_with (first | ((with_reducible refine gate_callee (f := 33) rfl ?_); refine goesL_ (some 19) rfl rfl Tryd.func33 (by kernel_rfl) rfl #[.agg #[.int .i64 ((rd_T24 l0_3 x4_1).f0), .int .i64 ((rd_T24 l0_3 x4_1).f1), .int .i64 ((rd_T24 l0_3 x4_1).f2), .slice A192_3 ((rd_T24 l0_3 x4_1).f3).length c192_3]] rfl (by (try simp only [List.map_toArray, List.map_cons, List.map_nil]); first | done | rfl | (simp only [List.length_drop, List.length_take]; rfl)) ?_; (with_reducible refine (ih k1 (by have := HK1.out; omega) ((rd_T24 l0_3 x4_1).f0) ((rd_T24 l0_3 x4_1).f1) ((rd_T24 l0_3 x4_1).f2) (fun k_ => ((P0_3_ k_ ∨ w.heap.size ≤ k_) ∧ (some k_ ≠ (u3 : Value).ownBlock ∧ (k_ ≠ gb187 ∧ k_ ≠ gb188)))) _ _ ((rd_T24 l0_3 x4_1).f3) t193 t194 t195 t196 _ ?side1 A8.out).mono ?_); (case side1 => exact HL192_3.out); rintro e w12 ⟨v197, rfl, ho0, hb⟩; refine ⟨_, rfl, ?_⟩; have n0_ := Aside0.mk (Kd.N_below (by (with_reducible repeat (first | apply Kd.N_alloc | apply Kd.N_drewN | apply Kd.N_drew)); exact HO_3.out) hb); have n1_ := Aside0.mk (Kd.V_below (by (with_reducible repeat (first | apply Kd.V_alloc | apply Kd.V_drewN | apply Kd.V_drew)); exact HO_188003.out) hb); have n2_ := Aside0.mk (Kd.V_below (by (with_reducible repeat (first | apply Kd.V_alloc | apply Kd.V_drewN | apply Kd.V_drew)); exact HL192_3.out) hb); have n3_ := Aside0.mk (Kd.V_lower (Kd.V_mono (ok' := fun k_ => (P0_3_ k_ ∨ w.heap.size ≤ k_) ∧ some k_ ≠ (u3 : Value).ownBlock ∧ k_ ≠ gb187 ∧ k_ ≠ gb188) ho0 (fun k_ hk_ => ⟨Or.elim hk_ (fun hs_ => hs_.1) (fun hn_ => (.inr (Nat.le_trans (below_size (by repeat (first | (with_reducible first | exact HB.out | apply below_alloc | apply pw_below_drewN | apply below_drew1 | refine below_set ?_ GE187.out | refine below_set ?_ GE188.out) | exact HB.out))) hn_))), Or.elim hk_ (fun hs_ => hs_.2.1) (fun hn_ => (Kd.fresh' (Kd.N_lt (by (with_reducible repeat (first | apply Kd.N_alloc | apply Kd.N_drewN | apply Kd.N_drew)); exact HO_3.out)) k_ hn_)), Or.elim hk_ (fun hs_ => hs_.2.2.1) (fun hn_ => (Kd.freshB (g := gb187) (o := .cells #[.int .i64 a0_0, .int .i64 a0_1, .int .i64 a0_2, .slice (some ad192) l0_3.length c0_3] 24 (0, 0)) (by (with_reducible repeat (first | refine blk_drewN ?_ _ | refine blk_drew ?_ | refine blk_alloc ?_ _)); exact BK187.out) k_ hn_)), Or.elim hk_ (fun hs_ => hs_.2.2.2) (fun hn_ => (Kd.freshB (g := gb188) (o := .cells #[.int .i64 0, .int .i64 0, .int .i64 0, .slice none 0 0] 24 (0, 0)) (by (with_reducible repeat (first | refine blk_drewN ?_ _ | refine blk_drew ?_ | refine blk_alloc ?_ _)); exact BK188.out) k_ hn_))⟩)) (below_size (by repeat (first | (with_reducible first | exact HB.out | apply below_alloc | apply pw_below_drewN | apply below_drew1 | refine below_set ?_ GE187.out | refine below_set ?_ GE188.out) | exact HB.out)))); have n4_ := Aside0.mk (blk_below (g := gb187) (o := .cells #[.int .i64 a0_0, .int .i64 a0_1, .int .i64 a0_2, .slice (some ad192) l0_3.length c0_3] 24 (0, 0)) (by (with_reducible repeat (first | refine blk_drewN ?_ _ | refine blk_drew ?_ | refine blk_alloc ?_ _)); exact BK187.out) hb); have n5_ := Aside0.mk (blk_below (g := gb188) (o := .cells #[.int .i64 0, .int .i64 0, .int .i64 0, .slice none 0 0] 24 (0, 0)) (by (with_reducible repeat (first | refine blk_drewN ?_ _ | refine blk_drew ?_ | refine blk_alloc ?_ _)); exact BK188.out) hb); have n6_ := Aside0.mk (Kd.C_below (by repeat (first | (with_reducible exact HR192_3.out) | (with_reducible refine Kd.C_alloc ?_ _) | (with_reducible refine Kd.C_drewN ?_ _) | (with_reducible refine Kd.C_drew ?_) | exact HR192_3.out)) hb); have n7_ := Aside0.mk (below_step (by repeat (first | (with_reducible first | exact HB.out | apply below_alloc | apply pw_below_drewN | apply below_drew1 | refine below_set ?_ GE187.out | refine below_set ?_ GE188.out) | exact HB.out)) hb); clear HO_3; clear HO_188003; clear HL192_3; clear BK187; clear BK188; clear HR192_3; clear HB; have HO_3 := n0_; have HO_188003 := n1_; have HL192_3 := n2_; have HO198 := n3_; have BK187 := n4_; have BK188 := n5_; have HR192_3 := n6_; have HB := n7_; clear n0_ n1_ n2_ n3_ n4_ n5_ n6_ n7_; (try clear hb); (try clear hb2); (try clear hk); (try clear hi); (try clear ho0); obtain ⟨Ao14, co14, eo14⟩ := Kd.V_slice HO198.out; subst eo14) | ((with_reducible refine gate_builtin (b := .append) (xs := #[.tmp 13, .tmp 20]) rfl ?_); at_builtin; refine Kd.N_append k24 (w0 := w) w.heap.size rfl (.tmp 13) (.tmp 20) 22 24 (.agg #[(.int .i64 0), (.int .i64 0), (.int .i64 0), (.slice none 0 0)]) 48 rfl Tryd.underlying22 info24 rfl (by decide) (by omega) u3 x3_1 (⟨t193, t194, t195, t196⟩ : S24) [.int .i64 t193, .int .i64 t194, .int .i64 t195, .slice Ao14 t196.length co14] (fun k_ => (P0_3_ k_ ∨ w.heap.size ≤ k_) ∧ k_ ≠ gb187 ∧ k_ ≠ gb188) (fun k_ => ((fun k_ => (P0_3_ k_ ∨ w.heap.size ≤ k_) ∧ k_ ≠ gb187 ∧ k_ ≠ gb188)) k_ ∧ some k_ ≠ (u3 : Value).ownBlock) rfl rfl ?aP (fun _ hk => hk) ?aF ?aO ?aB ?aS ?aL ?_; (case aP => exact (k24_mkF _ _ (⟨t193, t194, t195, t196⟩ : S24) (Kd.V_reads' (Kd.V_mono (ok' := (fun k_ => ((fun k_ => (P0_3_ k_ ∨ w.heap.size ≤ k_) ∧ k_ ≠ gb187 ∧ k_ ≠ gb188)) k_ ∧ some k_ ≠ (u3 : Value).ownBlock)) (HO198.out) (fun k_ hk => ⟨⟨hk.1, ⟨hk.2.2.1, hk.2.2.2⟩⟩, hk.2.1⟩))).2.1 (Kd.V_F (Kd.V_mono (ok' := (fun k_ => ((fun k_ => (P0_3_ k_ ∨ w.heap.size ≤ k_) ∧ k_ ≠ gb187 ∧ k_ ≠ gb188)) k_ ∧ some k_ ≠ (u3 : Value).ownBlock)) (HO198.out) (fun k_ hk => ⟨⟨hk.1, ⟨hk.2.2.1, hk.2.2.2⟩⟩, hk.2.1⟩))))); (case aB => exact (by repeat (first | (with_reducible first | exact HB.out | apply below_alloc | apply pw_below_drewN | apply below_drew1 | refine below_set ?_ GE187.out | refine below_set ?_ GE188.out) | exact HB.out))); (case aF => exact (fun k_ hk => ⟨(.inr (Nat.le_trans (below_size (by repeat (first | (with_reducible first | exact HB.out | apply below_alloc | apply pw_below_drewN | apply below_drew1 | refine below_set ?_ GE187.out | refine below_set ?_ GE188.out) | exact HB.out))) hk)), Kd.freshB (g := gb187) (o := .cells #[.int .i64 a0_0, .int .i64 a0_1, .int .i64 a0_2, .slice (some ad192) l0_3.length c0_3] 24 (0, 0)) (by (with_reducible repeat (first | refine blk_drewN ?_ _ | refine blk_drew ?_ | refine blk_alloc ?_ _)); exact BK187.out) k_ hk, Kd.freshB (g := gb188) (o := .cells #[.int .i64 0, .int .i64 0, .int .i64 0, .slice none 0 0] 24 (0, 0)) (by (with_reducible repeat (first | refine blk_drewN ?_ _ | refine blk_drew ?_ | refine blk_alloc ?_ _)); exact BK188.out) k_ hk⟩)); (case aO => exact (by (with_reducible repeat (first | apply Kd.N_alloc | apply Kd.N_drewN | apply Kd.N_drew)); exact HO_3.out)); (case aS => exact (below_size (by repeat (first | (with_reducible first | exact HB.out | apply below_alloc | apply pw_below_drewN | apply below_drew1 | refine below_set ?_ GE187.out | refine below_set ?_ GE188.out) | exact HB.out)))); (case aL => have := LMc9.out; omega); intro v200 w13 ho hb hg hat; rw [← Ny199.out] at ho; have n0_ := Aside0.mk (Kd.V_afterv (ok := (fun k_ => (P0_3_ k_ ∨ w.heap.size ≤ k_) ∧ k_ ≠ gb187 ∧ k_ ≠ gb188)) (by (with_reducible repeat (first | apply Kd.V_alloc | apply Kd.V_drewN | apply Kd.V_drew)); exact Kd.V_mono HO_188003.out (fun _ hk => ⟨⟨hk.1, ⟨hk.2.2.1, hk.2.2.2⟩⟩, hk.2.1⟩)) hg hat); have n1_ := Aside0.mk (blk_grown (g := gb187) (o := .cells #[.int .i64 a0_0, .int .i64 a0_1, .int .i64 a0_2, .slice (some ad192) l0_3.length c0_3] 24 (0, 0)) (by (with_reducible repeat (first | refine blk_drewN ?_ _ | refine blk_drew ?_ | refine blk_alloc ?_ _)); exact BK187.out) hg (Kd.N_away HO_3.out (fun _ hk => hk.2.1))); have n2_ := Aside0.mk (blk_grown (g := gb188) (o := .cells #[.int .i64 0, .int .i64 0, .int .i64 0, .slice none 0 0] 24 (0, 0)) (by (with_reducible repeat (first | refine blk_drewN ?_ _ | refine blk_drew ?_ | refine blk_alloc ?_ _)); exact BK188.out) hg (Kd.N_away HO_3.out (fun _ hk => hk.2.2))); have n3_ := Aside0.mk (Kd.V_afterv (ok := (fun k_ => (P0_3_ k_ ∨ w.heap.size ≤ k_) ∧ k_ ≠ gb187 ∧ k_ ≠ gb188)) (by (with_reducible repeat (first | apply Kd.V_alloc | apply Kd.V_drewN | apply Kd.V_drew)); exact Kd.V_mono HL192_3.out (fun _ hk => ⟨⟨hk.1, ⟨hk.2.2.1, hk.2.2.2⟩⟩, hk.2.1⟩)) hg hat); have n4_ := Aside0.mk (Kd.V_afterv (ok := (fun k_ => (P0_3_ k_ ∨ w.heap.size ≤ k_) ∧ k_ ≠ gb187 ∧ k_ ≠ gb188)) (by (with_reducible repeat (first | apply Kd.V_alloc | apply Kd.V_drewN | apply Kd.V_drew)); exact Kd.V_mono HO198.out (fun _ hk => ⟨⟨hk.1, ⟨hk.2.2.1, hk.2.2.2⟩⟩, hk.2.1⟩)) hg hat); have n5_ := Aside0.mk (hb); have n6_ := Aside0.mk (ho); clear HO_188003; clear BK187; clear BK188; clear HL192_3; clear HO198; clear HB; clear HO_3; have HO_188003 := n0_; have BK187 := n1_; have BK188 := n2_; have HL192_3 := n3_; have HO198 := n4_; have HB := n5_; have HO201 := n6_; clear n0_ n1_ n2_ n3_ n4_ n5_ n6_; clear ho hb hg hat))
            go_roundg k1
            case measure => have := HK1.out; omega
            case rel => exact ⟨(y199), (wrap64 (x4_1 + 1)), (by first | rfl | (simp; done) | (simp [*]; done)), H', ⟨by have := HK1.out; omega⟩, ⟨by (with_reducible repeat (first | apply Kd.N_alloc | apply Kd.N_drewN | apply Kd.N_drew)); exact HO201.out⟩, ⟨by (with_reducible repeat (first | apply Kd.V_alloc | apply Kd.V_drewN | apply Kd.V_drew)); exact Kd.V_mono HO_188003.out (fun _ hk => ⟨hk.1.1, ⟨hk.2, ⟨hk.1.2.1, hk.1.2.2⟩⟩⟩)⟩, ⟨by (with_reducible repeat (first | refine blk_drewN ?_ _ | refine blk_drew ?_ | refine blk_alloc ?_ _)); exact BK187.out⟩, ⟨by (with_reducible repeat (first | refine blk_drewN ?_ _ | refine blk_drew ?_ | refine blk_alloc ?_ _)); exact BK188.out⟩, ⟨by repeat (first | (with_reducible first | exact HB.out | apply below_alloc | apply pw_below_drewN | apply below_drew1 | refine below_set ?_ GE187.out | refine below_set ?_ GE188.out) | exact HB.out)⟩⟩
          · rw [if_neg c9] at H
            exact absurd H (by simp)
        · rw [if_neg c7] at H
          exact absurd H (by simp)
      · rw [if_neg c6] at H
        have c6b0 : decide (x4_1 < (l0_3.length : Int)) = false := decide_eq_false c6
        clear c6
        by_cases c15 : a0_0 = 3
        · rw [if_pos c15] at H
          have c15b0 : (a0_0 == 3) = true := beq_iff_eq.mpr c15
          have c15b1 : (a0_0 != 3) = false := bne_eq_false_iff_eq.mpr c15
          clear c15
          by_cases c16 : 0 < (x3_1.length : Int)
          · rw [if_pos c16] at H
            have c16b0 : decide (0 < (x3_1.length : Int)) = true := decide_eq_true c16
            have c16b1 : decide (0 < x3_1.length) = true := decide_eq_true (by omega)
            clear c16
            by_cases c17 : ((rd_T24 x3_1 0).f0) = 1
            · rw [if_pos c17] at H
              have c17b0 : (((rd_T24 x3_1 0).f0) == 1) = true := beq_iff_eq.mpr c17
              have c17b1 : (((rd_T24 x3_1 0).f0) != 1) = false := bne_eq_false_iff_eq.mpr c17
              clear c17
              replace H := Option.bind_eq_some_iff.mp H
              obtain ⟨⟨t204, t205, t206, t207⟩, A180, H⟩ := H
              replace H : (some (t204, t205, t206, t207)) = some (r1, r2, r3, r4) := H
              have A18 := Aside0.mk A180
              clear A180
              simp only [Option.some.injEq, Prod.mk.injEq] at H
              obtain ⟨rfl, rfl, rfl, rfl⟩ := H
              have hnb19 := NB187_188.out
              have hnc19 := NB188_187.out
              have hcz20_0 : wr.cell? ⟨gb187, 0, none⟩ = some (.int .i64 a0_0) := (blk_cell BK187.out 0).trans rfl
              have hcz20_1 : wr.cell? ⟨gb187, 1, none⟩ = some (.int .i64 a0_1) := (blk_cell BK187.out 1).trans rfl
              have hcz20_2 : wr.cell? ⟨gb187, 2, none⟩ = some (.int .i64 a0_2) := (blk_cell BK187.out 2).trans rfl
              have hcz20_3 : wr.cell? ⟨gb187, 3, none⟩ = some (.slice A0_3 l0_3.length c0_3) := (blk_cell BK187.out 3).trans rfl
              have hfz20_0 := blk_frozen BK187.out 0
              have hfz20_1 := blk_frozen BK187.out 1
              have hfz20_2 := blk_frozen BK187.out 2
              have hfz20_3 := blk_frozen BK187.out 3
              obtain ⟨Ao21, co21, eo21⟩ := Kd.N_slice HO_3.out
              subst eo21
              have p202 : 0 ≤ (0 : Int) := (by omega)
              have q202 : 0 < (x3_1.length : Int) := of_decide_eq_true (by first | (with_reducible assumption) | assumption)
              obtain ⟨ad202, A202_3, c202_3, e202, hx202_0, hx202_1, hx202_2, hx202_3, hl202_3, hi202_3⟩ := at_T24 (Kd.N_reads' HO_3.out).2.2 0 p202 q202
              cases e202
              obtain ⟨ce202, hce202, hMe202, hcc202⟩ := Kd.N_get HO_3.out z24 0 p202 (by first | exact q202 | exact of_decide_eq_true (by first | (with_reducible assumption) | assumption) | (have e_ := (Kd.N_reads' HO_3.out).1; omega))
              obtain ⟨ua202_3, uc202_3, rfl, ul202_3, ge202_3⟩ := k24_openF hMe202
              have hv202_3 := hcc202 3 _ rfl
              rw [add_field _ _ 3 (by omega)] at hv202_3
              replace hv202_3 := Option.some.inj (hv202_3.symm.trans hx202_3)
              injection hv202_3 with hva_ hvn_ hvc_
              rw [hva_] at ge202_3
              rw [hvc_] at ul202_3
              have HL202_3 := Aside0.mk (show Kd.V k24 24 _ w.heap.size _ _ ((rd_T24 x3_1 0).f3) from Kd.V_mk ul202_3 ge202_3)
              clear hva_ hvn_ hvc_ ge202_3 ul202_3
              clear hcc202 hce202
              have qi202 : (0 < x3_1.length) = True := eq_true (by omega)
              (try rw [show ((0 : Int)).toNat = 0 from rfl] at hx202_0)
              (try rw [show 0 * 4 = 0 from rfl] at hx202_0)
              (try rw [Addr.add_zero'] at hx202_0)
              (try rw [show ((0 : Int)).toNat = 0 from rfl] at hx202_1)
              (try rw [show 0 * 4 = 0 from rfl] at hx202_1)
              (try rw [Addr.add_zero'] at hx202_1)
              (try rw [show ((0 : Int)).toNat = 0 from rfl] at hx202_2)
              (try rw [show 0 * 4 = 0 from rfl] at hx202_2)
              (try rw [Addr.add_zero'] at hx202_2)
              (try rw [show ((0 : Int)).toNat = 0 from rfl] at hx202_3)
              (try rw [show 0 * 4 = 0 from rfl] at hx202_3)
              (try rw [Addr.add_zero'] at hx202_3)
              have HR202_3 := Aside0.mk hi202_3
              have HC202_3 := Aside0.mk hl202_3
              clear hi202_3 hl202_3
              replace p202 := eq_true p202
              replace q202 := eq_true q202
              have p203 : 0 ≤ (0 : Int) := (by omega)
              have q203 : 0 < (x3_1.length : Int) := of_decide_eq_true (by first | (with_reducible assumption) | assumption)
              obtain ⟨ad203, A203_3, c203_3, e203, hx203_0, hx203_1, hx203_2, hx203_3, hl203_3, hi203_3⟩ := at_T24 (Kd.N_reads' HO_3.out).2.2 0 p203 q203
              obtain rfl : ad202 = ad203 := (by injection e203)
              obtain ⟨ce203, hce203, hMe203, hcc203⟩ := Kd.N_get HO_3.out z24 0 p203 (by first | exact q203 | exact of_decide_eq_true (by first | (with_reducible assumption) | assumption) | (have e_ := (Kd.N_reads' HO_3.out).1; omega))
              obtain ⟨ua203_3, uc203_3, rfl, ul203_3, ge203_3⟩ := k24_openF hMe203
              have hv203_3 := hcc203 3 _ rfl
              rw [add_field _ _ 3 (by omega)] at hv203_3
              replace hv203_3 := Option.some.inj (hv203_3.symm.trans hx203_3)
              injection hv203_3 with hva_ hvn_ hvc_
              rw [hva_] at ge203_3
              rw [hvc_] at ul203_3
              have HL203_3 := Aside0.mk (show Kd.V k24 24 _ w.heap.size _ _ ((rd_T24 x3_1 0).f3) from Kd.V_mk ul203_3 ge203_3)
              clear hva_ hvn_ hvc_ ge203_3 ul203_3
              clear hcc203 hce203
              have qi203 : (0 < x3_1.length) = True := eq_true (by omega)
              (try rw [show ((0 : Int)).toNat = 0 from rfl] at hx203_0)
              (try rw [show 0 * 4 = 0 from rfl] at hx203_0)
              (try rw [Addr.add_zero'] at hx203_0)
              (try rw [show ((0 : Int)).toNat = 0 from rfl] at hx203_1)
              (try rw [show 0 * 4 = 0 from rfl] at hx203_1)
              (try rw [Addr.add_zero'] at hx203_1)
              (try rw [show ((0 : Int)).toNat = 0 from rfl] at hx203_2)
              (try rw [show 0 * 4 = 0 from rfl] at hx203_2)
              (try rw [Addr.add_zero'] at hx203_2)
              (try rw [show ((0 : Int)).toNat = 0 from rfl] at hx203_3)
              (try rw [show 0 * 4 = 0 from rfl] at hx203_3)
              (try rw [Addr.add_zero'] at hx203_3)
              have HR203_3 := Aside0.mk hi203_3
              have HC203_3 := Aside0.mk hl203_3
              clear hi203_3 hl203_3
              replace p203 := eq_true p203
              replace q203 := eq_true q203
              have ea_ := Option.some.inj (hx202_3.symm.trans hx203_3)
              injection ea_ with ea_ en_ ec_
              subst ea_
              subst ec_
              clear en_
              go_wp2_with (first | ((with_reducible refine gate_callee (f := 48) rfl ?_); refine goesL_ (some 36) rfl rfl Tryd.func48 (by kernel_rfl) rfl #[.int .i64 (wrap64 (1 - ((rd_T24 x3_1 0).f1)))] rfl (by (try simp only [List.map_toArray, List.map_cons, List.map_nil]); first | done | rfl | (simp only [List.length_drop, List.length_take]; rfl)) ?_; (with_reducible refine (chalklineref11_constant.calls (wrap64 (1 - ((rd_T24 x3_1 0).f1))) t204 t205 t206 t207 _ A18.out).mono ?_); rintro e w22 ⟨v208, rfl, ho0, hb⟩; refine ⟨_, rfl, ?_⟩; have n0_ := Aside0.mk (Kd.N_elder' (by (with_reducible repeat (first | apply Kd.N_alloc | apply Kd.N_drewN | apply Kd.N_drew)); exact HO_3.out) (Kd.N_base (Kd.R_N ho0)) hb); have n1_ := Aside0.mk (Kd.V_elder' (by (with_reducible repeat (first | apply Kd.V_alloc | apply Kd.V_drewN | apply Kd.V_drew)); exact HO_188003.out) (Kd.N_base (Kd.R_N ho0)) hb); have n2_ := Aside0.mk (Kd.V_elder' (by (with_reducible repeat (first | apply Kd.V_alloc | apply Kd.V_drewN | apply Kd.V_drew)); exact HL202_3.out) (Kd.N_base (Kd.R_N ho0)) hb); have n3_ := Aside0.mk (Kd.V_elder' (by (with_reducible repeat (first | apply Kd.V_alloc | apply Kd.V_drewN | apply Kd.V_drew)); exact HL203_3.out) (Kd.N_base (Kd.R_N ho0)) hb); have n4_ := Aside0.mk (Kd.N_lower (Kd.N_mono (ok' := fun k_ => (P0_3_ k_ ∨ w.heap.size ≤ k_) ∧ some k_ ≠ (.slice (some ad202) x3_1.length co21 : Value).ownBlock ∧ k_ ≠ gb187 ∧ k_ ≠ gb188) (Kd.R_N (Kd.R_bound ho0)) (fun k_ hk_ => ⟨(.inr (Nat.le_trans (below_size (by repeat (first | (with_reducible first | exact HB.out | apply below_alloc | apply pw_below_drewN | apply below_drew1 | refine below_set ?_ GE187.out | refine below_set ?_ GE188.out) | exact HB.out))) hk_.2.1)), (Kd.fresh' (Kd.N_lt (by (with_reducible repeat (first | apply Kd.N_alloc | apply Kd.N_drewN | apply Kd.N_drew)); exact HO_3.out)) k_ hk_.2.1), (Kd.freshB (g := gb187) (o := .cells #[.int .i64 a0_0, .int .i64 a0_1, .int .i64 a0_2, .slice A0_3 l0_3.length c0_3] 24 (0, 0)) (by (with_reducible repeat (first | refine blk_drewN ?_ _ | refine blk_drew ?_ | refine blk_alloc ?_ _)); exact BK187.out) k_ hk_.2.1), (Kd.freshB (g := gb188) (o := .cells #[.int .i64 0, .int .i64 0, .int .i64 0, .slice none 0 0] 24 (0, 0)) (by (with_reducible repeat (first | refine blk_drewN ?_ _ | refine blk_drew ?_ | refine blk_alloc ?_ _)); exact BK188.out) k_ hk_.2.1)⟩)) (below_size (by repeat (first | (with_reducible first | exact HB.out | apply below_alloc | apply pw_below_drewN | apply below_drew1 | refine below_set ?_ GE187.out | refine below_set ?_ GE188.out) | exact HB.out)))); have n5_ := Aside0.mk (blk_below (g := gb187) (o := .cells #[.int .i64 a0_0, .int .i64 a0_1, .int .i64 a0_2, .slice A0_3 l0_3.length c0_3] 24 (0, 0)) (by (with_reducible repeat (first | refine blk_drewN ?_ _ | refine blk_drew ?_ | refine blk_alloc ?_ _)); exact BK187.out) hb); have n6_ := Aside0.mk (blk_below (g := gb188) (o := .cells #[.int .i64 0, .int .i64 0, .int .i64 0, .slice none 0 0] 24 (0, 0)) (by (with_reducible repeat (first | refine blk_drewN ?_ _ | refine blk_drew ?_ | refine blk_alloc ?_ _)); exact BK188.out) hb); have n7_ := Aside0.mk (Kd.C_below (by repeat (first | (with_reducible exact HR202_3.out) | (with_reducible refine Kd.C_alloc ?_ _) | (with_reducible refine Kd.C_drewN ?_ _) | (with_reducible refine Kd.C_drew ?_) | exact HR202_3.out)) hb); have n8_ := Aside0.mk (Kd.C_below (by repeat (first | (with_reducible exact HR203_3.out) | (with_reducible refine Kd.C_alloc ?_ _) | (with_reducible refine Kd.C_drewN ?_ _) | (with_reducible refine Kd.C_drew ?_) | exact HR203_3.out)) hb); have n9_ := Aside0.mk (below_step (by repeat (first | (with_reducible first | exact HB.out | apply below_alloc | apply pw_below_drewN | apply below_drew1 | refine below_set ?_ GE187.out | refine below_set ?_ GE188.out) | exact HB.out)) hb); clear HO_3; clear HO_188003; clear HL202_3; clear HL203_3; clear BK187; clear BK188; clear HR202_3; clear HR203_3; clear HB; have HO_3 := n0_; have HO_188003 := n1_; have HL202_3 := n2_; have HL203_3 := n3_; have HO209 := n4_; have BK187 := n5_; have BK188 := n6_; have HR202_3 := n7_; have HR203_3 := n8_; have HB := n9_; clear n0_ n1_ n2_ n3_ n4_ n5_ n6_ n7_ n8_ n9_; (try clear hb); (try clear hb2); (try clear hk); (try clear hi); (try clear ho0); have hcz23_0 : w22.cell? ⟨gb188, 0, none⟩ = some (.int .i64 0) := (blk_cell BK188.out 0).trans rfl; have hcz23_1 : w22.cell? ⟨gb188, 1, none⟩ = some (.int .i64 0) := (blk_cell BK188.out 1).trans rfl; have hcz23_2 : w22.cell? ⟨gb188, 2, none⟩ = some (.int .i64 0) := (blk_cell BK188.out 2).trans rfl; have hcz23_3 : w22.cell? ⟨gb188, 3, none⟩ = some (.slice none 0 0) := (blk_cell BK188.out 3).trans rfl; have hfz23_0 := blk_frozen BK188.out 0; have hfz23_1 := blk_frozen BK188.out 1; have hfz23_2 := blk_frozen BK188.out 2; have hfz23_3 := blk_frozen BK188.out 3; obtain ⟨Ao24, co24, eo24⟩ := Kd.N_slice HO209.out; subst eo24))
              refine bodyPost_ret (results_cell_row rfl _ _ gb188 24 #[.int .i64 t204, .int .i64 t205, .int .i64 t206, .slice Ao24 t207.length co24] (0, 0) _ rfl (by (with_reducible repeat (first | refine blk_drewN ?_ _ | refine blk_drew ?_ | refine blk_alloc ?_ _)); refine blk_put (cs := #[.int .i64 t204, .int .i64 t205, .int .i64 t206, .slice none 0 0]) ?_ 3 _ rfl; (with_reducible repeat (first | refine blk_drewN ?_ _ | refine blk_drew ?_ | refine blk_alloc ?_ _)); refine blk_put (cs := #[.int .i64 t204, .int .i64 t205, .int .i64 0, .slice none 0 0]) ?_ 2 _ rfl; (with_reducible repeat (first | refine blk_drewN ?_ _ | refine blk_drew ?_ | refine blk_alloc ?_ _)); refine blk_put (cs := #[.int .i64 t204, .int .i64 0, .int .i64 0, .slice none 0 0]) ?_ 1 _ rfl; (with_reducible repeat (first | refine blk_drewN ?_ _ | refine blk_drew ?_ | refine blk_alloc ?_ _)); refine blk_put (cs := #[.int .i64 0, .int .i64 0, .int .i64 0, .slice none 0 0]) ?_ 0 _ rfl; (with_reducible repeat (first | refine blk_drewN ?_ _ | refine blk_drew ?_ | refine blk_alloc ?_ _)); exact BK188.out) Tryd.underlying24 rfl (by kernel_rfl)) rfl ?_
              exact ⟨_, by first | rfl | (simp [errW_none, errW_some] <;> rfl) | (simp [*, errW_none, errW_some] <;> rfl), Kd.N_V (by (with_reducible repeat (first | apply Kd.N_alloc | apply Kd.N_drewN | apply Kd.N_drew)); exact Kd.N_mono (Kd.N_far (p := ⟨gb188, 3, none⟩) (Kd.N_far (p := ⟨gb188, 2, none⟩) (Kd.N_far (p := ⟨gb188, 1, none⟩) (Kd.N_far (p := ⟨gb188, 0, none⟩) (Kd.N_mono HO209.out (fun k_ hk => (⟨hk, hk.2.2.2⟩ : _ ∧ k_ ≠ gb188))) (fun _ hk => hk.2) (.int .i64 t204)) (fun _ hk => hk.2) (.int .i64 t205)) (fun _ hk => hk.2) (.int .i64 t206)) (fun _ hk => hk.2) (.slice Ao24 t207.length co24)) (fun _ hk => hk.1.1)), by repeat (first | (with_reducible first | exact HB.out | apply below_alloc | apply pw_below_drewN | apply below_drew1 | refine below_set ?_ GE187.out | refine below_set ?_ GE188.out) | exact HB.out)⟩
            · rw [if_neg c17] at H
              have c17b0 : (((rd_T24 x3_1 0).f0) == 1) = false := beq_eq_false_iff_ne.mpr c17
              have c17b1 : (((rd_T24 x3_1 0).f0) != 1) = true := bne_iff_ne.mpr c17
              by_cases c25 : ((rd_T24 x3_1 0).f0) = 3
              · rw [if_pos c25] at H
                have c25b0 : (((rd_T24 x3_1 0).f0) == 3) = true := beq_iff_eq.mpr c25
                have c25b1 : (((rd_T24 x3_1 0).f0) != 3) = false := bne_eq_false_iff_eq.mpr c25
                clear c25
                by_cases c26 : 0 < (((rd_T24 x3_1 0).f3).length : Int)
                · rw [if_pos c26] at H
                  have c26b0 : decide (0 < (((rd_T24 x3_1 0).f3).length : Int)) = true := decide_eq_true c26
                  have c26b1 : decide (0 < ((rd_T24 x3_1 0).f3).length) = true := decide_eq_true (by omega)
                  clear c26
                  simp only [Option.some.injEq, Prod.mk.injEq] at H
                  obtain ⟨rfl, rfl, rfl, rfl⟩ := H
                  have hnb27 := NB187_188.out
                  have hnc27 := NB188_187.out
                  have hcz28_0 : wr.cell? ⟨gb187, 0, none⟩ = some (.int .i64 a0_0) := (blk_cell BK187.out 0).trans rfl
                  have hcz28_1 : wr.cell? ⟨gb187, 1, none⟩ = some (.int .i64 a0_1) := (blk_cell BK187.out 1).trans rfl
                  have hcz28_2 : wr.cell? ⟨gb187, 2, none⟩ = some (.int .i64 a0_2) := (blk_cell BK187.out 2).trans rfl
                  have hcz28_3 : wr.cell? ⟨gb187, 3, none⟩ = some (.slice A0_3 l0_3.length c0_3) := (blk_cell BK187.out 3).trans rfl
                  have hfz28_0 := blk_frozen BK187.out 0
                  have hfz28_1 := blk_frozen BK187.out 1
                  have hfz28_2 := blk_frozen BK187.out 2
                  have hfz28_3 := blk_frozen BK187.out 3
                  obtain ⟨Ao29, co29, eo29⟩ := Kd.N_slice HO_3.out
                  subst eo29
                  have p202 : 0 ≤ (0 : Int) := (by omega)
                  have q202 : 0 < (x3_1.length : Int) := of_decide_eq_true (by first | (with_reducible assumption) | assumption)
                  obtain ⟨ad202, A202_3, c202_3, e202, hx202_0, hx202_1, hx202_2, hx202_3, hl202_3, hi202_3⟩ := at_T24 (Kd.N_reads' HO_3.out).2.2 0 p202 q202
                  cases e202
                  obtain ⟨ce202, hce202, hMe202, hcc202⟩ := Kd.N_get HO_3.out z24 0 p202 (by first | exact q202 | exact of_decide_eq_true (by first | (with_reducible assumption) | assumption) | (have e_ := (Kd.N_reads' HO_3.out).1; omega))
                  obtain ⟨ua202_3, uc202_3, rfl, ul202_3, ge202_3⟩ := k24_openF hMe202
                  have hv202_3 := hcc202 3 _ rfl
                  rw [add_field _ _ 3 (by omega)] at hv202_3
                  replace hv202_3 := Option.some.inj (hv202_3.symm.trans hx202_3)
                  injection hv202_3 with hva_ hvn_ hvc_
                  rw [hva_] at ge202_3
                  rw [hvc_] at ul202_3
                  have HL202_3 := Aside0.mk (show Kd.V k24 24 _ w.heap.size _ _ ((rd_T24 x3_1 0).f3) from Kd.V_mk ul202_3 ge202_3)
                  clear hva_ hvn_ hvc_ ge202_3 ul202_3
                  clear hcc202 hce202
                  have qi202 : (0 < x3_1.length) = True := eq_true (by omega)
                  (try rw [show ((0 : Int)).toNat = 0 from rfl] at hx202_0)
                  (try rw [show 0 * 4 = 0 from rfl] at hx202_0)
                  (try rw [Addr.add_zero'] at hx202_0)
                  (try rw [show ((0 : Int)).toNat = 0 from rfl] at hx202_1)
                  (try rw [show 0 * 4 = 0 from rfl] at hx202_1)
                  (try rw [Addr.add_zero'] at hx202_1)
                  (try rw [show ((0 : Int)).toNat = 0 from rfl] at hx202_2)
                  (try rw [show 0 * 4 = 0 from rfl] at hx202_2)
                  (try rw [Addr.add_zero'] at hx202_2)
                  (try rw [show ((0 : Int)).toNat = 0 from rfl] at hx202_3)
                  (try rw [show 0 * 4 = 0 from rfl] at hx202_3)
                  (try rw [Addr.add_zero'] at hx202_3)
                  have HR202_3 := Aside0.mk hi202_3
                  have HC202_3 := Aside0.mk hl202_3
                  clear hi202_3 hl202_3
                  replace p202 := eq_true p202
                  replace q202 := eq_true q202
                  have p210 : 0 ≤ (0 : Int) := (by omega)
                  have q210 : 0 < (x3_1.length : Int) := of_decide_eq_true (by first | (with_reducible assumption) | assumption)
                  obtain ⟨ad210, A210_3, c210_3, e210, hx210_0, hx210_1, hx210_2, hx210_3, hl210_3, hi210_3⟩ := at_T24 (Kd.N_reads' HO_3.out).2.2 0 p210 q210
                  obtain rfl : ad202 = ad210 := (by injection e210)
                  obtain ⟨ce210, hce210, hMe210, hcc210⟩ := Kd.N_get HO_3.out z24 0 p210 (by first | exact q210 | exact of_decide_eq_true (by first | (with_reducible assumption) | assumption) | (have e_ := (Kd.N_reads' HO_3.out).1; omega))
                  obtain ⟨ua210_3, uc210_3, rfl, ul210_3, ge210_3⟩ := k24_openF hMe210
                  have hv210_3 := hcc210 3 _ rfl
                  rw [add_field _ _ 3 (by omega)] at hv210_3
                  replace hv210_3 := Option.some.inj (hv210_3.symm.trans hx210_3)
                  injection hv210_3 with hva_ hvn_ hvc_
                  rw [hva_] at ge210_3
                  rw [hvc_] at ul210_3
                  have HL210_3 := Aside0.mk (show Kd.V k24 24 _ w.heap.size _ _ ((rd_T24 x3_1 0).f3) from Kd.V_mk ul210_3 ge210_3)
                  clear hva_ hvn_ hvc_ ge210_3 ul210_3
                  clear hcc210 hce210
                  have qi210 : (0 < x3_1.length) = True := eq_true (by omega)
                  (try rw [show ((0 : Int)).toNat = 0 from rfl] at hx210_0)
                  (try rw [show 0 * 4 = 0 from rfl] at hx210_0)
                  (try rw [Addr.add_zero'] at hx210_0)
                  (try rw [show ((0 : Int)).toNat = 0 from rfl] at hx210_1)
                  (try rw [show 0 * 4 = 0 from rfl] at hx210_1)
                  (try rw [Addr.add_zero'] at hx210_1)
                  (try rw [show ((0 : Int)).toNat = 0 from rfl] at hx210_2)
                  (try rw [show 0 * 4 = 0 from rfl] at hx210_2)
                  (try rw [Addr.add_zero'] at hx210_2)
                  (try rw [show ((0 : Int)).toNat = 0 from rfl] at hx210_3)
                  (try rw [show 0 * 4 = 0 from rfl] at hx210_3)
                  (try rw [Addr.add_zero'] at hx210_3)
                  have HR210_3 := Aside0.mk hi210_3
                  have HC210_3 := Aside0.mk hl210_3
                  clear hi210_3 hl210_3
                  replace p210 := eq_true p210
                  replace q210 := eq_true q210
                  have ea_ := Option.some.inj (hx202_3.symm.trans hx210_3)
                  injection ea_ with ea_ en_ ec_
                  subst ea_
                  subst ec_
                  clear en_
                  have p211 : 0 ≤ (0 : Int) := (by omega)
                  have q211 : 0 < (x3_1.length : Int) := of_decide_eq_true (by first | (with_reducible assumption) | assumption)
                  obtain ⟨ad211, A211_3, c211_3, e211, hx211_0, hx211_1, hx211_2, hx211_3, hl211_3, hi211_3⟩ := at_T24 (Kd.N_reads' HO_3.out).2.2 0 p211 q211
                  obtain rfl : ad202 = ad211 := (by injection e211)
                  obtain ⟨ce211, hce211, hMe211, hcc211⟩ := Kd.N_get HO_3.out z24 0 p211 (by first | exact q211 | exact of_decide_eq_true (by first | (with_reducible assumption) | assumption) | (have e_ := (Kd.N_reads' HO_3.out).1; omega))
                  obtain ⟨ua211_3, uc211_3, rfl, ul211_3, ge211_3⟩ := k24_openF hMe211
                  have hv211_3 := hcc211 3 _ rfl
                  rw [add_field _ _ 3 (by omega)] at hv211_3
                  replace hv211_3 := Option.some.inj (hv211_3.symm.trans hx211_3)
                  injection hv211_3 with hva_ hvn_ hvc_
                  rw [hva_] at ge211_3
                  rw [hvc_] at ul211_3
                  have HL211_3 := Aside0.mk (show Kd.V k24 24 _ w.heap.size _ _ ((rd_T24 x3_1 0).f3) from Kd.V_mk ul211_3 ge211_3)
                  clear hva_ hvn_ hvc_ ge211_3 ul211_3
                  clear hcc211 hce211
                  have qi211 : (0 < x3_1.length) = True := eq_true (by omega)
                  (try rw [show ((0 : Int)).toNat = 0 from rfl] at hx211_0)
                  (try rw [show 0 * 4 = 0 from rfl] at hx211_0)
                  (try rw [Addr.add_zero'] at hx211_0)
                  (try rw [show ((0 : Int)).toNat = 0 from rfl] at hx211_1)
                  (try rw [show 0 * 4 = 0 from rfl] at hx211_1)
                  (try rw [Addr.add_zero'] at hx211_1)
                  (try rw [show ((0 : Int)).toNat = 0 from rfl] at hx211_2)
                  (try rw [show 0 * 4 = 0 from rfl] at hx211_2)
                  (try rw [Addr.add_zero'] at hx211_2)
                  (try rw [show ((0 : Int)).toNat = 0 from rfl] at hx211_3)
                  (try rw [show 0 * 4 = 0 from rfl] at hx211_3)
                  (try rw [Addr.add_zero'] at hx211_3)
                  have HR211_3 := Aside0.mk hi211_3
                  have HC211_3 := Aside0.mk hl211_3
                  clear hi211_3 hl211_3
                  replace p211 := eq_true p211
                  replace q211 := eq_true q211
                  have ea_ := Option.some.inj (hx202_3.symm.trans hx211_3)
                  injection ea_ with ea_ en_ ec_
                  subst ea_
                  subst ec_
                  clear en_
                  have p212 : 0 ≤ (0 : Int) := (by omega)
                  have q212 : 0 < (((rd_T24 x3_1 0).f3).length : Int) := of_decide_eq_true (by first | (with_reducible assumption) | assumption)
                  obtain ⟨ad212, A212_3, c212_3, e212, hx212_0, hx212_1, hx212_2, hx212_3, hl212_3, hi212_3⟩ := at_T24 (by repeat (first | (with_reducible exact HR211_3.out) | (with_reducible refine Kd.C_alloc ?_ _) | (with_reducible refine Kd.C_drewN ?_ _) | (with_reducible refine Kd.C_drew ?_) | exact HR211_3.out)) 0 p212 q212
                  cases e212
                  obtain ⟨ce212, hce212, hMe212, hcc212⟩ := Kd.V_get HL211_3.out z24 0 p212 (by first | exact q212 | exact of_decide_eq_true (by first | (with_reducible assumption) | assumption) | (have e_ := (Kd.V_reads' HL211_3.out).1; omega))
                  obtain ⟨ua212_3, uc212_3, rfl, ul212_3, ge212_3⟩ := k24_openF hMe212
                  have hv212_3 := hcc212 3 _ rfl
                  rw [add_field _ _ 3 (by omega)] at hv212_3
                  replace hv212_3 := Option.some.inj (hv212_3.symm.trans hx212_3)
                  injection hv212_3 with hva_ hvn_ hvc_
                  rw [hva_] at ge212_3
                  rw [hvc_] at ul212_3
                  have HL212_3 := Aside0.mk (show Kd.V k24 24 _ w.heap.size _ _ ((rd_T24 ((rd_T24 x3_1 0).f3) 0).f3) from Kd.V_mk ul212_3 ge212_3)
                  clear hva_ hvn_ hvc_ ge212_3 ul212_3
                  clear hcc212 hce212
                  have qi212 : (0 < ((rd_T24 x3_1 0).f3).length) = True := eq_true (by omega)
                  (try rw [show ((0 : Int)).toNat = 0 from rfl] at hx212_0)
                  (try rw [show 0 * 4 = 0 from rfl] at hx212_0)
                  (try rw [Addr.add_zero'] at hx212_0)
                  (try rw [show ((0 : Int)).toNat = 0 from rfl] at hx212_1)
                  (try rw [show 0 * 4 = 0 from rfl] at hx212_1)
                  (try rw [Addr.add_zero'] at hx212_1)
                  (try rw [show ((0 : Int)).toNat = 0 from rfl] at hx212_2)
                  (try rw [show 0 * 4 = 0 from rfl] at hx212_2)
                  (try rw [Addr.add_zero'] at hx212_2)
                  (try rw [show ((0 : Int)).toNat = 0 from rfl] at hx212_3)
                  (try rw [show 0 * 4 = 0 from rfl] at hx212_3)
                  (try rw [Addr.add_zero'] at hx212_3)
                  have HR212_3 := Aside0.mk hi212_3
                  have HC212_3 := Aside0.mk hl212_3
                  clear hi212_3 hl212_3
                  replace p212 := eq_true p212
                  replace q212 := eq_true q212
                  have hcz30_0 : wr.cell? ⟨gb188, 0, none⟩ = some (.int .i64 0) := (blk_cell BK188.out 0).trans rfl
                  have hcz30_1 : wr.cell? ⟨gb188, 1, none⟩ = some (.int .i64 0) := (blk_cell BK188.out 1).trans rfl
                  have hcz30_2 : wr.cell? ⟨gb188, 2, none⟩ = some (.int .i64 0) := (blk_cell BK188.out 2).trans rfl
                  have hcz30_3 : wr.cell? ⟨gb188, 3, none⟩ = some (.slice none 0 0) := (blk_cell BK188.out 3).trans rfl
                  have hfz30_0 := blk_frozen BK188.out 0
                  have hfz30_1 := blk_frozen BK188.out 1
                  have hfz30_2 := blk_frozen BK188.out 2
                  have hfz30_3 := blk_frozen BK188.out 3
                  go_wp2
                  refine bodyPost_ret (results_cell_row rfl _ _ gb188 24 #[.int .i64 ((rd_T24 ((rd_T24 x3_1 0).f3) 0).f0), .int .i64 ((rd_T24 ((rd_T24 x3_1 0).f3) 0).f1), .int .i64 ((rd_T24 ((rd_T24 x3_1 0).f3) 0).f2), .slice A212_3 ((rd_T24 ((rd_T24 x3_1 0).f3) 0).f3).length c212_3] (0, 0) _ rfl (by (with_reducible repeat (first | refine blk_drewN ?_ _ | refine blk_drew ?_ | refine blk_alloc ?_ _)); refine blk_put (cs := #[.int .i64 ((rd_T24 ((rd_T24 x3_1 0).f3) 0).f0), .int .i64 ((rd_T24 ((rd_T24 x3_1 0).f3) 0).f1), .int .i64 ((rd_T24 ((rd_T24 x3_1 0).f3) 0).f2), .slice none 0 0]) ?_ 3 _ rfl; (with_reducible repeat (first | refine blk_drewN ?_ _ | refine blk_drew ?_ | refine blk_alloc ?_ _)); refine blk_put (cs := #[.int .i64 ((rd_T24 ((rd_T24 x3_1 0).f3) 0).f0), .int .i64 ((rd_T24 ((rd_T24 x3_1 0).f3) 0).f1), .int .i64 0, .slice none 0 0]) ?_ 2 _ rfl; (with_reducible repeat (first | refine blk_drewN ?_ _ | refine blk_drew ?_ | refine blk_alloc ?_ _)); refine blk_put (cs := #[.int .i64 ((rd_T24 ((rd_T24 x3_1 0).f3) 0).f0), .int .i64 0, .int .i64 0, .slice none 0 0]) ?_ 1 _ rfl; (with_reducible repeat (first | refine blk_drewN ?_ _ | refine blk_drew ?_ | refine blk_alloc ?_ _)); refine blk_put (cs := #[.int .i64 0, .int .i64 0, .int .i64 0, .slice none 0 0]) ?_ 0 _ rfl; (with_reducible repeat (first | refine blk_drewN ?_ _ | refine blk_drew ?_ | refine blk_alloc ?_ _)); exact BK188.out) Tryd.underlying24 rfl (by kernel_rfl)) rfl ?_
                  exact ⟨_, by first | rfl | (simp [errW_none, errW_some] <;> rfl) | (simp [*, errW_none, errW_some] <;> rfl), by (with_reducible repeat (first | apply Kd.V_alloc | apply Kd.V_drewN | apply Kd.V_drew)); exact Kd.V_mono (Kd.V_far (p := ⟨gb188, 3, none⟩) (Kd.V_far (p := ⟨gb188, 2, none⟩) (Kd.V_far (p := ⟨gb188, 1, none⟩) (Kd.V_far (p := ⟨gb188, 0, none⟩) (Kd.V_mono HL212_3.out (fun k_ hk => (⟨hk, hk.1.2.2⟩ : _ ∧ k_ ≠ gb188))) (fun _ hk => hk.2) (.int .i64 ((rd_T24 ((rd_T24 x3_1 0).f3) 0).f0))) (fun _ hk => hk.2) (.int .i64 ((rd_T24 ((rd_T24 x3_1 0).f3) 0).f1))) (fun _ hk => hk.2) (.int .i64 ((rd_T24 ((rd_T24 x3_1 0).f3) 0).f2))) (fun _ hk => hk.2) (.slice A212_3 ((rd_T24 ((rd_T24 x3_1 0).f3) 0).f3).length c212_3)) (fun _ hk => hk.1.1.1), by repeat (first | (with_reducible first | exact HB.out | apply below_alloc | apply pw_below_drewN | apply below_drew1 | refine below_set ?_ GE187.out | refine below_set ?_ GE188.out) | exact HB.out)⟩
                · rw [if_neg c26] at H
                  exact absurd H (by simp)
              · rw [if_neg c25] at H
                have c25b0 : (((rd_T24 x3_1 0).f0) == 3) = false := beq_eq_false_iff_ne.mpr c25
                have c25b1 : (((rd_T24 x3_1 0).f0) != 3) = true := bne_iff_ne.mpr c25
                simp only [Option.some.injEq, Prod.mk.injEq] at H
                obtain ⟨rfl, rfl, rfl, rfl⟩ := H
                have hnb31 := NB187_188.out
                have hnc31 := NB188_187.out
                have hcz32_0 : wr.cell? ⟨gb187, 0, none⟩ = some (.int .i64 a0_0) := (blk_cell BK187.out 0).trans rfl
                have hcz32_1 : wr.cell? ⟨gb187, 1, none⟩ = some (.int .i64 a0_1) := (blk_cell BK187.out 1).trans rfl
                have hcz32_2 : wr.cell? ⟨gb187, 2, none⟩ = some (.int .i64 a0_2) := (blk_cell BK187.out 2).trans rfl
                have hcz32_3 : wr.cell? ⟨gb187, 3, none⟩ = some (.slice A0_3 l0_3.length c0_3) := (blk_cell BK187.out 3).trans rfl
                have hfz32_0 := blk_frozen BK187.out 0
                have hfz32_1 := blk_frozen BK187.out 1
                have hfz32_2 := blk_frozen BK187.out 2
                have hfz32_3 := blk_frozen BK187.out 3
                obtain ⟨Ao33, co33, eo33⟩ := Kd.N_slice HO_3.out
                subst eo33
                have p202 : 0 ≤ (0 : Int) := (by omega)
                have q202 : 0 < (x3_1.length : Int) := of_decide_eq_true (by first | (with_reducible assumption) | assumption)
                obtain ⟨ad202, A202_3, c202_3, e202, hx202_0, hx202_1, hx202_2, hx202_3, hl202_3, hi202_3⟩ := at_T24 (Kd.N_reads' HO_3.out).2.2 0 p202 q202
                cases e202
                obtain ⟨ce202, hce202, hMe202, hcc202⟩ := Kd.N_get HO_3.out z24 0 p202 (by first | exact q202 | exact of_decide_eq_true (by first | (with_reducible assumption) | assumption) | (have e_ := (Kd.N_reads' HO_3.out).1; omega))
                obtain ⟨ua202_3, uc202_3, rfl, ul202_3, ge202_3⟩ := k24_openF hMe202
                have hv202_3 := hcc202 3 _ rfl
                rw [add_field _ _ 3 (by omega)] at hv202_3
                replace hv202_3 := Option.some.inj (hv202_3.symm.trans hx202_3)
                injection hv202_3 with hva_ hvn_ hvc_
                rw [hva_] at ge202_3
                rw [hvc_] at ul202_3
                have HL202_3 := Aside0.mk (show Kd.V k24 24 _ w.heap.size _ _ ((rd_T24 x3_1 0).f3) from Kd.V_mk ul202_3 ge202_3)
                clear hva_ hvn_ hvc_ ge202_3 ul202_3
                clear hcc202 hce202
                have qi202 : (0 < x3_1.length) = True := eq_true (by omega)
                (try rw [show ((0 : Int)).toNat = 0 from rfl] at hx202_0)
                (try rw [show 0 * 4 = 0 from rfl] at hx202_0)
                (try rw [Addr.add_zero'] at hx202_0)
                (try rw [show ((0 : Int)).toNat = 0 from rfl] at hx202_1)
                (try rw [show 0 * 4 = 0 from rfl] at hx202_1)
                (try rw [Addr.add_zero'] at hx202_1)
                (try rw [show ((0 : Int)).toNat = 0 from rfl] at hx202_2)
                (try rw [show 0 * 4 = 0 from rfl] at hx202_2)
                (try rw [Addr.add_zero'] at hx202_2)
                (try rw [show ((0 : Int)).toNat = 0 from rfl] at hx202_3)
                (try rw [show 0 * 4 = 0 from rfl] at hx202_3)
                (try rw [Addr.add_zero'] at hx202_3)
                have HR202_3 := Aside0.mk hi202_3
                have HC202_3 := Aside0.mk hl202_3
                clear hi202_3 hl202_3
                replace p202 := eq_true p202
                replace q202 := eq_true q202
                have p210 : 0 ≤ (0 : Int) := (by omega)
                have q210 : 0 < (x3_1.length : Int) := of_decide_eq_true (by first | (with_reducible assumption) | assumption)
                obtain ⟨ad210, A210_3, c210_3, e210, hx210_0, hx210_1, hx210_2, hx210_3, hl210_3, hi210_3⟩ := at_T24 (Kd.N_reads' HO_3.out).2.2 0 p210 q210
                obtain rfl : ad202 = ad210 := (by injection e210)
                obtain ⟨ce210, hce210, hMe210, hcc210⟩ := Kd.N_get HO_3.out z24 0 p210 (by first | exact q210 | exact of_decide_eq_true (by first | (with_reducible assumption) | assumption) | (have e_ := (Kd.N_reads' HO_3.out).1; omega))
                obtain ⟨ua210_3, uc210_3, rfl, ul210_3, ge210_3⟩ := k24_openF hMe210
                have hv210_3 := hcc210 3 _ rfl
                rw [add_field _ _ 3 (by omega)] at hv210_3
                replace hv210_3 := Option.some.inj (hv210_3.symm.trans hx210_3)
                injection hv210_3 with hva_ hvn_ hvc_
                rw [hva_] at ge210_3
                rw [hvc_] at ul210_3
                have HL210_3 := Aside0.mk (show Kd.V k24 24 _ w.heap.size _ _ ((rd_T24 x3_1 0).f3) from Kd.V_mk ul210_3 ge210_3)
                clear hva_ hvn_ hvc_ ge210_3 ul210_3
                clear hcc210 hce210
                have qi210 : (0 < x3_1.length) = True := eq_true (by omega)
                (try rw [show ((0 : Int)).toNat = 0 from rfl] at hx210_0)
                (try rw [show 0 * 4 = 0 from rfl] at hx210_0)
                (try rw [Addr.add_zero'] at hx210_0)
                (try rw [show ((0 : Int)).toNat = 0 from rfl] at hx210_1)
                (try rw [show 0 * 4 = 0 from rfl] at hx210_1)
                (try rw [Addr.add_zero'] at hx210_1)
                (try rw [show ((0 : Int)).toNat = 0 from rfl] at hx210_2)
                (try rw [show 0 * 4 = 0 from rfl] at hx210_2)
                (try rw [Addr.add_zero'] at hx210_2)
                (try rw [show ((0 : Int)).toNat = 0 from rfl] at hx210_3)
                (try rw [show 0 * 4 = 0 from rfl] at hx210_3)
                (try rw [Addr.add_zero'] at hx210_3)
                have HR210_3 := Aside0.mk hi210_3
                have HC210_3 := Aside0.mk hl210_3
                clear hi210_3 hl210_3
                replace p210 := eq_true p210
                replace q210 := eq_true q210
                have ea_ := Option.some.inj (hx202_3.symm.trans hx210_3)
                injection ea_ with ea_ en_ ec_
                subst ea_
                subst ec_
                clear en_
                have hcz34_0 : wr.cell? ⟨gb188, 0, none⟩ = some (.int .i64 0) := (blk_cell BK188.out 0).trans rfl
                have hcz34_1 : wr.cell? ⟨gb188, 1, none⟩ = some (.int .i64 0) := (blk_cell BK188.out 1).trans rfl
                have hcz34_2 : wr.cell? ⟨gb188, 2, none⟩ = some (.int .i64 0) := (blk_cell BK188.out 2).trans rfl
                have hcz34_3 : wr.cell? ⟨gb188, 3, none⟩ = some (.slice none 0 0) := (blk_cell BK188.out 3).trans rfl
                have hfz34_0 := blk_frozen BK188.out 0
                have hfz34_1 := blk_frozen BK188.out 1
                have hfz34_2 := blk_frozen BK188.out 2
                have hfz34_3 := blk_frozen BK188.out 3
                go_wp2
                refine bodyPost_ret (results_cell_row rfl _ _ gb188 24 #[.int .i64 3, .int .i64 0, .int .i64 0, .slice (some ad202) x3_1.length co33] (0, 0) _ rfl (by (with_reducible repeat (first | refine blk_drewN ?_ _ | refine blk_drew ?_ | refine blk_alloc ?_ _)); refine blk_put (cs := #[.int .i64 3, .int .i64 0, .int .i64 0, .slice none 0 0]) ?_ 3 _ rfl; (with_reducible repeat (first | refine blk_drewN ?_ _ | refine blk_drew ?_ | refine blk_alloc ?_ _)); refine blk_put (cs := #[.int .i64 3, .int .i64 0, .int .i64 0, .slice none 0 0]) ?_ 2 _ rfl; (with_reducible repeat (first | refine blk_drewN ?_ _ | refine blk_drew ?_ | refine blk_alloc ?_ _)); refine blk_put (cs := #[.int .i64 3, .int .i64 0, .int .i64 0, .slice none 0 0]) ?_ 1 _ rfl; (with_reducible repeat (first | refine blk_drewN ?_ _ | refine blk_drew ?_ | refine blk_alloc ?_ _)); refine blk_put (cs := #[.int .i64 0, .int .i64 0, .int .i64 0, .slice none 0 0]) ?_ 0 _ rfl; (with_reducible repeat (first | refine blk_drewN ?_ _ | refine blk_drew ?_ | refine blk_alloc ?_ _)); exact BK188.out) Tryd.underlying24 rfl (by kernel_rfl)) rfl ?_
                exact ⟨_, by first | rfl | (simp [errW_none, errW_some] <;> rfl) | (simp [*, errW_none, errW_some] <;> rfl), Kd.N_V (by (with_reducible repeat (first | apply Kd.N_alloc | apply Kd.N_drewN | apply Kd.N_drew)); exact Kd.N_mono (Kd.N_far (p := ⟨gb188, 3, none⟩) (Kd.N_far (p := ⟨gb188, 2, none⟩) (Kd.N_far (p := ⟨gb188, 1, none⟩) (Kd.N_far (p := ⟨gb188, 0, none⟩) (Kd.N_mono HO_3.out (fun k_ hk => (⟨hk, hk.2.2⟩ : _ ∧ k_ ≠ gb188))) (fun _ hk => hk.2) (.int .i64 3)) (fun _ hk => hk.2) (.int .i64 0)) (fun _ hk => hk.2) (.int .i64 0)) (fun _ hk => hk.2) (.slice (some ad202) x3_1.length co33)) (fun _ hk => hk.1.1)), by repeat (first | (with_reducible first | exact HB.out | apply below_alloc | apply pw_below_drewN | apply below_drew1 | refine below_set ?_ GE187.out | refine below_set ?_ GE188.out) | exact HB.out)⟩
          · rw [if_neg c16] at H
            exact absurd H (by simp)
        · rw [if_neg c15] at H
          have c15b0 : (a0_0 == 3) = false := beq_eq_false_iff_ne.mpr c15
          have c15b1 : (a0_0 != 3) = true := bne_iff_ne.mpr c15
          by_cases c35 : a0_0 = 4
          · rw [if_pos c35] at H
            have c35b0 : (a0_0 == 4) = true := beq_iff_eq.mpr c35
            have c35b1 : (a0_0 != 4) = false := bne_eq_false_iff_eq.mpr c35
            clear c35
            replace H := Option.bind_eq_some_iff.mp H
            obtain ⟨⟨t213, t214, t215, t216⟩, A360, H⟩ := H
            replace H : (some (t213, t214, t215, t216)) = some (r1, r2, r3, r4) := H
            have A36 := Aside0.mk A360
            clear A360
            simp only [Option.some.injEq, Prod.mk.injEq] at H
            obtain ⟨rfl, rfl, rfl, rfl⟩ := H
            have hnb37 := NB187_188.out
            have hnc37 := NB188_187.out
            have hcz38_0 : wr.cell? ⟨gb187, 0, none⟩ = some (.int .i64 a0_0) := (blk_cell BK187.out 0).trans rfl
            have hcz38_1 : wr.cell? ⟨gb187, 1, none⟩ = some (.int .i64 a0_1) := (blk_cell BK187.out 1).trans rfl
            have hcz38_2 : wr.cell? ⟨gb187, 2, none⟩ = some (.int .i64 a0_2) := (blk_cell BK187.out 2).trans rfl
            have hcz38_3 : wr.cell? ⟨gb187, 3, none⟩ = some (.slice A0_3 l0_3.length c0_3) := (blk_cell BK187.out 3).trans rfl
            have hfz38_0 := blk_frozen BK187.out 0
            have hfz38_1 := blk_frozen BK187.out 1
            have hfz38_2 := blk_frozen BK187.out 2
            have hfz38_3 := blk_frozen BK187.out 3
            obtain ⟨Ao39, co39, eo39⟩ := Kd.N_slice HO_3.out
            subst eo39
            go_wp2_with (first | ((with_reducible refine gate_callee (f := 49) rfl ?_); refine goesL_ (some 53) rfl rfl Tryd.func49 (by kernel_rfl) rfl #[.int .i64 4, .int .i64 1, .slice Ao39 x3_1.length co39] rfl (by (try simp only [List.map_toArray, List.map_cons, List.map_nil]); first | done | rfl | (simp only [List.length_drop, List.length_take]; rfl)) ?_; (with_reducible refine (chalklineref11_joined.calls k1 4 1 (fun k_ => ((P0_3_ k_ ∨ w.heap.size ≤ k_) ∧ (k_ ≠ gb187 ∧ k_ ≠ gb188))) _ _ x3_1 t213 t214 t215 t216 _ ?side1 A36.out).mono ?_); (case side1 => exact Kd.N_V (HO_3.out)); rintro e w40 ⟨v217, rfl, ho0, hb⟩; refine ⟨_, rfl, ?_⟩; have n0_ := Aside0.mk (Kd.N_below (by (with_reducible repeat (first | apply Kd.N_alloc | apply Kd.N_drewN | apply Kd.N_drew)); exact HO_3.out) hb); have n1_ := Aside0.mk (Kd.V_below (by (with_reducible repeat (first | apply Kd.V_alloc | apply Kd.V_drewN | apply Kd.V_drew)); exact HO_188003.out) hb); have n2_ := Aside0.mk (Kd.V_lower (Kd.V_mono (ok' := fun k_ => (P0_3_ k_ ∨ w.heap.size ≤ k_) ∧ k_ ≠ gb187 ∧ k_ ≠ gb188) ho0 (fun k_ hk_ => ⟨Or.elim hk_ (fun hs_ => hs_.1) (fun hn_ => (.inr (Nat.le_trans (below_size (by repeat (first | (with_reducible first | exact HB.out | apply below_alloc | apply pw_below_drewN | apply below_drew1 | refine below_set ?_ GE187.out | refine below_set ?_ GE188.out) | exact HB.out))) hn_))), Or.elim hk_ (fun hs_ => hs_.2.1) (fun hn_ => (Kd.freshB (g := gb187) (o := .cells #[.int .i64 a0_0, .int .i64 a0_1, .int .i64 a0_2, .slice A0_3 l0_3.length c0_3] 24 (0, 0)) (by (with_reducible repeat (first | refine blk_drewN ?_ _ | refine blk_drew ?_ | refine blk_alloc ?_ _)); exact BK187.out) k_ hn_)), Or.elim hk_ (fun hs_ => hs_.2.2) (fun hn_ => (Kd.freshB (g := gb188) (o := .cells #[.int .i64 0, .int .i64 0, .int .i64 0, .slice none 0 0] 24 (0, 0)) (by (with_reducible repeat (first | refine blk_drewN ?_ _ | refine blk_drew ?_ | refine blk_alloc ?_ _)); exact BK188.out) k_ hn_))⟩)) (below_size (by repeat (first | (with_reducible first | exact HB.out | apply below_alloc | apply pw_below_drewN | apply below_drew1 | refine below_set ?_ GE187.out | refine below_set ?_ GE188.out) | exact HB.out)))); have n3_ := Aside0.mk (blk_below (g := gb187) (o := .cells #[.int .i64 a0_0, .int .i64 a0_1, .int .i64 a0_2, .slice A0_3 l0_3.length c0_3] 24 (0, 0)) (by (with_reducible repeat (first | refine blk_drewN ?_ _ | refine blk_drew ?_ | refine blk_alloc ?_ _)); exact BK187.out) hb); have n4_ := Aside0.mk (blk_below (g := gb188) (o := .cells #[.int .i64 0, .int .i64 0, .int .i64 0, .slice none 0 0] 24 (0, 0)) (by (with_reducible repeat (first | refine blk_drewN ?_ _ | refine blk_drew ?_ | refine blk_alloc ?_ _)); exact BK188.out) hb); have n5_ := Aside0.mk (below_step (by repeat (first | (with_reducible first | exact HB.out | apply below_alloc | apply pw_below_drewN | apply below_drew1 | refine below_set ?_ GE187.out | refine below_set ?_ GE188.out) | exact HB.out)) hb); clear HO_3; clear HO_188003; clear BK187; clear BK188; clear HB; have HO_3 := n0_; have HO_188003 := n1_; have HO218 := n2_; have BK187 := n3_; have BK188 := n4_; have HB := n5_; clear n0_ n1_ n2_ n3_ n4_ n5_; (try clear hb); (try clear hb2); (try clear hk); (try clear hi); (try clear ho0); have hcz41_0 : w40.cell? ⟨gb188, 0, none⟩ = some (.int .i64 0) := (blk_cell BK188.out 0).trans rfl; have hcz41_1 : w40.cell? ⟨gb188, 1, none⟩ = some (.int .i64 0) := (blk_cell BK188.out 1).trans rfl; have hcz41_2 : w40.cell? ⟨gb188, 2, none⟩ = some (.int .i64 0) := (blk_cell BK188.out 2).trans rfl; have hcz41_3 : w40.cell? ⟨gb188, 3, none⟩ = some (.slice none 0 0) := (blk_cell BK188.out 3).trans rfl; have hfz41_0 := blk_frozen BK188.out 0; have hfz41_1 := blk_frozen BK188.out 1; have hfz41_2 := blk_frozen BK188.out 2; have hfz41_3 := blk_frozen BK188.out 3; obtain ⟨Ao42, co42, eo42⟩ := Kd.V_slice HO218.out; subst eo42))
            refine bodyPost_ret (results_cell_row rfl _ _ gb188 24 #[.int .i64 t213, .int .i64 t214, .int .i64 t215, .slice Ao42 t216.length co42] (0, 0) _ rfl (by (with_reducible repeat (first | refine blk_drewN ?_ _ | refine blk_drew ?_ | refine blk_alloc ?_ _)); refine blk_put (cs := #[.int .i64 t213, .int .i64 t214, .int .i64 t215, .slice none 0 0]) ?_ 3 _ rfl; (with_reducible repeat (first | refine blk_drewN ?_ _ | refine blk_drew ?_ | refine blk_alloc ?_ _)); refine blk_put (cs := #[.int .i64 t213, .int .i64 t214, .int .i64 0, .slice none 0 0]) ?_ 2 _ rfl; (with_reducible repeat (first | refine blk_drewN ?_ _ | refine blk_drew ?_ | refine blk_alloc ?_ _)); refine blk_put (cs := #[.int .i64 t213, .int .i64 0, .int .i64 0, .slice none 0 0]) ?_ 1 _ rfl; (with_reducible repeat (first | refine blk_drewN ?_ _ | refine blk_drew ?_ | refine blk_alloc ?_ _)); refine blk_put (cs := #[.int .i64 0, .int .i64 0, .int .i64 0, .slice none 0 0]) ?_ 0 _ rfl; (with_reducible repeat (first | refine blk_drewN ?_ _ | refine blk_drew ?_ | refine blk_alloc ?_ _)); exact BK188.out) Tryd.underlying24 rfl (by kernel_rfl)) rfl ?_
            exact ⟨_, by first | rfl | (simp [errW_none, errW_some] <;> rfl) | (simp [*, errW_none, errW_some] <;> rfl), by (with_reducible repeat (first | apply Kd.V_alloc | apply Kd.V_drewN | apply Kd.V_drew)); exact Kd.V_mono (Kd.V_far (p := ⟨gb188, 3, none⟩) (Kd.V_far (p := ⟨gb188, 2, none⟩) (Kd.V_far (p := ⟨gb188, 1, none⟩) (Kd.V_far (p := ⟨gb188, 0, none⟩) (Kd.V_mono HO218.out (fun k_ hk => (⟨hk, hk.2.2⟩ : _ ∧ k_ ≠ gb188))) (fun _ hk => hk.2) (.int .i64 t213)) (fun _ hk => hk.2) (.int .i64 t214)) (fun _ hk => hk.2) (.int .i64 t215)) (fun _ hk => hk.2) (.slice Ao42 t216.length co42)) (fun _ hk => hk.1.1), by repeat (first | (with_reducible first | exact HB.out | apply below_alloc | apply pw_below_drewN | apply below_drew1 | refine below_set ?_ GE187.out | refine below_set ?_ GE188.out) | exact HB.out)⟩
          · rw [if_neg c35] at H
            have c35b0 : (a0_0 == 4) = false := beq_eq_false_iff_ne.mpr c35
            have c35b1 : (a0_0 != 4) = true := bne_iff_ne.mpr c35
            by_cases c43 : a0_0 = 5
            · rw [if_pos c43] at H
              have c43b0 : (a0_0 == 5) = true := beq_iff_eq.mpr c43
              have c43b1 : (a0_0 != 5) = false := bne_eq_false_iff_eq.mpr c43
              clear c43
              replace H := Option.bind_eq_some_iff.mp H
              obtain ⟨⟨t219, t220, t221, t222⟩, A440, H⟩ := H
              replace H : (some (t219, t220, t221, t222)) = some (r1, r2, r3, r4) := H
              have A44 := Aside0.mk A440
              clear A440
              simp only [Option.some.injEq, Prod.mk.injEq] at H
              obtain ⟨rfl, rfl, rfl, rfl⟩ := H
              have hnb45 := NB187_188.out
              have hnc45 := NB188_187.out
              have hcz46_0 : wr.cell? ⟨gb187, 0, none⟩ = some (.int .i64 a0_0) := (blk_cell BK187.out 0).trans rfl
              have hcz46_1 : wr.cell? ⟨gb187, 1, none⟩ = some (.int .i64 a0_1) := (blk_cell BK187.out 1).trans rfl
              have hcz46_2 : wr.cell? ⟨gb187, 2, none⟩ = some (.int .i64 a0_2) := (blk_cell BK187.out 2).trans rfl
              have hcz46_3 : wr.cell? ⟨gb187, 3, none⟩ = some (.slice A0_3 l0_3.length c0_3) := (blk_cell BK187.out 3).trans rfl
              have hfz46_0 := blk_frozen BK187.out 0
              have hfz46_1 := blk_frozen BK187.out 1
              have hfz46_2 := blk_frozen BK187.out 2
              have hfz46_3 := blk_frozen BK187.out 3
              obtain ⟨Ao47, co47, eo47⟩ := Kd.N_slice HO_3.out
              subst eo47
              go_wp2_with (first | ((with_reducible refine gate_callee (f := 49) rfl ?_); refine goesL_ (some 57) rfl rfl Tryd.func49 (by kernel_rfl) rfl #[.int .i64 5, .int .i64 0, .slice Ao47 x3_1.length co47] rfl (by (try simp only [List.map_toArray, List.map_cons, List.map_nil]); first | done | rfl | (simp only [List.length_drop, List.length_take]; rfl)) ?_; (with_reducible refine (chalklineref11_joined.calls k1 5 0 (fun k_ => ((P0_3_ k_ ∨ w.heap.size ≤ k_) ∧ (k_ ≠ gb187 ∧ k_ ≠ gb188))) _ _ x3_1 t219 t220 t221 t222 _ ?side1 A44.out).mono ?_); (case side1 => exact Kd.N_V (HO_3.out)); rintro e w48 ⟨v223, rfl, ho0, hb⟩; refine ⟨_, rfl, ?_⟩; have n0_ := Aside0.mk (Kd.N_below (by (with_reducible repeat (first | apply Kd.N_alloc | apply Kd.N_drewN | apply Kd.N_drew)); exact HO_3.out) hb); have n1_ := Aside0.mk (Kd.V_below (by (with_reducible repeat (first | apply Kd.V_alloc | apply Kd.V_drewN | apply Kd.V_drew)); exact HO_188003.out) hb); have n2_ := Aside0.mk (Kd.V_lower (Kd.V_mono (ok' := fun k_ => (P0_3_ k_ ∨ w.heap.size ≤ k_) ∧ k_ ≠ gb187 ∧ k_ ≠ gb188) ho0 (fun k_ hk_ => ⟨Or.elim hk_ (fun hs_ => hs_.1) (fun hn_ => (.inr (Nat.le_trans (below_size (by repeat (first | (with_reducible first | exact HB.out | apply below_alloc | apply pw_below_drewN | apply below_drew1 | refine below_set ?_ GE187.out | refine below_set ?_ GE188.out) | exact HB.out))) hn_))), Or.elim hk_ (fun hs_ => hs_.2.1) (fun hn_ => (Kd.freshB (g := gb187) (o := .cells #[.int .i64 a0_0, .int .i64 a0_1, .int .i64 a0_2, .slice A0_3 l0_3.length c0_3] 24 (0, 0)) (by (with_reducible repeat (first | refine blk_drewN ?_ _ | refine blk_drew ?_ | refine blk_alloc ?_ _)); exact BK187.out) k_ hn_)), Or.elim hk_ (fun hs_ => hs_.2.2) (fun hn_ => (Kd.freshB (g := gb188) (o := .cells #[.int .i64 0, .int .i64 0, .int .i64 0, .slice none 0 0] 24 (0, 0)) (by (with_reducible repeat (first | refine blk_drewN ?_ _ | refine blk_drew ?_ | refine blk_alloc ?_ _)); exact BK188.out) k_ hn_))⟩)) (below_size (by repeat (first | (with_reducible first | exact HB.out | apply below_alloc | apply pw_below_drewN | apply below_drew1 | refine below_set ?_ GE187.out | refine below_set ?_ GE188.out) | exact HB.out)))); have n3_ := Aside0.mk (blk_below (g := gb187) (o := .cells #[.int .i64 a0_0, .int .i64 a0_1, .int .i64 a0_2, .slice A0_3 l0_3.length c0_3] 24 (0, 0)) (by (with_reducible repeat (first | refine blk_drewN ?_ _ | refine blk_drew ?_ | refine blk_alloc ?_ _)); exact BK187.out) hb); have n4_ := Aside0.mk (blk_below (g := gb188) (o := .cells #[.int .i64 0, .int .i64 0, .int .i64 0, .slice none 0 0] 24 (0, 0)) (by (with_reducible repeat (first | refine blk_drewN ?_ _ | refine blk_drew ?_ | refine blk_alloc ?_ _)); exact BK188.out) hb); have n5_ := Aside0.mk (below_step (by repeat (first | (with_reducible first | exact HB.out | apply below_alloc | apply pw_below_drewN | apply below_drew1 | refine below_set ?_ GE187.out | refine below_set ?_ GE188.out) | exact HB.out)) hb); clear HO_3; clear HO_188003; clear BK187; clear BK188; clear HB; have HO_3 := n0_; have HO_188003 := n1_; have HO224 := n2_; have BK187 := n3_; have BK188 := n4_; have HB := n5_; clear n0_ n1_ n2_ n3_ n4_ n5_; (try clear hb); (try clear hb2); (try clear hk); (try clear hi); (try clear ho0); have hcz49_0 : w48.cell? ⟨gb188, 0, none⟩ = some (.int .i64 0) := (blk_cell BK188.out 0).trans rfl; have hcz49_1 : w48.cell? ⟨gb188, 1, none⟩ = some (.int .i64 0) := (blk_cell BK188.out 1).trans rfl; have hcz49_2 : w48.cell? ⟨gb188, 2, none⟩ = some (.int .i64 0) := (blk_cell BK188.out 2).trans rfl; have hcz49_3 : w48.cell? ⟨gb188, 3, none⟩ = some (.slice none 0 0) := (blk_cell BK188.out 3).trans rfl; have hfz49_0 := blk_frozen BK188.out 0; have hfz49_1 := blk_frozen BK188.out 1; have hfz49_2 := blk_frozen BK188.out 2; have hfz49_3 := blk_frozen BK188.out 3; obtain ⟨Ao50, co50, eo50⟩ := Kd.V_slice HO224.out; subst eo50))
              refine bodyPost_ret (results_cell_row rfl _ _ gb188 24 #[.int .i64 t219, .int .i64 t220, .int .i64 t221, .slice Ao50 t222.length co50] (0, 0) _ rfl (by (with_reducible repeat (first | refine blk_drewN ?_ _ | refine blk_drew ?_ | refine blk_alloc ?_ _)); refine blk_put (cs := #[.int .i64 t219, .int .i64 t220, .int .i64 t221, .slice none 0 0]) ?_ 3 _ rfl; (with_reducible repeat (first | refine blk_drewN ?_ _ | refine blk_drew ?_ | refine blk_alloc ?_ _)); refine blk_put (cs := #[.int .i64 t219, .int .i64 t220, .int .i64 0, .slice none 0 0]) ?_ 2 _ rfl; (with_reducible repeat (first | refine blk_drewN ?_ _ | refine blk_drew ?_ | refine blk_alloc ?_ _)); refine blk_put (cs := #[.int .i64 t219, .int .i64 0, .int .i64 0, .slice none 0 0]) ?_ 1 _ rfl; (with_reducible repeat (first | refine blk_drewN ?_ _ | refine blk_drew ?_ | refine blk_alloc ?_ _)); refine blk_put (cs := #[.int .i64 0, .int .i64 0, .int .i64 0, .slice none 0 0]) ?_ 0 _ rfl; (with_reducible repeat (first | refine blk_drewN ?_ _ | refine blk_drew ?_ | refine blk_alloc ?_ _)); exact BK188.out) Tryd.underlying24 rfl (by kernel_rfl)) rfl ?_
              exact ⟨_, by first | rfl | (simp [errW_none, errW_some] <;> rfl) | (simp [*, errW_none, errW_some] <;> rfl), by (with_reducible repeat (first | apply Kd.V_alloc | apply Kd.V_drewN | apply Kd.V_drew)); exact Kd.V_mono (Kd.V_far (p := ⟨gb188, 3, none⟩) (Kd.V_far (p := ⟨gb188, 2, none⟩) (Kd.V_far (p := ⟨gb188, 1, none⟩) (Kd.V_far (p := ⟨gb188, 0, none⟩) (Kd.V_mono HO224.out (fun k_ hk => (⟨hk, hk.2.2⟩ : _ ∧ k_ ≠ gb188))) (fun _ hk => hk.2) (.int .i64 t219)) (fun _ hk => hk.2) (.int .i64 t220)) (fun _ hk => hk.2) (.int .i64 t221)) (fun _ hk => hk.2) (.slice Ao50 t222.length co50)) (fun _ hk => hk.1.1), by repeat (first | (with_reducible first | exact HB.out | apply below_alloc | apply pw_below_drewN | apply below_drew1 | refine below_set ?_ GE187.out | refine below_set ?_ GE188.out) | exact HB.out)⟩
            · rw [if_neg c43] at H
              have c43b0 : (a0_0 == 5) = false := beq_eq_false_iff_ne.mpr c43
              have c43b1 : (a0_0 != 5) = true := bne_iff_ne.mpr c43
              by_cases c51 : a0_0 = 6
              · rw [if_pos c51] at H
                have c51b0 : (a0_0 == 6) = true := beq_iff_eq.mpr c51
                have c51b1 : (a0_0 != 6) = false := bne_eq_false_iff_eq.mpr c51
                clear c51
                replace H := Option.bind_eq_some_iff.mp H
                obtain ⟨⟨t225, t226, t227, t228⟩, A520, H⟩ := H
                replace H : (some (t225, t226, t227, t228)) = some (r1, r2, r3, r4) := H
                have A52 := Aside0.mk A520
                clear A520
                simp only [Option.some.injEq, Prod.mk.injEq] at H
                obtain ⟨rfl, rfl, rfl, rfl⟩ := H
                have hnb53 := NB187_188.out
                have hnc53 := NB188_187.out
                have hcz54_0 : wr.cell? ⟨gb187, 0, none⟩ = some (.int .i64 a0_0) := (blk_cell BK187.out 0).trans rfl
                have hcz54_1 : wr.cell? ⟨gb187, 1, none⟩ = some (.int .i64 a0_1) := (blk_cell BK187.out 1).trans rfl
                have hcz54_2 : wr.cell? ⟨gb187, 2, none⟩ = some (.int .i64 a0_2) := (blk_cell BK187.out 2).trans rfl
                have hcz54_3 : wr.cell? ⟨gb187, 3, none⟩ = some (.slice A0_3 l0_3.length c0_3) := (blk_cell BK187.out 3).trans rfl
                have hfz54_0 := blk_frozen BK187.out 0
                have hfz54_1 := blk_frozen BK187.out 1
                have hfz54_2 := blk_frozen BK187.out 2
                have hfz54_3 := blk_frozen BK187.out 3
                obtain ⟨Ao55, co55, eo55⟩ := Kd.N_slice HO_3.out
                subst eo55
                go_wp2_with (first | ((with_reducible refine gate_callee (f := 50) rfl ?_); refine goesL_ (some 63) rfl rfl Tryd.func50 (by kernel_rfl) rfl #[.int .i64 a0_2, .slice Ao55 x3_1.length co55] rfl (by (try simp only [List.map_toArray, List.map_cons, List.map_nil]); first | done | rfl | (simp only [List.length_drop, List.length_take]; rfl)) ?_; (with_reducible refine (chalklineref11_least.calls k1 a0_2 (fun k_ => ((P0_3_ k_ ∨ w.heap.size ≤ k_) ∧ (k_ ≠ gb187 ∧ k_ ≠ gb188))) _ _ x3_1 t225 t226 t227 t228 _ ?side1 A52.out).mono ?_); (case side1 => exact Kd.N_V (HO_3.out)); rintro e w56 ⟨v229, rfl, ho0, hb⟩; refine ⟨_, rfl, ?_⟩; have n0_ := Aside0.mk (Kd.N_below (by (with_reducible repeat (first | apply Kd.N_alloc | apply Kd.N_drewN | apply Kd.N_drew)); exact HO_3.out) hb); have n1_ := Aside0.mk (Kd.V_below (by (with_reducible repeat (first | apply Kd.V_alloc | apply Kd.V_drewN | apply Kd.V_drew)); exact HO_188003.out) hb); have n2_ := Aside0.mk (Kd.V_lower (Kd.V_mono (ok' := fun k_ => (P0_3_ k_ ∨ w.heap.size ≤ k_) ∧ k_ ≠ gb187 ∧ k_ ≠ gb188) ho0 (fun k_ hk_ => ⟨Or.elim hk_ (fun hs_ => hs_.1) (fun hn_ => (.inr (Nat.le_trans (below_size (by repeat (first | (with_reducible first | exact HB.out | apply below_alloc | apply pw_below_drewN | apply below_drew1 | refine below_set ?_ GE187.out | refine below_set ?_ GE188.out) | exact HB.out))) hn_))), Or.elim hk_ (fun hs_ => hs_.2.1) (fun hn_ => (Kd.freshB (g := gb187) (o := .cells #[.int .i64 a0_0, .int .i64 a0_1, .int .i64 a0_2, .slice A0_3 l0_3.length c0_3] 24 (0, 0)) (by (with_reducible repeat (first | refine blk_drewN ?_ _ | refine blk_drew ?_ | refine blk_alloc ?_ _)); exact BK187.out) k_ hn_)), Or.elim hk_ (fun hs_ => hs_.2.2) (fun hn_ => (Kd.freshB (g := gb188) (o := .cells #[.int .i64 0, .int .i64 0, .int .i64 0, .slice none 0 0] 24 (0, 0)) (by (with_reducible repeat (first | refine blk_drewN ?_ _ | refine blk_drew ?_ | refine blk_alloc ?_ _)); exact BK188.out) k_ hn_))⟩)) (below_size (by repeat (first | (with_reducible first | exact HB.out | apply below_alloc | apply pw_below_drewN | apply below_drew1 | refine below_set ?_ GE187.out | refine below_set ?_ GE188.out) | exact HB.out)))); have n3_ := Aside0.mk (blk_below (g := gb187) (o := .cells #[.int .i64 a0_0, .int .i64 a0_1, .int .i64 a0_2, .slice A0_3 l0_3.length c0_3] 24 (0, 0)) (by (with_reducible repeat (first | refine blk_drewN ?_ _ | refine blk_drew ?_ | refine blk_alloc ?_ _)); exact BK187.out) hb); have n4_ := Aside0.mk (blk_below (g := gb188) (o := .cells #[.int .i64 0, .int .i64 0, .int .i64 0, .slice none 0 0] 24 (0, 0)) (by (with_reducible repeat (first | refine blk_drewN ?_ _ | refine blk_drew ?_ | refine blk_alloc ?_ _)); exact BK188.out) hb); have n5_ := Aside0.mk (below_step (by repeat (first | (with_reducible first | exact HB.out | apply below_alloc | apply pw_below_drewN | apply below_drew1 | refine below_set ?_ GE187.out | refine below_set ?_ GE188.out) | exact HB.out)) hb); clear HO_3; clear HO_188003; clear BK187; clear BK188; clear HB; have HO_3 := n0_; have HO_188003 := n1_; have HO230 := n2_; have BK187 := n3_; have BK188 := n4_; have HB := n5_; clear n0_ n1_ n2_ n3_ n4_ n5_; (try clear hb); (try clear hb2); (try clear hk); (try clear hi); (try clear ho0); have hcz57_0 : w56.cell? ⟨gb188, 0, none⟩ = some (.int .i64 0) := (blk_cell BK188.out 0).trans rfl; have hcz57_1 : w56.cell? ⟨gb188, 1, none⟩ = some (.int .i64 0) := (blk_cell BK188.out 1).trans rfl; have hcz57_2 : w56.cell? ⟨gb188, 2, none⟩ = some (.int .i64 0) := (blk_cell BK188.out 2).trans rfl; have hcz57_3 : w56.cell? ⟨gb188, 3, none⟩ = some (.slice none 0 0) := (blk_cell BK188.out 3).trans rfl; have hfz57_0 := blk_frozen BK188.out 0; have hfz57_1 := blk_frozen BK188.out 1; have hfz57_2 := blk_frozen BK188.out 2; have hfz57_3 := blk_frozen BK188.out 3; obtain ⟨Ao58, co58, eo58⟩ := Kd.V_slice HO230.out; subst eo58))
                refine bodyPost_ret (results_cell_row rfl _ _ gb188 24 #[.int .i64 t225, .int .i64 t226, .int .i64 t227, .slice Ao58 t228.length co58] (0, 0) _ rfl (by (with_reducible repeat (first | refine blk_drewN ?_ _ | refine blk_drew ?_ | refine blk_alloc ?_ _)); refine blk_put (cs := #[.int .i64 t225, .int .i64 t226, .int .i64 t227, .slice none 0 0]) ?_ 3 _ rfl; (with_reducible repeat (first | refine blk_drewN ?_ _ | refine blk_drew ?_ | refine blk_alloc ?_ _)); refine blk_put (cs := #[.int .i64 t225, .int .i64 t226, .int .i64 0, .slice none 0 0]) ?_ 2 _ rfl; (with_reducible repeat (first | refine blk_drewN ?_ _ | refine blk_drew ?_ | refine blk_alloc ?_ _)); refine blk_put (cs := #[.int .i64 t225, .int .i64 0, .int .i64 0, .slice none 0 0]) ?_ 1 _ rfl; (with_reducible repeat (first | refine blk_drewN ?_ _ | refine blk_drew ?_ | refine blk_alloc ?_ _)); refine blk_put (cs := #[.int .i64 0, .int .i64 0, .int .i64 0, .slice none 0 0]) ?_ 0 _ rfl; (with_reducible repeat (first | refine blk_drewN ?_ _ | refine blk_drew ?_ | refine blk_alloc ?_ _)); exact BK188.out) Tryd.underlying24 rfl (by kernel_rfl)) rfl ?_
                exact ⟨_, by first | rfl | (simp [errW_none, errW_some] <;> rfl) | (simp [*, errW_none, errW_some] <;> rfl), by (with_reducible repeat (first | apply Kd.V_alloc | apply Kd.V_drewN | apply Kd.V_drew)); exact Kd.V_mono (Kd.V_far (p := ⟨gb188, 3, none⟩) (Kd.V_far (p := ⟨gb188, 2, none⟩) (Kd.V_far (p := ⟨gb188, 1, none⟩) (Kd.V_far (p := ⟨gb188, 0, none⟩) (Kd.V_mono HO230.out (fun k_ hk => (⟨hk, hk.2.2⟩ : _ ∧ k_ ≠ gb188))) (fun _ hk => hk.2) (.int .i64 t225)) (fun _ hk => hk.2) (.int .i64 t226)) (fun _ hk => hk.2) (.int .i64 t227)) (fun _ hk => hk.2) (.slice Ao58 t228.length co58)) (fun _ hk => hk.1.1), by repeat (first | (with_reducible first | exact HB.out | apply below_alloc | apply pw_below_drewN | apply below_drew1 | refine below_set ?_ GE187.out | refine below_set ?_ GE188.out) | exact HB.out)⟩
              · rw [if_neg c51] at H
                have c51b0 : (a0_0 == 6) = false := beq_eq_false_iff_ne.mpr c51
                have c51b1 : (a0_0 != 6) = true := bne_iff_ne.mpr c51
                simp only [Option.some.injEq, Prod.mk.injEq] at H
                obtain ⟨rfl, rfl, rfl, rfl⟩ := H
                have hnb59 := NB187_188.out
                have hnc59 := NB188_187.out
                have hcz60_0 : wr.cell? ⟨gb187, 0, none⟩ = some (.int .i64 a0_0) := (blk_cell BK187.out 0).trans rfl
                have hcz60_1 : wr.cell? ⟨gb187, 1, none⟩ = some (.int .i64 a0_1) := (blk_cell BK187.out 1).trans rfl
                have hcz60_2 : wr.cell? ⟨gb187, 2, none⟩ = some (.int .i64 a0_2) := (blk_cell BK187.out 2).trans rfl
                have hcz60_3 : wr.cell? ⟨gb187, 3, none⟩ = some (.slice A0_3 l0_3.length c0_3) := (blk_cell BK187.out 3).trans rfl
                have hfz60_0 := blk_frozen BK187.out 0
                have hfz60_1 := blk_frozen BK187.out 1
                have hfz60_2 := blk_frozen BK187.out 2
                have hfz60_3 := blk_frozen BK187.out 3
                have hcz61_0 : wr.cell? ⟨gb188, 0, none⟩ = some (.int .i64 0) := (blk_cell BK188.out 0).trans rfl
                have hcz61_1 : wr.cell? ⟨gb188, 1, none⟩ = some (.int .i64 0) := (blk_cell BK188.out 1).trans rfl
                have hcz61_2 : wr.cell? ⟨gb188, 2, none⟩ = some (.int .i64 0) := (blk_cell BK188.out 2).trans rfl
                have hcz61_3 : wr.cell? ⟨gb188, 3, none⟩ = some (.slice none 0 0) := (blk_cell BK188.out 3).trans rfl
                have hfz61_0 := blk_frozen BK188.out 0
                have hfz61_1 := blk_frozen BK188.out 1
                have hfz61_2 := blk_frozen BK188.out 2
                have hfz61_3 := blk_frozen BK188.out 3
                go_wp2
                refine bodyPost_ret (results_cell_row rfl _ _ gb188 24 #[.int .i64 a0_0, .int .i64 a0_1, .int .i64 a0_2, .slice A0_3 l0_3.length c0_3] (0, 0) _ rfl (by (with_reducible repeat (first | refine blk_drewN ?_ _ | refine blk_drew ?_ | refine blk_alloc ?_ _)); refine blk_put (cs := #[.int .i64 a0_0, .int .i64 a0_1, .int .i64 a0_2, .slice none 0 0]) ?_ 3 _ rfl; (with_reducible repeat (first | refine blk_drewN ?_ _ | refine blk_drew ?_ | refine blk_alloc ?_ _)); refine blk_put (cs := #[.int .i64 a0_0, .int .i64 a0_1, .int .i64 0, .slice none 0 0]) ?_ 2 _ rfl; (with_reducible repeat (first | refine blk_drewN ?_ _ | refine blk_drew ?_ | refine blk_alloc ?_ _)); refine blk_put (cs := #[.int .i64 a0_0, .int .i64 0, .int .i64 0, .slice none 0 0]) ?_ 1 _ rfl; (with_reducible repeat (first | refine blk_drewN ?_ _ | refine blk_drew ?_ | refine blk_alloc ?_ _)); refine blk_put (cs := #[.int .i64 0, .int .i64 0, .int .i64 0, .slice none 0 0]) ?_ 0 _ rfl; (with_reducible repeat (first | refine blk_drewN ?_ _ | refine blk_drew ?_ | refine blk_alloc ?_ _)); exact BK188.out) Tryd.underlying24 rfl (by kernel_rfl)) rfl ?_
                exact ⟨_, by first | rfl | (simp [errW_none, errW_some] <;> rfl) | (simp [*, errW_none, errW_some] <;> rfl), by (with_reducible repeat (first | apply Kd.V_alloc | apply Kd.V_drewN | apply Kd.V_drew)); exact Kd.V_mono (Kd.V_far (p := ⟨gb188, 3, none⟩) (Kd.V_far (p := ⟨gb188, 2, none⟩) (Kd.V_far (p := ⟨gb188, 1, none⟩) (Kd.V_far (p := ⟨gb188, 0, none⟩) (Kd.V_mono HO_188003.out (fun k_ hk => (⟨hk, hk.2.2.2⟩ : _ ∧ k_ ≠ gb188))) (fun _ hk => hk.2) (.int .i64 a0_0)) (fun _ hk => hk.2) (.int .i64 a0_1)) (fun _ hk => hk.2) (.int .i64 a0_2)) (fun _ hk => hk.2) (.slice A0_3 l0_3.length c0_3)) (fun _ hk => hk.1.1), by repeat (first | (with_reducible first | exact HB.out | apply below_alloc | apply pw_below_drewN | apply below_drew1 | refine below_set ?_ GE187.out | refine below_set ?_ GE188.out) | exact HB.out)⟩

-- NOT PRINTED: function 16 (chalklineref11_Simple)

-- NOT PRINTED: function 4 (chalklinelaw11_FlatSimplifies)


end Go.Proofs.YtphegiohkggddaaDoor.PF
