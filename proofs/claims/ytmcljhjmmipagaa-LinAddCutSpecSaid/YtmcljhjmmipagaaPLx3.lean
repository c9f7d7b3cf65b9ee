/- Lean functions that tell what the Go functions named below answer, and a proof for each that the Go function comes to just that answer; the conditions stand in each statement. -/
import Derived.Test.YtmcljhjmmipagaaPLx0
namespace Go.Proofs.Ytmcljhjmmipagaa.PL
open Go.RowKit Go.Proofs.YtmcljhjmmipagaaW.PrintWords Go.Proofs.YtmcljhjmmipagaaW.PrintLast Go.Proofs.YtmcljhjmmipagaaW.PrintMore
attribute [local go_sem] max2_int min2_int max_two min_two max_three min_three max_four min_four   -- for this text's walks alone
set_option linter.unusedVariables false
set_option linter.unusedSimpArgs false

/-! ### chalklineref12_Check: function 23 -/
mutual
def chalklineref12_Check.j0 : Nat → Int → Bool → List Int → List Int → Int → Option (Int)
 | 0, _, _, _, _, _ => none
 | k + 1, x1, x30, x195000, x195001, x195002 => if x30 = true then (some 1) else (chalklineref12_Check.l0 k x1 0 x195000 x195001 x195002)
def chalklineref12_Check.l0 : Nat → Int → Int → List Int → List Int → Int → Option (Int)
 | 0, _, _, _, _, _ => none
 | k + 1, x1, x5, x195000, x195001, x195002 => if x5 < (x195001.length : Int) then (if 0 ≤ x5 then (if x5 < (x195000.length : Int) then (if (rd x195000 x5) < (-1099511627776) then (some 1) else (if (rd x195000 x5) > 1099511627776 then (some 1) else (if (rd x195001 x5) = 0 then (some 1) else (if (rd x195001 x5) < (wrap64 (-x1)) then (some 1) else (if (rd x195001 x5) > x1 then (some 1) else (chalklineref12_Check.l0 k x1 (wrap64 (x5 + 1)) x195000 x195001 x195002)))))) else (none)) else (none)) else (if (x195001.length : Int) > 4096 then (some 2) else (some 0))
end
def chalklineref12_Check.f (k : Nat) (l0_0 : List Int) (l0_1 : List Int) (a0_2 : Int) (a1 : Int) : Option (Int) := if a1 < 0 then (chalklineref12_Check.j0 k a1 true l0_0 l0_1 a0_2) else (if a1 > 65536 then (chalklineref12_Check.j0 k a1 true l0_0 l0_1 a0_2) else (if (l0_0.length : Int) = (l0_1.length : Int) then (if a0_2 < (-1099511627776) then (chalklineref12_Check.j0 k a1 true l0_0 l0_1 a0_2) else (chalklineref12_Check.j0 k a1 (decide (a0_2 > 1099511627776)) l0_0 l0_1 a0_2)) else (chalklineref12_Check.j0 k a1 true l0_0 l0_1 a0_2)))
set_option maxHeartbeats 8000000 in
set_option maxRecDepth 100000 in
theorem chalklineref12_Check.calls (k : Nat) (A0_0 : Option Addr) (c0_0 : Nat) (l0_0 : List Int) (A0_1 : Option Addr) (c0_1 : Nat) (l0_1 : List Int) (a0_2 : Int) (a1 : Int) (r : Int) (w : World) (hr0_0 : Kd.C (Kd.int .i64) w A0_0 l0_0.length l0_0) (hc0_0 : l0_0.length ≤ c0_0) (hr0_1 : Kd.C (Kd.int .i64) w A0_1 l0_1.length l0_1) (hc0_1 : l0_1.length ≤ c0_1) (h : chalklineref12_Check.f k l0_0 l0_1 a0_2 a1 = some r) :
  Calls Try.prog 23 #[.agg #[.slice A0_0 l0_0.length c0_0, .slice A0_1 l0_1.length c0_1, .int .i64 a0_2], .int .i64 a1] w fun e w' => e = .returned (.int .i64 r) ∧ Below w.heap.size w w' := by
 have hu24 := Try.underlying24
 have HR0_0 := Aside0.mk hr0_0
 have HC0_0 := Aside0.mk hc0_0
 clear hr0_0 hc0_0
 have HR0_1 := Aside0.mk hr0_1
 have HC0_1 := Aside0.mk hc0_1
 clear hr0_1 hc0_1
 have HB := Aside0.mk (Below.refl w.heap.size w)
 have H : (if a1 < 0 then (chalklineref12_Check.j0 k a1 true l0_0 l0_1 a0_2) else (if a1 > 65536 then (chalklineref12_Check.j0 k a1 true l0_0 l0_1 a0_2) else (if (l0_0.length : Int) = (l0_1.length : Int) then (if a0_2 < (-1099511627776) then (chalklineref12_Check.j0 k a1 true l0_0 l0_1 a0_2) else (chalklineref12_Check.j0 k a1 (decide (a0_2 > 1099511627776)) l0_0 l0_1 a0_2)) else (chalklineref12_Check.j0 k a1 true l0_0 l0_1 a0_2)))) = some r := h
 clear h
 have HC3 := Aside0.mk H
 clear H
 go_enter Try.func23, Try.ntmps23
 go_upto_region 1 with (first | ((with_reducible refine gate_dst (N := 2) rfl ?_); (try (refine gate_guard (by rfl) ?_; dsimp only)); refine box_event ?hg (N := 2) ?hd (cs := #[.slice A0_0 l0_0.length c0_0, .slice A0_1 l0_1.length c0_1, .int .i64 a0_2]) (t := 24) ?hr ?_; (case hd => rfl); (case hg => rfl); (case hr => first | (go_simp; done) | (go_simp; rfl)); intro gb194 hg w4 hbox hb; have n0_ := Aside0.mk (below_step (by repeat (first | (with_reducible first | exact HB.out | apply below_alloc | apply pw_below_drewN | apply below_drew1) | exact HB.out)) hb); have n1_ := Aside0.mk (hbox); have n2_ := Aside0.mk ((by rw [hg]; exact (below_size (by repeat (first | (with_reducible first | exact HB.out | apply below_alloc | apply pw_below_drewN | apply below_drew1) | exact HB.out))) : w.heap.size ≤ gb194)); have n3_ := Aside0.mk ((by rw [hg]; exact (below_size (by repeat (first | (with_reducible first | exact HB.out | apply below_alloc | apply pw_below_drewN | apply below_drew1) | exact HB.out))) : w.heap.size ≤ gb194)); clear HB; have HB := n0_; have BK194 := n1_; have GW194 := n2_; have GE194 := n3_; clear n0_ n1_ n2_ n3_; clear hb hbox hg))
 (try simp only [Act.put, List.setIfInBounds_toArray, List.set_cons_zero, List.set_cons_succ])
 go_cut [30] (fun v30 wc => ∃ (kq : Nat) (x30_2 : Bool), v30 = .bool x30_2 ∧ Aside0 (chalklineref12_Check.j0 kq a1 x30_2 l0_0 l0_1 a0_2 = some r) ∧ Aside0 (kq ≤ k) ∧ Aside0 (wc.heap[gb194]? = some (.cells #[(.slice A0_0 l0_0.length c0_0), (.slice A0_1 l0_1.length c0_1), .int .i64 a0_2] 24 (0, 0))) ∧ Aside0 (Below w.heap.size w wc))
 case first =>
  have H := HC3.out
  clear HC3
  by_cases c5 : a1 < 0
  ·
   rw [if_pos c5] at H
   have c5b0 : decide (a1 < 0) = true := decide_eq_true c5
   clear c5
   (first | rw [c5b0] | (simp only [i64_w, i32_w]; rw [c5b0]) | skip)
   have H' := Aside0.mk H
   clear H
   go_wp2
   go_meet
   case rel => exact ⟨_, (true), (by first | rfl | (simp; done) | (simp [*]; done)), H', ⟨by first | omega | exact Nat.le_refl _⟩, ⟨by (with_reducible repeat (first | refine blk_drewN ?_ _ | refine blk_drew ?_ | refine blk_alloc ?_ _)); exact BK194.out⟩, ⟨by repeat (first | (with_reducible first | exact HB.out | apply below_alloc | apply pw_below_drewN | apply below_drew1 | refine below_set ?_ GE194.out) | exact HB.out)⟩⟩
  ·
   rw [if_neg c5] at H
   have c5b0 : decide (a1 < 0) = false := decide_eq_false c5
   clear c5
   (first | rw [c5b0] | (simp only [i64_w, i32_w]; rw [c5b0]) | skip)
   by_cases c6 : a1 > 65536
   ·
    rw [if_pos c6] at H
    have c6b0 : decide (65536 < a1) = true := decide_eq_true c6
    clear c6
    have H' := Aside0.mk H
    clear H
    go_wp2
    go_meet
    case rel => exact ⟨_, (true), (by first | rfl | (simp; done) | (simp [*]; done)), H', ⟨by first | omega | exact Nat.le_refl _⟩, ⟨by (with_reducible repeat (first | refine blk_drewN ?_ _ | refine blk_drew ?_ | refine blk_alloc ?_ _)); exact BK194.out⟩, ⟨by repeat (first | (with_reducible first | exact HB.out | apply below_alloc | apply pw_below_drewN | apply below_drew1 | refine below_set ?_ GE194.out) | exact HB.out)⟩⟩
   ·
    rw [if_neg c6] at H
    have c6b0 : decide (65536 < a1) = false := decide_eq_false c6
    clear c6
    by_cases c7 : (l0_0.length : Int) = (l0_1.length : Int)
    ·
     rw [if_pos c7] at H
     have c7b0 : ((l0_0.length : Int) == (l0_1.length : Int)) = true := beq_iff_eq.mpr c7
     have c7b1 : ((l0_0.length : Int) != (l0_1.length : Int)) = false := bne_eq_false_iff_eq.mpr c7
     have c7b2 : (l0_0.length == l0_1.length) = true := by first | simpa using c7 | (simp at c7 ⊢; omega)
     clear c7
     by_cases c8 : a0_2 < (-1099511627776)
     ·
      rw [if_pos c8] at H
      have c8b0 : decide (a0_2 < (-1099511627776)) = true := decide_eq_true c8
      clear c8
      have H' := Aside0.mk H
      clear H
      have hcz9_0 : w4.cell? ⟨gb194, 0, none⟩ = some (.slice A0_0 l0_0.length c0_0) := (blk_cell BK194.out 0).trans rfl
      have hcz9_1 : w4.cell? ⟨gb194, 1, none⟩ = some (.slice A0_1 l0_1.length c0_1) := (blk_cell BK194.out 1).trans rfl
      have hcz9_2 : w4.cell? ⟨gb194, 2, none⟩ = some (.int .i64 a0_2) := (blk_cell BK194.out 2).trans rfl
      have hfz9_0 := blk_frozen BK194.out 0
      have hfz9_1 := blk_frozen BK194.out 1
      have hfz9_2 := blk_frozen BK194.out 2
      go_wp2
      go_meet
      case rel => exact ⟨_, (true), (by first | rfl | (simp; done) | (simp [*]; done)), H', ⟨by first | omega | exact Nat.le_refl _⟩, ⟨by (with_reducible repeat (first | refine blk_drewN ?_ _ | refine blk_drew ?_ | refine blk_alloc ?_ _)); exact BK194.out⟩, ⟨by repeat (first | (with_reducible first | exact HB.out | apply below_alloc | apply pw_below_drewN | apply below_drew1 | refine below_set ?_ GE194.out) | exact HB.out)⟩⟩
     ·
      rw [if_neg c8] at H
      have c8b0 : decide (a0_2 < (-1099511627776)) = false := decide_eq_false c8
      clear c8
      have H' := Aside0.mk H
      clear H
      have hcz10_0 : w4.cell? ⟨gb194, 0, none⟩ = some (.slice A0_0 l0_0.length c0_0) := (blk_cell BK194.out 0).trans rfl
      have hcz10_1 : w4.cell? ⟨gb194, 1, none⟩ = some (.slice A0_1 l0_1.length c0_1) := (blk_cell BK194.out 1).trans rfl
      have hcz10_2 : w4.cell? ⟨gb194, 2, none⟩ = some (.int .i64 a0_2) := (blk_cell BK194.out 2).trans rfl
      have hfz10_0 := blk_frozen BK194.out 0
      have hfz10_1 := blk_frozen BK194.out 1
      have hfz10_2 := blk_frozen BK194.out 2
      go_wp2
      go_meet
      case rel => exact ⟨_, (decide (a0_2 > 1099511627776)), (by first | rfl | (simp; done) | (simp [*]; done)), H', ⟨by first | omega | exact Nat.le_refl _⟩, ⟨by (with_reducible repeat (first | refine blk_drewN ?_ _ | refine blk_drew ?_ | refine blk_alloc ?_ _)); exact BK194.out⟩, ⟨by repeat (first | (with_reducible first | exact HB.out | apply below_alloc | apply pw_below_drewN | apply below_drew1 | refine below_set ?_ GE194.out) | exact HB.out)⟩⟩
    ·
     rw [if_neg c7] at H
     have c7b0 : ((l0_0.length : Int) == (l0_1.length : Int)) = false := beq_eq_false_iff_ne.mpr c7
     have c7b1 : ((l0_0.length : Int) != (l0_1.length : Int)) = true := bne_iff_ne.mpr c7
     have c7b2 : (l0_0.length == l0_1.length) = false := by first | simpa using c7 | (simp at c7 ⊢; omega)
     have H' := Aside0.mk H
     clear H
     have hcz11_0 : w4.cell? ⟨gb194, 0, none⟩ = some (.slice A0_0 l0_0.length c0_0) := (blk_cell BK194.out 0).trans rfl
     have hcz11_1 : w4.cell? ⟨gb194, 1, none⟩ = some (.slice A0_1 l0_1.length c0_1) := (blk_cell BK194.out 1).trans rfl
     have hcz11_2 : w4.cell? ⟨gb194, 2, none⟩ = some (.int .i64 a0_2) := (blk_cell BK194.out 2).trans rfl
     have hfz11_0 := blk_frozen BK194.out 0
     have hfz11_1 := blk_frozen BK194.out 1
     have hfz11_2 := blk_frozen BK194.out 2
     go_wp2
     go_meet
     case rel => exact ⟨_, (true), (by first | rfl | (simp; done) | (simp [*]; done)), H', ⟨by first | omega | exact Nat.le_refl _⟩, ⟨by (with_reducible repeat (first | refine blk_drewN ?_ _ | refine blk_drew ?_ | refine blk_alloc ?_ _)); exact BK194.out⟩, ⟨by repeat (first | (with_reducible first | exact HB.out | apply below_alloc | apply pw_below_drewN | apply below_drew1 | refine below_set ?_ GE194.out) | exact HB.out)⟩⟩
 case rest =>
  clear HC3
  obtain ⟨kq, x30_2, rfl, HA, HJ2, BK194, HB⟩ := hcut
  cases kq with
  | zero => exact absurd HA.out (by simp [chalklineref12_Check.j0])
  | succ kj2 =>
   have H := HA.out
   clear HA
   simp only [chalklineref12_Check.j0] at H
   by_cases c12 : x30_2 = true
   ·
    subst c12
    have H1 : (some 1) = some r := by rw [if_pos rfl] at H; exact H
    clear H
    have H := H1
    clear H1
    obtain rfl := Option.some.inj H
    go_wp2
    go_ret
    exact ⟨by first | rfl | (simp [errW_none, errW_some] <;> rfl) | (simp [*, errW_none, errW_some] <;> rfl), by repeat (first | (with_reducible first | exact HB.out | apply below_alloc | apply pw_below_drewN | apply below_drew1 | refine below_set ?_ GE194.out) | exact HB.out)⟩
   ·
    replace c12 := Bool.eq_false_iff.mpr c12
    subst c12
    have H1 : (chalklineref12_Check.l0 kj2 a1 0 l0_0 l0_1 a0_2) = some r := by rw [if_neg (show ¬ (false = true) by decide)] at H; exact H
    clear H
    have H := H1
    clear H1
    have H' := Aside0.mk H
    clear H
    go_wp2
    go_loopg [5] kj2 (fun kq v5 w' => ∃ (x5_2 : Int), v5 = .int .i64 x5_2 ∧ Aside0 (chalklineref12_Check.l0 kq a1 x5_2 l0_0 l0_1 a0_2 = some r) ∧ Aside0 (kq ≤ kj2) ∧ Aside0 (w'.heap[gb194]? = some (.cells #[(.slice A0_0 l0_0.length c0_0), (.slice A0_1 l0_1.length c0_1), .int .i64 a0_2] 24 (0, 0))) ∧ Aside0 (Below w.heap.size w w'))
    case atStart => exact ⟨(0), (by first | rfl | (simp; done) | (simp [*]; done)), H', ⟨Nat.le_refl _⟩, ⟨by (with_reducible repeat (first | refine blk_drewN ?_ _ | refine blk_drew ?_ | refine blk_alloc ?_ _)); exact BK194.out⟩, ⟨by repeat (first | (with_reducible first | exact HB.out | apply below_alloc | apply pw_below_drewN | apply below_drew1 | refine below_set ?_ GE194.out) | exact HB.out)⟩⟩
    case round =>
     clear H'
     obtain ⟨x5_2, rfl, HA, HK2, BK194, HB⟩ := hrel
     cases gk with
     | zero => exact absurd HA.out (by simp [chalklineref12_Check.l0])
     | succ k2 =>
      have H := HA.out
      clear HA
      simp only [chalklineref12_Check.l0] at H
      by_cases c13 : x5_2 < (l0_1.length : Int)
      ·
       rw [if_pos c13] at H
       have c13b0 : decide (x5_2 < (l0_1.length : Int)) = true := decide_eq_true c13
       clear c13
       by_cases c14 : 0 ≤ x5_2
       ·
        rw [if_pos c14] at H
        have c14b0 : decide (0 ≤ x5_2) = true := decide_eq_true c14
        clear c14
        by_cases c15 : x5_2 < (l0_0.length : Int)
        ·
         rw [if_pos c15] at H
         have c15b0 : decide (x5_2 < (l0_0.length : Int)) = true := decide_eq_true c15
         clear c15
         by_cases c16 : (rd l0_0 x5_2) < (-1099511627776)
         ·
          rw [if_pos c16] at H
          have c16b0 : decide ((rd l0_0 x5_2) < (-1099511627776)) = true := decide_eq_true c16
          clear c16
          obtain rfl := Option.some.inj H
          have hcz17_0 : wr.cell? ⟨gb194, 0, none⟩ = some (.slice A0_0 l0_0.length c0_0) := (blk_cell BK194.out 0).trans rfl
          have hcz17_1 : wr.cell? ⟨gb194, 1, none⟩ = some (.slice A0_1 l0_1.length c0_1) := (blk_cell BK194.out 1).trans rfl
          have hcz17_2 : wr.cell? ⟨gb194, 2, none⟩ = some (.int .i64 a0_2) := (blk_cell BK194.out 2).trans rfl
          have hfz17_0 := blk_frozen BK194.out 0
          have hfz17_1 := blk_frozen BK194.out 1
          have hfz17_2 := blk_frozen BK194.out 2
          have p195 : 0 ≤ (x5_2 : Int) := of_decide_eq_true (by first | (with_reducible assumption) | assumption)
          have q195 : x5_2 < (l0_0.length : Int) := of_decide_eq_true (by first | (with_reducible assumption) | assumption)
          obtain ⟨ad195, e195, hx195_0⟩ := Kd.at_int HR0_0.out x5_2 p195 q195
          cases e195
          replace hx195_0 := (HB.out.cell (World.block_lt_of_cell? w _ hx195_0)).trans hx195_0
          replace p195 := eq_true p195
          replace q195 := eq_true q195
          go_wp2
          go_ret
          exact ⟨by first | rfl | (simp [errW_none, errW_some] <;> rfl) | (simp [*, errW_none, errW_some] <;> rfl), by repeat (first | (with_reducible first | exact HB.out | apply below_alloc | apply pw_below_drewN | apply below_drew1 | refine below_set ?_ GE194.out) | exact HB.out)⟩
         ·
          rw [if_neg c16] at H
          have c16b0 : decide ((rd l0_0 x5_2) < (-1099511627776)) = false := decide_eq_false c16
          clear c16
          by_cases c18 : (rd l0_0 x5_2) > 1099511627776
          ·
           rw [if_pos c18] at H
           have c18b0 : decide (1099511627776 < (rd l0_0 x5_2)) = true := decide_eq_true c18
           clear c18
           obtain rfl := Option.some.inj H
           have hcz19_0 : wr.cell? ⟨gb194, 0, none⟩ = some (.slice A0_0 l0_0.length c0_0) := (blk_cell BK194.out 0).trans rfl
           have hcz19_1 : wr.cell? ⟨gb194, 1, none⟩ = some (.slice A0_1 l0_1.length c0_1) := (blk_cell BK194.out 1).trans rfl
           have hcz19_2 : wr.cell? ⟨gb194, 2, none⟩ = some (.int .i64 a0_2) := (blk_cell BK194.out 2).trans rfl
           have hfz19_0 := blk_frozen BK194.out 0
           have hfz19_1 := blk_frozen BK194.out 1
           have hfz19_2 := blk_frozen BK194.out 2
           have p195 : 0 ≤ (x5_2 : Int) := of_decide_eq_true (by first | (with_reducible assumption) | assumption)
           have q195 : x5_2 < (l0_0.length : Int) := of_decide_eq_true (by first | (with_reducible assumption) | assumption)
           obtain ⟨ad195, e195, hx195_0⟩ := Kd.at_int HR0_0.out x5_2 p195 q195
           cases e195
           replace hx195_0 := (HB.out.cell (World.block_lt_of_cell? w _ hx195_0)).trans hx195_0
           replace p195 := eq_true p195
           replace q195 := eq_true q195
           have p196 : 0 ≤ (x5_2 : Int) := of_decide_eq_true (by first | (with_reducible assumption) | assumption)
           have q196 : x5_2 < (l0_0.length : Int) := of_decide_eq_true (by first | (with_reducible assumption) | assumption)
           obtain ⟨ad196, e196, hx196_0⟩ := Kd.at_int HR0_0.out x5_2 p196 q196
           obtain rfl : ad195 = ad196 := (by injection e196)
           replace hx196_0 := (HB.out.cell (World.block_lt_of_cell? w _ hx196_0)).trans hx196_0
           replace p196 := eq_true p196
           replace q196 := eq_true q196
           go_wp2
           go_ret
           exact ⟨by first | rfl | (simp [errW_none, errW_some] <;> rfl) | (simp [*, errW_none, errW_some] <;> rfl), by repeat (first | (with_reducible first | exact HB.out | apply below_alloc | apply pw_below_drewN | apply below_drew1 | refine below_set ?_ GE194.out) | exact HB.out)⟩
          ·
           rw [if_neg c18] at H
           have c18b0 : decide (1099511627776 < (rd l0_0 x5_2)) = false := decide_eq_false c18
           clear c18
           by_cases c20 : (rd l0_1 x5_2) = 0
           ·
            rw [if_pos c20] at H
            have c20b0 : ((rd l0_1 x5_2) == 0) = true := beq_iff_eq.mpr c20
            have c20b1 : ((rd l0_1 x5_2) != 0) = false := bne_eq_false_iff_eq.mpr c20
            clear c20
            obtain rfl := Option.some.inj H
            have hcz21_0 : wr.cell? ⟨gb194, 0, none⟩ = some (.slice A0_0 l0_0.length c0_0) := (blk_cell BK194.out 0).trans rfl
            have hcz21_1 : wr.cell? ⟨gb194, 1, none⟩ = some (.slice A0_1 l0_1.length c0_1) := (blk_cell BK194.out 1).trans rfl
            have hcz21_2 : wr.cell? ⟨gb194, 2, none⟩ = some (.int .i64 a0_2) := (blk_cell BK194.out 2).trans rfl
            have hfz21_0 := blk_frozen BK194.out 0
            have hfz21_1 := blk_frozen BK194.out 1
            have hfz21_2 := blk_frozen BK194.out 2
            have p195 : 0 ≤ (x5_2 : Int) := of_decide_eq_true (by first | (with_reducible assumption) | assumption)
            have q195 : x5_2 < (l0_0.length : Int) := of_decide_eq_true (by first | (with_reducible assumption) | assumption)
            obtain ⟨ad195, e195, hx195_0⟩ := Kd.at_int HR0_0.out x5_2 p195 q195
            cases e195
            replace hx195_0 := (HB.out.cell (World.block_lt_of_cell? w _ hx195_0)).trans hx195_0
            replace p195 := eq_true p195
            replace q195 := eq_true q195
            have p196 : 0 ≤ (x5_2 : Int) := of_decide_eq_true (by first | (with_reducible assumption) | assumption)
            have q196 : x5_2 < (l0_0.length : Int) := of_decide_eq_true (by first | (with_reducible assumption) | assumption)
            obtain ⟨ad196, e196, hx196_0⟩ := Kd.at_int HR0_0.out x5_2 p196 q196
            obtain rfl : ad195 = ad196 := (by injection e196)
            replace hx196_0 := (HB.out.cell (World.block_lt_of_cell? w _ hx196_0)).trans hx196_0
            replace p196 := eq_true p196
            replace q196 := eq_true q196
            have p197 : 0 ≤ (x5_2 : Int) := of_decide_eq_true (by first | (with_reducible assumption) | assumption)
            have q197 : x5_2 < (l0_1.length : Int) := of_decide_eq_true (by first | (with_reducible assumption) | assumption)
            obtain ⟨ad197, e197, hx197_0⟩ := Kd.at_int HR0_1.out x5_2 p197 q197
            cases e197
            replace hx197_0 := (HB.out.cell (World.block_lt_of_cell? w _ hx197_0)).trans hx197_0
            replace p197 := eq_true p197
            replace q197 := eq_true q197
            go_wp2
            go_ret
            exact ⟨by first | rfl | (simp [errW_none, errW_some] <;> rfl) | (simp [*, errW_none, errW_some] <;> rfl), by repeat (first | (with_reducible first | exact HB.out | apply below_alloc | apply pw_below_drewN | apply below_drew1 | refine below_set ?_ GE194.out) | exact HB.out)⟩
           ·
            rw [if_neg c20] at H
            have c20b0 : ((rd l0_1 x5_2) == 0) = false := beq_eq_false_iff_ne.mpr c20
            have c20b1 : ((rd l0_1 x5_2) != 0) = true := bne_iff_ne.mpr c20
            by_cases c22 : (rd l0_1 x5_2) < (wrap64 (-a1))
            ·
             rw [if_pos c22] at H
             have c22b0 : decide ((rd l0_1 x5_2) < (wrap64 (-a1))) = true := decide_eq_true c22
             clear c22
             obtain rfl := Option.some.inj H
             have hcz23_0 : wr.cell? ⟨gb194, 0, none⟩ = some (.slice A0_0 l0_0.length c0_0) := (blk_cell BK194.out 0).trans rfl
             have hcz23_1 : wr.cell? ⟨gb194, 1, none⟩ = some (.slice A0_1 l0_1.length c0_1) := (blk_cell BK194.out 1).trans rfl
             have hcz23_2 : wr.cell? ⟨gb194, 2, none⟩ = some (.int .i64 a0_2) := (blk_cell BK194.out 2).trans rfl
             have hfz23_0 := blk_frozen BK194.out 0
             have hfz23_1 := blk_frozen BK194.out 1
             have hfz23_2 := blk_frozen BK194.out 2
             have p195 : 0 ≤ (x5_2 : Int) := of_decide_eq_true (by first | (with_reducible assumption) | assumption)
             have q195 : x5_2 < (l0_0.length : Int) := of_decide_eq_true (by first | (with_reducible assumption) | assumption)
             obtain ⟨ad195, e195, hx195_0⟩ := Kd.at_int HR0_0.out x5_2 p195 q195
             cases e195
             replace hx195_0 := (HB.out.cell (World.block_lt_of_cell? w _ hx195_0)).trans hx195_0
             replace p195 := eq_true p195
             replace q195 := eq_true q195
             have p196 : 0 ≤ (x5_2 : Int) := of_decide_eq_true (by first | (with_reducible assumption) | assumption)
             have q196 : x5_2 < (l0_0.length : Int) := of_decide_eq_true (by first | (with_reducible assumption) | assumption)
             obtain ⟨ad196, e196, hx196_0⟩ := Kd.at_int HR0_0.out x5_2 p196 q196
             obtain rfl : ad195 = ad196 := (by injection e196)
             replace hx196_0 := (HB.out.cell (World.block_lt_of_cell? w _ hx196_0)).trans hx196_0
             replace p196 := eq_true p196
             replace q196 := eq_true q196
             have p197 : 0 ≤ (x5_2 : Int) := of_decide_eq_true (by first | (with_reducible assumption) | assumption)
             have q197 : x5_2 < (l0_1.length : Int) := of_decide_eq_true (by first | (with_reducible assumption) | assumption)
             obtain ⟨ad197, e197, hx197_0⟩ := Kd.at_int HR0_1.out x5_2 p197 q197
             cases e197
             replace hx197_0 := (HB.out.cell (World.block_lt_of_cell? w _ hx197_0)).trans hx197_0
             replace p197 := eq_true p197
             replace q197 := eq_true q197
             have p198 : 0 ≤ (x5_2 : Int) := of_decide_eq_true (by first | (with_reducible assumption) | assumption)
             have q198 : x5_2 < (l0_1.length : Int) := of_decide_eq_true (by first | (with_reducible assumption) | assumption)
             obtain ⟨ad198, e198, hx198_0⟩ := Kd.at_int HR0_1.out x5_2 p198 q198
             obtain rfl : ad197 = ad198 := (by injection e198)
             replace hx198_0 := (HB.out.cell (World.block_lt_of_cell? w _ hx198_0)).trans hx198_0
             replace p198 := eq_true p198
             replace q198 := eq_true q198
             go_wp2
             go_ret
             exact ⟨by first | rfl | (simp [errW_none, errW_some] <;> rfl) | (simp [*, errW_none, errW_some] <;> rfl), by repeat (first | (with_reducible first | exact HB.out | apply below_alloc | apply pw_below_drewN | apply below_drew1 | refine below_set ?_ GE194.out) | exact HB.out)⟩
            ·
             rw [if_neg c22] at H
             have c22b0 : decide ((rd l0_1 x5_2) < (wrap64 (-a1))) = false := decide_eq_false c22
             clear c22
             by_cases c24 : (rd l0_1 x5_2) > a1
             ·
              rw [if_pos c24] at H
              have c24b0 : decide (a1 < (rd l0_1 x5_2)) = true := decide_eq_true c24
              clear c24
              obtain rfl := Option.some.inj H
              have hcz25_0 : wr.cell? ⟨gb194, 0, none⟩ = some (.slice A0_0 l0_0.length c0_0) := (blk_cell BK194.out 0).trans rfl
              have hcz25_1 : wr.cell? ⟨gb194, 1, none⟩ = some (.slice A0_1 l0_1.length c0_1) := (blk_cell BK194.out 1).trans rfl
              have hcz25_2 : wr.cell? ⟨gb194, 2, none⟩ = some (.int .i64 a0_2) := (blk_cell BK194.out 2).trans rfl
              have hfz25_0 := blk_frozen BK194.out 0
              have hfz25_1 := blk_frozen BK194.out 1
              have hfz25_2 := blk_frozen BK194.out 2
              have p195 : 0 ≤ (x5_2 : Int) := of_decide_eq_true (by first | (with_reducible assumption) | assumption)
              have q195 : x5_2 < (l0_0.length : Int) := of_decide_eq_true (by first | (with_reducible assumption) | assumption)
              obtain ⟨ad195, e195, hx195_0⟩ := Kd.at_int HR0_0.out x5_2 p195 q195
              cases e195
              replace hx195_0 := (HB.out.cell (World.block_lt_of_cell? w _ hx195_0)).trans hx195_0
              replace p195 := eq_true p195
              replace q195 := eq_true q195
              have p196 : 0 ≤ (x5_2 : Int) := of_decide_eq_true (by first | (with_reducible assumption) | assumption)
              have q196 : x5_2 < (l0_0.length : Int) := of_decide_eq_true (by first | (with_reducible assumption) | assumption)
              obtain ⟨ad196, e196, hx196_0⟩ := Kd.at_int HR0_0.out x5_2 p196 q196
              obtain rfl : ad195 = ad196 := (by injection e196)
              replace hx196_0 := (HB.out.cell (World.block_lt_of_cell? w _ hx196_0)).trans hx196_0
              replace p196 := eq_true p196
              replace q196 := eq_true q196
              have p197 : 0 ≤ (x5_2 : Int) := of_decide_eq_true (by first | (with_reducible assumption) | assumption)
              have q197 : x5_2 < (l0_1.length : Int) := of_decide_eq_true (by first | (with_reducible assumption) | assumption)
              obtain ⟨ad197, e197, hx197_0⟩ := Kd.at_int HR0_1.out x5_2 p197 q197
              cases e197
              replace hx197_0 := (HB.out.cell (World.block_lt_of_cell? w _ hx197_0)).trans hx197_0
              replace p197 := eq_true p197
              replace q197 := eq_true q197
              have p198 : 0 ≤ (x5_2 : Int) := of_decide_eq_true (by first | (with_reducible assumption) | assumption)
              have q198 : x5_2 < (l0_1.length : Int) := of_decide_eq_true (by first | (with_reducible assumption) | assumption)
              obtain ⟨ad198, e198, hx198_0⟩ := Kd.at_int HR0_1.out x5_2 p198 q198
              obtain rfl : ad197 = ad198 := (by injection e198)
              replace hx198_0 := (HB.out.cell (World.block_lt_of_cell? w _ hx198_0)).trans hx198_0
              replace p198 := eq_true p198
              replace q198 := eq_true q198
              have p199 : 0 ≤ (x5_2 : Int) := of_decide_eq_true (by first | (with_reducible assumption) | assumption)
              have q199 : x5_2 < (l0_1.length : Int) := of_decide_eq_true (by first | (with_reducible assumption) | assumption)
              obtain ⟨ad199, e199, hx199_0⟩ := Kd.at_int HR0_1.out x5_2 p199 q199
              obtain rfl : ad197 = ad199 := (by injection e199)
              replace hx199_0 := (HB.out.cell (World.block_lt_of_cell? w _ hx199_0)).trans hx199_0
              replace p199 := eq_true p199
              replace q199 := eq_true q199
              go_wp2
              go_ret
              exact ⟨by first | rfl | (simp [errW_none, errW_some] <;> rfl) | (simp [*, errW_none, errW_some] <;> rfl), by repeat (first | (with_reducible first | exact HB.out | apply below_alloc | apply pw_below_drewN | apply below_drew1 | refine below_set ?_ GE194.out) | exact HB.out)⟩
             ·
              rw [if_neg c24] at H
              have c24b0 : decide (a1 < (rd l0_1 x5_2)) = false := decide_eq_false c24
              clear c24
              have H' := Aside0.mk H
              clear H
              have hcz26_0 : wr.cell? ⟨gb194, 0, none⟩ = some (.slice A0_0 l0_0.length c0_0) := (blk_cell BK194.out 0).trans rfl
              have hcz26_1 : wr.cell? ⟨gb194, 1, none⟩ = some (.slice A0_1 l0_1.length c0_1) := (blk_cell BK194.out 1).trans rfl
              have hcz26_2 : wr.cell? ⟨gb194, 2, none⟩ = some (.int .i64 a0_2) := (blk_cell BK194.out 2).trans rfl
              have hfz26_0 := blk_frozen BK194.out 0
              have hfz26_1 := blk_frozen BK194.out 1
              have hfz26_2 := blk_frozen BK194.out 2
              have p195 : 0 ≤ (x5_2 : Int) := of_decide_eq_true (by first | (with_reducible assumption) | assumption)
              have q195 : x5_2 < (l0_0.length : Int) := of_decide_eq_true (by first | (with_reducible assumption) | assumption)
              obtain ⟨ad195, e195, hx195_0⟩ := Kd.at_int HR0_0.out x5_2 p195 q195
              cases e195
              replace hx195_0 := (HB.out.cell (World.block_lt_of_cell? w _ hx195_0)).trans hx195_0
              replace p195 := eq_true p195
              replace q195 := eq_true q195
              have p196 : 0 ≤ (x5_2 : Int) := of_decide_eq_true (by first | (with_reducible assumption) | assumption)
              have q196 : x5_2 < (l0_0.length : Int) := of_decide_eq_true (by first | (with_reducible assumption) | assumption)
              obtain ⟨ad196, e196, hx196_0⟩ := Kd.at_int HR0_0.out x5_2 p196 q196
              obtain rfl : ad195 = ad196 := (by injection e196)
              replace hx196_0 := (HB.out.cell (World.block_lt_of_cell? w _ hx196_0)).trans hx196_0
              replace p196 := eq_true p196
              replace q196 := eq_true q196
              have p197 : 0 ≤ (x5_2 : Int) := of_decide_eq_true (by first | (with_reducible assumption) | assumption)
              have q197 : x5_2 < (l0_1.length : Int) := of_decide_eq_true (by first | (with_reducible assumption) | assumption)
              obtain ⟨ad197, e197, hx197_0⟩ := Kd.at_int HR0_1.out x5_2 p197 q197
              cases e197
              replace hx197_0 := (HB.out.cell (World.block_lt_of_cell? w _ hx197_0)).trans hx197_0
              replace p197 := eq_true p197
              replace q197 := eq_true q197
              have p198 : 0 ≤ (x5_2 : Int) := of_decide_eq_true (by first | (with_reducible assumption) | assumption)
              have q198 : x5_2 < (l0_1.length : Int) := of_decide_eq_true (by first | (with_reducible assumption) | assumption)
              obtain ⟨ad198, e198, hx198_0⟩ := Kd.at_int HR0_1.out x5_2 p198 q198
              obtain rfl : ad197 = ad198 := (by injection e198)
              replace hx198_0 := (HB.out.cell (World.block_lt_of_cell? w _ hx198_0)).trans hx198_0
              replace p198 := eq_true p198
              replace q198 := eq_true q198
              have p199 : 0 ≤ (x5_2 : Int) := of_decide_eq_true (by first | (with_reducible assumption) | assumption)
              have q199 : x5_2 < (l0_1.length : Int) := of_decide_eq_true (by first | (with_reducible assumption) | assumption)
              obtain ⟨ad199, e199, hx199_0⟩ := Kd.at_int HR0_1.out x5_2 p199 q199
              obtain rfl : ad197 = ad199 := (by injection e199)
              replace hx199_0 := (HB.out.cell (World.block_lt_of_cell? w _ hx199_0)).trans hx199_0
              replace p199 := eq_true p199
              replace q199 := eq_true q199
              go_wp2
              go_roundg k2
              case measure => have := HJ2.out; have := HK2.out; omega
              case rel => exact ⟨(wrap64 (x5_2 + 1)), (by first | rfl | (simp; done) | (simp [*]; done)), H', ⟨by have := HJ2.out; have := HK2.out; omega⟩, ⟨by (with_reducible repeat (first | refine blk_drewN ?_ _ | refine blk_drew ?_ | refine blk_alloc ?_ _)); exact BK194.out⟩, ⟨by repeat (first | (with_reducible first | exact HB.out | apply below_alloc | apply pw_below_drewN | apply below_drew1 | refine below_set ?_ GE194.out) | exact HB.out)⟩⟩
        ·
         rw [if_neg c15] at H
         exact absurd H (by simp)
       ·
        rw [if_neg c14] at H
        exact absurd H (by simp)
      ·
       rw [if_neg c13] at H
       have c13b0 : decide (x5_2 < (l0_1.length : Int)) = false := decide_eq_false c13
       clear c13
       by_cases c27 : (l0_1.length : Int) > 4096
       ·
        rw [if_pos c27] at H
        have c27b0 : decide (4096 < (l0_1.length : Int)) = true := decide_eq_true c27
        have c27b1 : decide (4096 < l0_1.length) = true := decide_eq_true (by omega)
        clear c27
        obtain rfl := Option.some.inj H
        have hcz28_0 : wr.cell? ⟨gb194, 0, none⟩ = some (.slice A0_0 l0_0.length c0_0) := (blk_cell BK194.out 0).trans rfl
        have hcz28_1 : wr.cell? ⟨gb194, 1, none⟩ = some (.slice A0_1 l0_1.length c0_1) := (blk_cell BK194.out 1).trans rfl
        have hcz28_2 : wr.cell? ⟨gb194, 2, none⟩ = some (.int .i64 a0_2) := (blk_cell BK194.out 2).trans rfl
        have hfz28_0 := blk_frozen BK194.out 0
        have hfz28_1 := blk_frozen BK194.out 1
        have hfz28_2 := blk_frozen BK194.out 2
        go_wp2
        go_ret
        exact ⟨by first | rfl | (simp [errW_none, errW_some] <;> rfl) | (simp [*, errW_none, errW_some] <;> rfl), by repeat (first | (with_reducible first | exact HB.out | apply below_alloc | apply pw_below_drewN | apply below_drew1 | refine below_set ?_ GE194.out) | exact HB.out)⟩
       ·
        rw [if_neg c27] at H
        have c27b0 : decide (4096 < (l0_1.length : Int)) = false := decide_eq_false c27
        have c27b1 : decide (4096 < l0_1.length) = false := decide_eq_false (by omega)
        clear c27
        obtain rfl := Option.some.inj H
        have hcz29_0 : wr.cell? ⟨gb194, 0, none⟩ = some (.slice A0_0 l0_0.length c0_0) := (blk_cell BK194.out 0).trans rfl
        have hcz29_1 : wr.cell? ⟨gb194, 1, none⟩ = some (.slice A0_1 l0_1.length c0_1) := (blk_cell BK194.out 1).trans rfl
        have hcz29_2 : wr.cell? ⟨gb194, 2, none⟩ = some (.int .i64 a0_2) := (blk_cell BK194.out 2).trans rfl
        have hfz29_0 := blk_frozen BK194.out 0
        have hfz29_1 := blk_frozen BK194.out 1
        have hfz29_2 := blk_frozen BK194.out 2
        go_wp2
        go_ret
        exact ⟨by first | rfl | (simp [errW_none, errW_some] <;> rfl) | (simp [*, errW_none, errW_some] <;> rfl), by repeat (first | (with_reducible first | exact HB.out | apply below_alloc | apply pw_below_drewN | apply below_drew1 | refine below_set ?_ GE194.out) | exact HB.out)⟩

/-! ### chalklineref12_Of: function 66 -/
def chalklineref12_Of.f (a0 : Int) : Option (Int) := if a0 < 0 then (some (wrap64 (-a0))) else (some a0)
set_option maxHeartbeats 8000000 in
set_option maxRecDepth 100000 in
theorem chalklineref12_Of.calls (a0 : Int) (r : Int) (w : World) (h : chalklineref12_Of.f a0 = some r) :
  Calls Try.prog 66 #[.int .i64 a0] w fun e w' => e = .returned (.int .i64 r) ∧ Drawn0 w w' := by
 have H : (if a0 < 0 then (some (wrap64 (-a0))) else (some a0)) = some r := h
 clear h
 by_cases c2 : a0 < 0
 ·
  rw [if_pos c2] at H
  have c2b0 : decide (a0 < 0) = true := decide_eq_true c2
  clear c2
  obtain rfl := Option.some.inj H
  go_enter Try.func66, Try.ntmps66
  go_wp2
  go_ret
  exact ⟨by first | rfl | (simp; done) | (simp [*]; done), by repeat (first | exact Drawn0.refl _ | apply Drawn0.step)⟩
 ·
  rw [if_neg c2] at H
  have c2b0 : decide (a0 < 0) = false := decide_eq_false c2
  clear c2
  obtain rfl := Option.some.inj H
  go_enter Try.func66, Try.ntmps66
  go_wp2
  go_ret
  exact ⟨by first | rfl | (simp; done) | (simp [*]; done), by repeat (first | exact Drawn0.refl _ | apply Drawn0.step)⟩

end Go.Proofs.Ytmcljhjmmipagaa.PL
