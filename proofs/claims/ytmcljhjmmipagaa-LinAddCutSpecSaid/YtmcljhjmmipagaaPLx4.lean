/- Lean functions that tell what the Go functions named below answer, and a proof for each that the Go function comes to just that answer; the conditions stand in each statement. -/
import Derived.Test.YtmcljhjmmipagaaPLx0
import Derived.Test.YtmcljhjmmipagaaPLx3
namespace Go.Proofs.Ytmcljhjmmipagaa.PL
open Go.RowKit Go.Proofs.YtmcljhjmmipagaaW.PrintWords Go.Proofs.YtmcljhjmmipagaaW.PrintLast Go.Proofs.YtmcljhjmmipagaaW.PrintMore
attribute [local go_sem] max2_int min2_int max_two min_two max_three min_three max_four min_four   -- for this text's walks alone
set_option linter.unusedVariables false
set_option linter.unusedSimpArgs false

/-! ### chalklineref12_vars: function 56 -/
mutual
def chalklineref12_vars.l0 : Nat → List Int → Int → List Int → List Int → Int → Option (List Int)
 | 0, _, _, _, _, _ => none
 | k + 1, x3, x4, x201000, x201001, x201002 => if x4 < (x201001.length : Int) then (if 0 ≤ x4 then ((chalklineref12_Of.f (rd x201001 x4)).bind fun t202 => (chalklineref12_vars.l1 k x3 x4 t202 0 x201000 x201001 x201002)) else (none)) else (some x3)
def chalklineref12_vars.l1 : Nat → List Int → Int → Int → Int → List Int → List Int → Int → Option (List Int)
 | 0, _, _, _, _, _, _, _ => none
 | k + 1, x3, x4, x5, x6, x201000, x201001, x201002 => if x6 < (x3.length : Int) then (if 0 ≤ x6 then (if (rd x3 x6) < x5 then (chalklineref12_vars.l1 k x3 x4 x5 (wrap64 (x6 + 1)) x201000 x201001 x201002) else (if (rd x3 x6) = x5 then (chalklineref12_vars.l0 k x3 (wrap64 (x4 + 1)) x201000 x201001 x201002) else (if x6 ≤ (x3.length : Int) then ((some (x3.take (x6 : Int).toNat : List Int)).bind fun y205 => (if ([] : List Int).length + y205.length < 17592186044416 then ((some (([] : List Int) ++ y205 : List Int)).bind fun y209 => (if y209.length < 17592186044416 then ((some (y209 ++ [x5] : List Int)).bind fun y212 => ((some (x3.drop (x6 : Int).toNat : List Int)).bind fun y215 => (if y212.length + y215.length < 17592186044416 then (chalklineref12_vars.l0 k (y212 ++ y215) (wrap64 (x4 + 1)) x201000 x201001 x201002) else (none)))) else (none))) else (none))) else (none)))) else (none)) else (if 0 ≤ x6 then (if x6 ≤ (x3.length : Int) then ((some (x3.take (x6 : Int).toNat : List Int)).bind fun y222 => (if ([] : List Int).length + y222.length < 17592186044416 then ((some (([] : List Int) ++ y222 : List Int)).bind fun y226 => (if y226.length < 17592186044416 then ((some (y226 ++ [x5] : List Int)).bind fun y229 => ((some (x3.drop (x6 : Int).toNat : List Int)).bind fun y232 => (if y229.length + y232.length < 17592186044416 then (chalklineref12_vars.l0 k (y229 ++ y232) (wrap64 (x4 + 1)) x201000 x201001 x201002) else (none)))) else (none))) else (none))) else (none)) else (none))
end
def chalklineref12_vars.f (k : Nat) (l0_0 : List Int) (l0_1 : List Int) (a0_2 : Int) : Option (List Int) := chalklineref12_vars.l0 k ([] : List Int) 0 l0_0 l0_1 a0_2
set_option maxHeartbeats 8000000 in
set_option maxRecDepth 100000 in
theorem chalklineref12_vars.calls (k : Nat) (A0_0 : Option Addr) (c0_0 : Nat) (l0_0 : List Int) (A0_1 : Option Addr) (c0_1 : Nat) (l0_1 : List Int) (a0_2 : Int) (r : List Int) (w : World) (hr0_0 : Kd.C (Kd.int .i64) w A0_0 l0_0.length l0_0) (hc0_0 : l0_0.length ≤ c0_0) (hr0_1 : Kd.C (Kd.int .i64) w A0_1 l0_1.length l0_1) (hc0_1 : l0_1.length ≤ c0_1) (h : chalklineref12_vars.f k l0_0 l0_1 a0_2 = some r) :
  Calls Try.prog 56 #[.agg #[.slice A0_0 l0_0.length c0_0, .slice A0_1 l0_1.length c0_1, .int .i64 a0_2]] w fun e w' => ∃ v0_ : Value, e = .returned (v0_) ∧ Kd.R (Kd.int .i64) 3 w' w.heap.size (fun _ => True) v0_ r ∧ Below w.heap.size w w' := by
 have hu24 := Try.underlying24
 have HR0_0 := Aside0.mk hr0_0
 have HC0_0 := Aside0.mk hc0_0
 clear hr0_0 hc0_0
 have HR0_1 := Aside0.mk hr0_1
 have HC0_1 := Aside0.mk hc0_1
 clear hr0_1 hc0_1
 have HB := Aside0.mk (Below.refl w.heap.size w)
 have H : (chalklineref12_vars.l0 k ([] : List Int) 0 l0_0 l0_1 a0_2) = some r := h
 clear h
 have H' := Aside0.mk H
 clear H
 go_enter Try.func56, Try.ntmps56
 go_wp2_with (first | ((with_reducible refine gate_dst (N := 1) rfl ?_); refine box_event ?hg (N := 1) ?hd (cs := #[.slice A0_0 l0_0.length c0_0, .slice A0_1 l0_1.length c0_1, .int .i64 a0_2]) (t := 24) ?hr ?_; (case hd => rfl); (case hg => rfl); (case hr => first | (go_simp; done) | (go_simp; rfl)); intro gb200 hg w2 hbox hb; have n0_ := Aside0.mk (below_step (by repeat (first | (with_reducible first | exact HB.out | apply below_alloc | apply pw_below_drewN | apply below_drew1) | exact HB.out)) hb); have n1_ := Aside0.mk (hbox); have n2_ := Aside0.mk ((by rw [hg]; exact (below_size (by repeat (first | (with_reducible first | exact HB.out | apply below_alloc | apply pw_below_drewN | apply below_drew1) | exact HB.out))) : w.heap.size ≤ gb200)); have n3_ := Aside0.mk ((by rw [hg]; exact (below_size (by repeat (first | (with_reducible first | exact HB.out | apply below_alloc | apply pw_below_drewN | apply below_drew1) | exact HB.out))) : w.heap.size ≤ gb200)); clear HB; have HB := n0_; have BK200 := n1_; have GW200 := n2_; have GE200 := n3_; clear n0_ n1_ n2_ n3_; clear hb hbox hg))
 go_loopg [3, 4] k (fun kq v3 v4 w' => ∃ (x3_1 : List Int) (x4_1 : Int), v4 = .int .i64 x4_1 ∧ Aside0 (chalklineref12_vars.l0 kq x3_1 x4_1 l0_0 l0_1 a0_2 = some r) ∧ Aside0 (kq ≤ k) ∧ Aside0 (Kd.R (Kd.int .i64) 3 w' w.heap.size (fun _ => True) v3 x3_1) ∧ Aside0 (w'.heap[gb200]? = some (.cells #[(.slice A0_0 l0_0.length c0_0), (.slice A0_1 l0_1.length c0_1), .int .i64 a0_2] 24 (0, 0))) ∧ Aside0 (Below w.heap.size w w'))
 case atStart => exact ⟨(([] : List Int)), (0), (by first | rfl | (simp; done) | (simp [*]; done)), H', ⟨Nat.le_refl _⟩, ⟨by first | exact Kd.R_nil _ _ _ _ _ | exact Kd.N_nil _ _ _ _ _ | exact Kd.V_nil _ _ _ _ _ | exact Kd.Q_nil _ _ _ _ _ | exact Kd.S_nil _ _ _ _ _⟩, ⟨by (with_reducible repeat (first | refine blk_drewN ?_ _ | refine blk_drew ?_ | refine blk_alloc ?_ _)); exact BK200.out⟩, ⟨by repeat (first | (with_reducible first | exact HB.out | apply below_alloc | apply pw_below_drewN | apply below_drew1 | refine below_set ?_ GE200.out) | exact HB.out)⟩⟩
 case round =>
  clear H'
  obtain ⟨x3_1, x4_1, rfl, HA, HK1, HO_3, BK200, HB⟩ := hrel
  cases gk with
  | zero => exact absurd HA.out (by simp [chalklineref12_vars.l0])
  | succ k1 =>
   have H := HA.out
   clear HA
   simp only [chalklineref12_vars.l0] at H
   by_cases c3 : x4_1 < (l0_1.length : Int)
   ·
    rw [if_pos c3] at H
    have c3b0 : decide (x4_1 < (l0_1.length : Int)) = true := decide_eq_true c3
    clear c3
    by_cases c4 : 0 ≤ x4_1
    ·
     rw [if_pos c4] at H
     have c4b0 : decide (0 ≤ x4_1) = true := decide_eq_true c4
     clear c4
     replace H := Option.bind_eq_some_iff.mp H
     obtain ⟨t202, A50, H⟩ := H
     replace H : (chalklineref12_vars.l1 k1 x3_1 x4_1 t202 0 l0_0 l0_1 a0_2) = some r := H
     have A5 := Aside0.mk A50
     clear A50
     have H' := Aside0.mk H
     clear H
     have hcz6_0 : wr.cell? ⟨gb200, 0, none⟩ = some (.slice A0_0 l0_0.length c0_0) := (blk_cell BK200.out 0).trans rfl
     have hcz6_1 : wr.cell? ⟨gb200, 1, none⟩ = some (.slice A0_1 l0_1.length c0_1) := (blk_cell BK200.out 1).trans rfl
     have hcz6_2 : wr.cell? ⟨gb200, 2, none⟩ = some (.int .i64 a0_2) := (blk_cell BK200.out 2).trans rfl
     have hfz6_0 := blk_frozen BK200.out 0
     have hfz6_1 := blk_frozen BK200.out 1
     have hfz6_2 := blk_frozen BK200.out 2
     have p201 : 0 ≤ (x4_1 : Int) := of_decide_eq_true (by first | (with_reducible assumption) | assumption)
     have q201 : x4_1 < (l0_1.length : Int) := of_decide_eq_true (by first | (with_reducible assumption) | assumption)
     obtain ⟨ad201, e201, hx201_0⟩ := Kd.at_int HR0_1.out x4_1 p201 q201
     cases e201
     replace hx201_0 := (HB.out.cell (World.block_lt_of_cell? w _ hx201_0)).trans hx201_0
     replace p201 := eq_true p201
     replace q201 := eq_true q201
     go_wp2_with (first | ((with_reducible refine gate_callee (f := 66) rfl ?_); refine goesL_ (some 20) rfl rfl Try.func66 (by kernel_rfl) rfl #[.int .i64 (rd l0_1 x4_1)] rfl (by (try simp only [List.map_toArray, List.map_cons, List.map_nil]); first | done | rfl | (simp only [List.length_drop, List.length_take]; rfl)) ?_; (with_reducible refine (chalklineref12_Of.calls (rd l0_1 x4_1) t202 _ A5.out).mono ?_); rintro e w' ⟨rfl, ⟨nd, rfl⟩⟩; refine ⟨_, rfl, ?_⟩))
     go_loopg [6] k1 (fun kq v6 w' => ∃ (x6_2 : Int), v6 = .int .i64 x6_2 ∧ Aside0 (chalklineref12_vars.l1 kq x3_1 x4_1 t202 x6_2 l0_0 l0_1 a0_2 = some r) ∧ Aside0 (kq ≤ k1) ∧ Aside0 (Kd.R (Kd.int .i64) 3 w' w.heap.size (fun _ => True) u3 x3_1) ∧ Aside0 (w'.heap[gb200]? = some (.cells #[(.slice A0_0 l0_0.length c0_0), (.slice (some ad201) l0_1.length c0_1), .int .i64 a0_2] 24 (0, 0))) ∧ Aside0 (Below w.heap.size w w'))
     case atStart => exact ⟨(0), (by first | rfl | (simp; done) | (simp [*]; done)), H', ⟨Nat.le_refl _⟩, ⟨by (with_reducible repeat (first | apply Kd.R_alloc | apply Kd.R_drewN | apply Kd.R_drew)); exact HO_3.out⟩, ⟨by (with_reducible repeat (first | refine blk_drewN ?_ _ | refine blk_drew ?_ | refine blk_alloc ?_ _)); exact BK200.out⟩, ⟨by repeat (first | (with_reducible first | exact HB.out | apply below_alloc | apply pw_below_drewN | apply below_drew1 | refine below_set ?_ GE200.out) | exact HB.out)⟩⟩
     case round =>
      clear H'
      obtain ⟨x6_2, rfl, HA, HK2, HO_3, BK200, HB⟩ := hrel
      cases gk with
      | zero => exact absurd HA.out (by simp [chalklineref12_vars.l1])
      | succ k2 =>
       have H := HA.out
       clear HA
       simp only [chalklineref12_vars.l1] at H
       by_cases c7 : x6_2 < (x3_1.length : Int)
       ·
        rw [if_pos c7] at H
        have c7b0 : decide (x6_2 < (x3_1.length : Int)) = true := decide_eq_true c7
        clear c7
        by_cases c8 : 0 ≤ x6_2
        ·
         rw [if_pos c8] at H
         have c8b0 : decide (0 ≤ x6_2) = true := decide_eq_true c8
         clear c8
         by_cases c9 : (rd x3_1 x6_2) < t202
         ·
          rw [if_pos c9] at H
          have c9b0 : decide ((rd x3_1 x6_2) < t202) = true := decide_eq_true c9
          clear c9
          have H' := Aside0.mk H
          clear H
          obtain ⟨Ao10, co10, eo10⟩ := Kd.R_slice HO_3.out
          subst eo10
          have p203 : 0 ≤ (x6_2 : Int) := of_decide_eq_true (by first | (with_reducible assumption) | assumption)
          have q203 : x6_2 < (x3_1.length : Int) := of_decide_eq_true (by first | (with_reducible assumption) | assumption)
          obtain ⟨ad203, e203, hx203_0⟩ := Kd.at_int (Kd.R_reads' HO_3.out).2.2 x6_2 p203 q203
          cases e203
          replace p203 := eq_true p203
          replace q203 := eq_true q203
          go_wp2
          go_roundg k2
          case measure => have := HK1.out; have := HK2.out; omega
          case rel => exact ⟨(wrap64 (x6_2 + 1)), (by first | rfl | (simp; done) | (simp [*]; done)), H', ⟨by have := HK1.out; have := HK2.out; omega⟩, ⟨by (with_reducible repeat (first | apply Kd.R_alloc | apply Kd.R_drewN | apply Kd.R_drew)); exact HO_3.out⟩, ⟨by (with_reducible repeat (first | refine blk_drewN ?_ _ | refine blk_drew ?_ | refine blk_alloc ?_ _)); exact BK200.out⟩, ⟨by repeat (first | (with_reducible first | exact HB.out | apply below_alloc | apply pw_below_drewN | apply below_drew1 | refine below_set ?_ GE200.out) | exact HB.out)⟩⟩
         ·
          rw [if_neg c9] at H
          have c9b0 : decide ((rd x3_1 x6_2) < t202) = false := decide_eq_false c9
          clear c9
          by_cases c11 : (rd x3_1 x6_2) = t202
          ·
           rw [if_pos c11] at H
           have c11b0 : ((rd x3_1 x6_2) == t202) = true := beq_iff_eq.mpr c11
           have c11b1 : ((rd x3_1 x6_2) != t202) = false := bne_eq_false_iff_eq.mpr c11
           clear c11
           have H' := Aside0.mk H
           clear H
           obtain ⟨Ao12, co12, eo12⟩ := Kd.R_slice HO_3.out
           subst eo12
           have p203 : 0 ≤ (x6_2 : Int) := of_decide_eq_true (by first | (with_reducible assumption) | assumption)
           have q203 : x6_2 < (x3_1.length : Int) := of_decide_eq_true (by first | (with_reducible assumption) | assumption)
           obtain ⟨ad203, e203, hx203_0⟩ := Kd.at_int (Kd.R_reads' HO_3.out).2.2 x6_2 p203 q203
           cases e203
           replace p203 := eq_true p203
           replace q203 := eq_true q203
           have p204 : 0 ≤ (x6_2 : Int) := of_decide_eq_true (by first | (with_reducible assumption) | assumption)
           have q204 : x6_2 < (x3_1.length : Int) := of_decide_eq_true (by first | (with_reducible assumption) | assumption)
           obtain ⟨ad204, e204, hx204_0⟩ := Kd.at_int (Kd.R_reads' HO_3.out).2.2 x6_2 p204 q204
           obtain rfl : ad203 = ad204 := (by injection e204)
           replace p204 := eq_true p204
           replace q204 := eq_true q204
           go_wp2
           go_roundg k2
           case measure => have := HK1.out; have := HK2.out; omega
           case rel => exact ⟨(x3_1), (wrap64 (x4_1 + 1)), (by first | rfl | (simp; done) | (simp [*]; done)), H', ⟨by have := HK1.out; have := HK2.out; omega⟩, ⟨by (with_reducible repeat (first | apply Kd.R_alloc | apply Kd.R_drewN | apply Kd.R_drew)); exact HO_3.out⟩, ⟨by (with_reducible repeat (first | refine blk_drewN ?_ _ | refine blk_drew ?_ | refine blk_alloc ?_ _)); exact BK200.out⟩, ⟨by repeat (first | (with_reducible first | exact HB.out | apply below_alloc | apply pw_below_drewN | apply below_drew1 | refine below_set ?_ GE200.out) | exact HB.out)⟩⟩
          ·
           rw [if_neg c11] at H
           have c11b0 : ((rd x3_1 x6_2) == t202) = false := beq_eq_false_iff_ne.mpr c11
           have c11b1 : ((rd x3_1 x6_2) != t202) = true := bne_iff_ne.mpr c11
           have c13b0 := eq_true (of_decide_eq_true (by first | (with_reducible assumption) | assumption) : 0 ≤ x6_2)
           by_cases c14 : x6_2 ≤ (x3_1.length : Int)
           ·
            rw [if_pos c14] at H
            have c14b0 := eq_true c14
            have c14b1 : decide (x6_2 ≤ (x3_1.length : Int)) = true := decide_eq_true c14
            clear c14
            obtain ⟨y205, hy205⟩ : ∃ y_ : List Int, y_ = (x3_1.take (x6_2 : Int).toNat) := ⟨_, rfl⟩
            replace H : (if ([] : List Int).length + y205.length < 17592186044416 then ((some (([] : List Int) ++ y205 : List Int)).bind fun y209 => (if y209.length < 17592186044416 then ((some (y209 ++ [t202] : List Int)).bind fun y212 => ((some (x3_1.drop (x6_2 : Int).toNat : List Int)).bind fun y215 => (if y212.length + y215.length < 17592186044416 then (chalklineref12_vars.l0 k2 (y212 ++ y215) (wrap64 (x4_1 + 1)) l0_0 l0_1 a0_2) else (none)))) else (none))) else (none)) = some r := by first | (rw [hy205]; with_reducible exact H) | (have H2_ := (Option.bind_some _ _).symm.trans H; rw [hy205]; with_reducible exact H2_) | (have H2_ := (Option.bind_some _ _).symm.trans H; with_reducible exact H2_) | with_reducible exact H | (rw [hy205]; exact H) | exact H
            have Ny205 := Aside0.mk hy205
            clear hy205
            by_cases c15 : ([] : List Int).length + y205.length < 17592186044416
            ·
             rw [if_pos c15] at H
             have LMc15 := Aside0.mk c15
             clear c15
             obtain ⟨y209, hy209⟩ : ∃ y_ : List Int, y_ = (([] : List Int) ++ y205) := ⟨_, rfl⟩
             replace H : (if y209.length < 17592186044416 then ((some (y209 ++ [t202] : List Int)).bind fun y212 => ((some (x3_1.drop (x6_2 : Int).toNat : List Int)).bind fun y215 => (if y212.length + y215.length < 17592186044416 then (chalklineref12_vars.l0 k2 (y212 ++ y215) (wrap64 (x4_1 + 1)) l0_0 l0_1 a0_2) else (none)))) else (none)) = some r := by first | (rw [hy209]; with_reducible exact H) | (have H2_ := (Option.bind_some _ _).symm.trans H; rw [hy209]; with_reducible exact H2_) | (have H2_ := (Option.bind_some _ _).symm.trans H; with_reducible exact H2_) | with_reducible exact H | (rw [hy209]; exact H) | exact H
             have Ny209 := Aside0.mk hy209
             clear hy209
             by_cases c16 : y209.length < 17592186044416
             ·
              rw [if_pos c16] at H
              have LMc16 := Aside0.mk c16
              clear c16
              obtain ⟨y212, hy212⟩ : ∃ y_ : List Int, y_ = (y209 ++ [t202]) := ⟨_, rfl⟩
              replace H : ((some (x3_1.drop (x6_2 : Int).toNat : List Int)).bind fun y215 => (if y212.length + y215.length < 17592186044416 then (chalklineref12_vars.l0 k2 (y212 ++ y215) (wrap64 (x4_1 + 1)) l0_0 l0_1 a0_2) else (none))) = some r := by first | (rw [hy212]; with_reducible exact H) | (have H2_ := (Option.bind_some _ _).symm.trans H; rw [hy212]; with_reducible exact H2_) | (have H2_ := (Option.bind_some _ _).symm.trans H; with_reducible exact H2_) | with_reducible exact H | (rw [hy212]; exact H) | exact H
              have Ny212 := Aside0.mk hy212
              clear hy212
              have c17b0 := eq_true (of_decide_eq_true (by first | (with_reducible assumption) | assumption) : 0 ≤ x6_2)
              have c18b0 := eq_true (of_decide_eq_true (by first | (with_reducible assumption) | assumption) : x6_2 ≤ (x3_1.length : Int))
              obtain ⟨y215, hy215⟩ : ∃ y_ : List Int, y_ = (x3_1.drop (x6_2 : Int).toNat) := ⟨_, rfl⟩
              replace H : (if y212.length + y215.length < 17592186044416 then (chalklineref12_vars.l0 k2 (y212 ++ y215) (wrap64 (x4_1 + 1)) l0_0 l0_1 a0_2) else (none)) = some r := by first | (rw [hy215]; with_reducible exact H) | (have H2_ := (Option.bind_some _ _).symm.trans H; rw [hy215]; with_reducible exact H2_) | (have H2_ := (Option.bind_some _ _).symm.trans H; with_reducible exact H2_) | with_reducible exact H | (rw [hy215]; exact H) | exact H
              have Ny215 := Aside0.mk hy215
              clear hy215
              by_cases c19 : y212.length + y215.length < 17592186044416
              ·
               rw [if_pos c19] at H
               have LMc19 := Aside0.mk c19
               clear c19
               obtain ⟨y219, hy219⟩ : ∃ y_ : List Int, y_ = (y212 ++ y215) := ⟨_, rfl⟩
               replace H : (chalklineref12_vars.l0 k2 y219 (wrap64 (x4_1 + 1)) l0_0 l0_1 a0_2) = some r := by first | (rw [hy219]; with_reducible exact H) | (have H2_ := (Option.bind_some _ _).symm.trans H; rw [hy219]; with_reducible exact H2_) | (have H2_ := (Option.bind_some _ _).symm.trans H; with_reducible exact H2_) | with_reducible exact H | (rw [hy219]; exact H) | exact H
               have Ny219 := Aside0.mk hy219
               clear hy219
               have H' := Aside0.mk H
               clear H
               obtain ⟨Ao20, co20, eo20⟩ := Kd.R_slice HO_3.out
               subst eo20
               have p203 : 0 ≤ (x6_2 : Int) := of_decide_eq_true (by first | (with_reducible assumption) | assumption)
               have q203 : x6_2 < (x3_1.length : Int) := of_decide_eq_true (by first | (with_reducible assumption) | assumption)
               obtain ⟨ad203, e203, hx203_0⟩ := Kd.at_int (Kd.R_reads' HO_3.out).2.2 x6_2 p203 q203
               cases e203
               replace p203 := eq_true p203
               replace q203 := eq_true q203
               have p204 : 0 ≤ (x6_2 : Int) := of_decide_eq_true (by first | (with_reducible assumption) | assumption)
               have q204 : x6_2 < (x3_1.length : Int) := of_decide_eq_true (by first | (with_reducible assumption) | assumption)
               obtain ⟨ad204, e204, hx204_0⟩ := Kd.at_int (Kd.R_reads' HO_3.out).2.2 x6_2 p204 q204
               obtain rfl : ad203 = ad204 := (by injection e204)
               replace p204 := eq_true p204
               replace q204 := eq_true q204
               have q21 : (x6_2 : Int) ≤ ((x3_1.length : Int) : Int) := of_decide_eq_true (by first | (with_reducible assumption) | assumption)
               obtain ⟨i021, hi021, _, hsz21, _⟩ := info_parts info3
               have hroom21 : x3_1.length ≤ co20 := (Kd.R_reads' HO_3.out).2.1
               have hC21 : Kd.C (Kd.int .i64) _ (some ad203) x3_1.length x3_1 := (Kd.R_reads' HO_3.out).2.2
               have hcut21 := cut_to (P := Try.prog) 22 3 .i64 Try.underlying22 hi021 (some ad203) x3_1.length co20 x6_2 (of_decide_eq_true (by first | (with_reducible assumption) | assumption)) q21 hroom21
               have hr21 := Kd.C_take (m := (x6_2 : Int).toNat) hC21 (by omega)
               have hy21 : y205.length = (x6_2 : Int).toNat := (by rw [Ny205.out, List.length_take]; omega)
               rw [← Ny205.out] at hr21
               rw [← hy21] at hcut21
               have HR208 := Aside0.mk hr21
               have HC208 := Aside0.mk (show y205.length ≤ co20 from by omega)
               clear hr21 hC21 hroom21 hi021 hsz21
               have KY21 := Aside0.mk hy21
               clear hy21
               have KL21 := Aside0.mk (show (x6_2 : Int).toNat ≤ x3_1.length from by omega)
               replace q21 := eq_true q21
               go_wp2_with (first | ((with_reducible refine gate_builtin (b := .append) (xs := #[.tmp 47, .tmp 50]) rfl ?_); at_builtin; refine Kd.R_append_rows (Kd.int .i64) (w0 := w) w.heap.size rfl (.tmp 47) (.tmp 50) 22 3 (.int .i64 0) 8 rfl Try.underlying22 info3 rfl (by decide) (by omega) (.slice none 0 0) ([] : List Int) y205 _ _ _ (fun k_ => some k_ ≠ (.slice (some ad203) x3_1.length co20 : Value).ownBlock) (fun _ => False) rfl rfl ?aO ?aR (fun _ _ h => h) (fun _ h => h.elim) ?aF ?aB ?aS ?aL ?_; (case aR => repeat (first | exact (by repeat (first | (with_reducible exact HR208.out) | (with_reducible refine Kd.C_alloc ?_ _) | (with_reducible refine Kd.C_drewN ?_ _) | (with_reducible refine Kd.C_drew ?_) | exact HR208.out)) | (with_reducible refine Kd.C_alloc ?_ _) | (with_reducible refine Kd.C_drewN ?_ _) | (with_reducible refine Kd.C_drew ?_))); (case aB => exact (by repeat (first | (with_reducible first | exact HB.out | apply below_alloc | apply pw_below_drewN | apply below_drew1 | refine below_set ?_ GE200.out) | exact HB.out))); (case aF => exact (fun k_ hk => Kd.fresh' (Kd.R_lt (by (with_reducible repeat (first | apply Kd.R_alloc | apply Kd.R_drewN | apply Kd.R_drew)); exact HO_3.out)) k_ hk)); (case aO => exact ((Kd.R_nil _ _ _ _ (fun k_ => some k_ ≠ (.slice (some ad203) x3_1.length co20 : Value).ownBlock)))); (case aS => exact (below_size (by repeat (first | (with_reducible first | exact HB.out | apply below_alloc | apply pw_below_drewN | apply below_drew1 | refine below_set ?_ GE200.out) | exact HB.out)))); (case aL => have := LMc15.out; omega); intro v210 w22 ho hb hg hat; rw [← Ny209.out] at ho; have n0_ := Aside0.mk (Kd.R_after (Kd.R_apart_nil (by (with_reducible repeat (first | apply Kd.R_alloc | apply Kd.R_drewN | apply Kd.R_drew)); exact HO_3.out)) hg hat); have n1_ := Aside0.mk (blk_grown (g := gb200) (o := .cells #[.slice A0_0 l0_0.length c0_0, .slice (some ad201) l0_1.length c0_1, .int .i64 a0_2] 24 (0, 0)) (by (with_reducible repeat (first | refine blk_drewN ?_ _ | refine blk_drew ?_ | refine blk_alloc ?_ _)); exact BK200.out) hg (by simp [Value.ownBlock])); have n2_ := Aside0.mk (hb); have n3_ := Aside0.mk ((show Kd.C (Kd.int .i64) w22 (some ad203) y205.length y205 from by rw [Ny205.out]; exact Kd.C_take (m := (x6_2 : Int).toNat) ((Kd.R_reads' (Kd.R_after (Kd.R_apart_nil (by (with_reducible repeat (first | apply Kd.R_alloc | apply Kd.R_drewN | apply Kd.R_drew)); exact HO_3.out)) hg hat)).2.2) KL21.out)); have n4_ := Aside0.mk (ho); clear HO_3; clear BK200; clear HB; clear HR208; have HO_3 := n0_; have BK200 := n1_; have HB := n2_; have HR208 := n3_; have HO211 := n4_; clear n0_ n1_ n2_ n3_ n4_; clear ho hb hg hat) | ((with_reducible refine gate_builtin (b := .append) (xs := #[.tmp 52, .tmp 54]) rfl ?_); at_builtin; refine Kd.R_append (Kd.int .i64) (w0 := w) w.heap.size rfl (.tmp 52) (.tmp 54) 22 3 (.int .i64 0) 8 rfl Try.underlying22 info3 rfl (by decide) (by omega) v210 y209 t202 [.int .i64 t202] (fun k_ => some k_ ≠ (.slice (some ad203) x3_1.length co20 : Value).ownBlock) (fun _ => False) rfl rfl ?aP (fun _ hk => hk.elim) ?aF ?aO ?aB ?aS ?aL ?_; (case aP => exact rfl); (case aB => exact (by repeat (first | (with_reducible first | exact HB.out | apply below_alloc | apply pw_below_drewN | apply below_drew1 | refine below_set ?_ GE200.out) | exact HB.out))); (case aF => exact (fun k_ hk => Kd.fresh' (Kd.R_lt (by (with_reducible repeat (first | apply Kd.R_alloc | apply Kd.R_drewN | apply Kd.R_drew)); exact HO_3.out)) k_ hk)); (case aO => exact (by (with_reducible repeat (first | apply Kd.R_alloc | apply Kd.R_drewN | apply Kd.R_drew)); exact HO211.out)); (case aS => exact (below_size (by repeat (first | (with_reducible first | exact HB.out | apply below_alloc | apply pw_below_drewN | apply below_drew1 | refine below_set ?_ GE200.out) | exact HB.out)))); (case aL => have := LMc16.out; omega); intro v213 w23 ho hb hg hat; rw [← Ny212.out] at ho; have n0_ := Aside0.mk (Kd.R_after (ok := (fun _ => True)) (by (with_reducible repeat (first | apply Kd.R_alloc | apply Kd.R_drewN | apply Kd.R_drew)); exact HO_3.out) hg hat); have n1_ := Aside0.mk (blk_grown (g := gb200) (o := .cells #[.slice A0_0 l0_0.length c0_0, .slice (some ad201) l0_1.length c0_1, .int .i64 a0_2] 24 (0, 0)) (by (with_reducible repeat (first | refine blk_drewN ?_ _ | refine blk_drew ?_ | refine blk_alloc ?_ _)); exact BK200.out) hg (Kd.R_ne HO211.out BK200.out (by decide))); have n2_ := Aside0.mk (hb); have n3_ := Aside0.mk ((show Kd.C (Kd.int .i64) w23 (some ad203) y205.length y205 from by rw [Ny205.out]; exact Kd.C_take (m := (x6_2 : Int).toNat) ((Kd.R_reads' (Kd.R_after (ok := (fun _ => True)) (by (with_reducible repeat (first | apply Kd.R_alloc | apply Kd.R_drewN | apply Kd.R_drew)); exact HO_3.out) hg hat)).2.2) KL21.out)); have n4_ := Aside0.mk (ho); clear HO_3; clear BK200; clear HB; clear HR208; clear HO211; have HO_3 := n0_; have BK200 := n1_; have HB := n2_; have HR208 := n3_; have HO214 := n4_; clear n0_ n1_ n2_ n3_ n4_; clear ho hb hg hat; have q24 : (x6_2 : Int) ≤ ((x3_1.length : Int) : Int) := of_decide_eq_true (by first | (with_reducible assumption) | assumption); obtain ⟨i024, hi024, _, hsz24, _⟩ := info_parts info3; have hroom24 : x3_1.length ≤ co20 := (Kd.R_reads' HO_3.out).2.1; have hC24 : Kd.C (Kd.int .i64) _ (some ad203) x3_1.length x3_1 := (Kd.R_reads' HO_3.out).2.2; have q024 : (0 : Int) ≤ (x6_2 : Int) := of_decide_eq_true (by first | (with_reducible assumption) | assumption); have hcut24 := cut_from (P := Try.prog) 22 3 .i64 Try.underlying22 hi024 1 hsz24 (some ad203) x3_1.length co20 x6_2 q024 q24; have hr24 := Kd.C_drop (m := (x6_2 : Int).toNat) (c := co20) hC24 (by omega) hroom24; obtain ⟨A24, hA24⟩ : ∃ A1, A1 = (if co20 = (x6_2 : Int).toNat then (some ad203) else ((some ad203) : Option Addr).map (·.add ((x6_2 : Int).toNat * 1))) := ⟨_, rfl⟩; obtain ⟨c24, hc24⟩ : ∃ c1, c1 = co20 - (x6_2 : Int).toNat := ⟨_, rfl⟩; have hy24 : y215.length = x3_1.length - (x6_2 : Int).toNat := (by rw [Ny215.out, List.length_drop] <;> omega); rw [show (x3_1).drop (x6_2 : Int).toNat = y215 from Ny215.out.symm] at hr24; replace hr24 : Kd.C (Kd.int .i64) _ A24 y215.length y215 := (by rw [hA24]; exact hr24); rw [← hy24, ← hA24, ← hc24] at hcut24; have HR218 := Aside0.mk hr24; have HC218 := Aside0.mk (show y215.length ≤ c24 from by rw [hy24, hc24]; exact Nat.sub_le_sub_right hroom24 _); clear hr24 hC24 hroom24 hi024 hsz24 hc24; have KY24 := Aside0.mk hy24; have KA24 := Aside0.mk hA24; clear hy24 hA24; have KL24 := Aside0.mk (show (x6_2 : Int).toNat ≤ x3_1.length from by omega); replace q24 := eq_true q24) | ((with_reducible refine gate_builtin (b := .append) (xs := #[.tmp 56, .tmp 59]) rfl ?_); at_builtin; refine Kd.R_append_rows (Kd.int .i64) (w0 := w) w.heap.size rfl (.tmp 56) (.tmp 59) 22 3 (.int .i64 0) 8 rfl Try.underlying22 info3 rfl (by decide) (by omega) v213 y212 y215 _ _ _ (fun k_ => some k_ ≠ (.slice (some ad203) x3_1.length co20 : Value).ownBlock) (fun _ => False) rfl rfl ?aO ?aR (fun _ _ h => h) (fun _ h => h.elim) ?aF ?aB ?aS ?aL ?_; (case aR => repeat (first | exact (by repeat (first | (with_reducible exact HR218.out) | (with_reducible refine Kd.C_alloc ?_ _) | (with_reducible refine Kd.C_drewN ?_ _) | (with_reducible refine Kd.C_drew ?_) | exact HR218.out)) | (with_reducible refine Kd.C_alloc ?_ _) | (with_reducible refine Kd.C_drewN ?_ _) | (with_reducible refine Kd.C_drew ?_))); (case aB => exact (by repeat (first | (with_reducible first | exact HB.out | apply below_alloc | apply pw_below_drewN | apply below_drew1 | refine below_set ?_ GE200.out) | exact HB.out))); (case aF => exact (fun k_ hk => Kd.fresh' (Kd.R_lt (by (with_reducible repeat (first | apply Kd.R_alloc | apply Kd.R_drewN | apply Kd.R_drew)); exact HO_3.out)) k_ hk)); (case aO => exact (by (with_reducible repeat (first | apply Kd.R_alloc | apply Kd.R_drewN | apply Kd.R_drew)); exact HO214.out)); (case aS => exact (below_size (by repeat (first | (with_reducible first | exact HB.out | apply below_alloc | apply pw_below_drewN | apply below_drew1 | refine below_set ?_ GE200.out) | exact HB.out)))); (case aL => have := LMc19.out; omega); intro v220 w25 ho hb hg hat; rw [← Ny219.out] at ho; have n0_ := Aside0.mk (Kd.R_after (ok := (fun _ => True)) (by (with_reducible repeat (first | apply Kd.R_alloc | apply Kd.R_drewN | apply Kd.R_drew)); exact HO_3.out) hg hat); have n1_ := Aside0.mk (blk_grown (g := gb200) (o := .cells #[.slice A0_0 l0_0.length c0_0, .slice (some ad201) l0_1.length c0_1, .int .i64 a0_2] 24 (0, 0)) (by (with_reducible repeat (first | refine blk_drewN ?_ _ | refine blk_drew ?_ | refine blk_alloc ?_ _)); exact BK200.out) hg (Kd.R_ne HO214.out BK200.out (by decide))); have n2_ := Aside0.mk (hb); have n3_ := Aside0.mk ((show Kd.C (Kd.int .i64) w25 (some ad203) y205.length y205 from by rw [Ny205.out]; exact Kd.C_take (m := (x6_2 : Int).toNat) ((Kd.R_reads' (Kd.R_after (ok := (fun _ => True)) (by (with_reducible repeat (first | apply Kd.R_alloc | apply Kd.R_drewN | apply Kd.R_drew)); exact HO_3.out) hg hat)).2.2) KL21.out)); have n4_ := Aside0.mk ((show Kd.C (Kd.int .i64) w25 A24 y215.length y215 from by rw [Ny215.out, KA24.out]; exact Kd.C_drop (m := (x6_2 : Int).toNat) (c := co20) ((Kd.R_reads' (Kd.R_after (ok := (fun _ => True)) (by (with_reducible repeat (first | apply Kd.R_alloc | apply Kd.R_drewN | apply Kd.R_drew)); exact HO_3.out) hg hat)).2.2) KL24.out ((Kd.R_reads' (Kd.R_after (ok := (fun _ => True)) (by (with_reducible repeat (first | apply Kd.R_alloc | apply Kd.R_drewN | apply Kd.R_drew)); exact HO_3.out) hg hat)).2.1))); have n5_ := Aside0.mk (ho); clear HO_3; clear BK200; clear HB; clear HR208; clear HR218; clear HO214; have HO_3 := n0_; have BK200 := n1_; have HB := n2_; have HR208 := n3_; have HR218 := n4_; have HO221 := n5_; clear n0_ n1_ n2_ n3_ n4_ n5_; clear ho hb hg hat))
               go_roundg k2
               case measure => have := HK1.out; have := HK2.out; omega
               case rel => exact ⟨(y219), (wrap64 (x4_1 + 1)), (by first | rfl | (simp; done) | (simp [*]; done)), H', ⟨by have := HK1.out; have := HK2.out; omega⟩, ⟨by (with_reducible repeat (first | apply Kd.R_alloc | apply Kd.R_drewN | apply Kd.R_drew)); exact Kd.R_mono HO221.out (fun _ hk => trivial)⟩, ⟨by (with_reducible repeat (first | refine blk_drewN ?_ _ | refine blk_drew ?_ | refine blk_alloc ?_ _)); exact BK200.out⟩, ⟨by repeat (first | (with_reducible first | exact HB.out | apply below_alloc | apply pw_below_drewN | apply below_drew1 | refine below_set ?_ GE200.out) | exact HB.out)⟩⟩
              ·
               rw [if_neg c19] at H
               exact absurd H (by simp)
             ·
              rw [if_neg c16] at H
              exact absurd H (by simp)
            ·
             rw [if_neg c15] at H
             exact absurd H (by simp)
           ·
            rw [if_neg c14] at H
            exact absurd H (by simp)
        ·
         rw [if_neg c8] at H
         exact absurd H (by simp)
       ·
        rw [if_neg c7] at H
        have c7b0 : decide (x6_2 < (x3_1.length : Int)) = false := decide_eq_false c7
        clear c7
        by_cases c26 : 0 ≤ x6_2
        ·
         rw [if_pos c26] at H
         have c26b0 := eq_true c26
         have c26b1 : decide (0 ≤ x6_2) = true := decide_eq_true c26
         clear c26
         by_cases c27 : x6_2 ≤ (x3_1.length : Int)
         ·
          rw [if_pos c27] at H
          have c27b0 := eq_true c27
          have c27b1 : decide (x6_2 ≤ (x3_1.length : Int)) = true := decide_eq_true c27
          clear c27
          obtain ⟨y222, hy222⟩ : ∃ y_ : List Int, y_ = (x3_1.take (x6_2 : Int).toNat) := ⟨_, rfl⟩
          replace H : (if ([] : List Int).length + y222.length < 17592186044416 then ((some (([] : List Int) ++ y222 : List Int)).bind fun y226 => (if y226.length < 17592186044416 then ((some (y226 ++ [t202] : List Int)).bind fun y229 => ((some (x3_1.drop (x6_2 : Int).toNat : List Int)).bind fun y232 => (if y229.length + y232.length < 17592186044416 then (chalklineref12_vars.l0 k2 (y229 ++ y232) (wrap64 (x4_1 + 1)) l0_0 l0_1 a0_2) else (none)))) else (none))) else (none)) = some r := by first | (rw [hy222]; with_reducible exact H) | (have H2_ := (Option.bind_some _ _).symm.trans H; rw [hy222]; with_reducible exact H2_) | (have H2_ := (Option.bind_some _ _).symm.trans H; with_reducible exact H2_) | with_reducible exact H | (rw [hy222]; exact H) | exact H
          have Ny222 := Aside0.mk hy222
          clear hy222
          by_cases c28 : ([] : List Int).length + y222.length < 17592186044416
          ·
           rw [if_pos c28] at H
           have LMc28 := Aside0.mk c28
           clear c28
           obtain ⟨y226, hy226⟩ : ∃ y_ : List Int, y_ = (([] : List Int) ++ y222) := ⟨_, rfl⟩
           replace H : (if y226.length < 17592186044416 then ((some (y226 ++ [t202] : List Int)).bind fun y229 => ((some (x3_1.drop (x6_2 : Int).toNat : List Int)).bind fun y232 => (if y229.length + y232.length < 17592186044416 then (chalklineref12_vars.l0 k2 (y229 ++ y232) (wrap64 (x4_1 + 1)) l0_0 l0_1 a0_2) else (none)))) else (none)) = some r := by first | (rw [hy226]; with_reducible exact H) | (have H2_ := (Option.bind_some _ _).symm.trans H; rw [hy226]; with_reducible exact H2_) | (have H2_ := (Option.bind_some _ _).symm.trans H; with_reducible exact H2_) | with_reducible exact H | (rw [hy226]; exact H) | exact H
           have Ny226 := Aside0.mk hy226
           clear hy226
           by_cases c29 : y226.length < 17592186044416
           ·
            rw [if_pos c29] at H
            have LMc29 := Aside0.mk c29
            clear c29
            obtain ⟨y229, hy229⟩ : ∃ y_ : List Int, y_ = (y226 ++ [t202]) := ⟨_, rfl⟩
            replace H : ((some (x3_1.drop (x6_2 : Int).toNat : List Int)).bind fun y232 => (if y229.length + y232.length < 17592186044416 then (chalklineref12_vars.l0 k2 (y229 ++ y232) (wrap64 (x4_1 + 1)) l0_0 l0_1 a0_2) else (none))) = some r := by first | (rw [hy229]; with_reducible exact H) | (have H2_ := (Option.bind_some _ _).symm.trans H; rw [hy229]; with_reducible exact H2_) | (have H2_ := (Option.bind_some _ _).symm.trans H; with_reducible exact H2_) | with_reducible exact H | (rw [hy229]; exact H) | exact H
            have Ny229 := Aside0.mk hy229
            clear hy229
            have c30b0 := eq_true (of_decide_eq_true (by first | (with_reducible assumption) | assumption) : 0 ≤ x6_2)
            have c31b0 := eq_true (of_decide_eq_true (by first | (with_reducible assumption) | assumption) : x6_2 ≤ (x3_1.length : Int))
            obtain ⟨y232, hy232⟩ : ∃ y_ : List Int, y_ = (x3_1.drop (x6_2 : Int).toNat) := ⟨_, rfl⟩
            replace H : (if y229.length + y232.length < 17592186044416 then (chalklineref12_vars.l0 k2 (y229 ++ y232) (wrap64 (x4_1 + 1)) l0_0 l0_1 a0_2) else (none)) = some r := by first | (rw [hy232]; with_reducible exact H) | (have H2_ := (Option.bind_some _ _).symm.trans H; rw [hy232]; with_reducible exact H2_) | (have H2_ := (Option.bind_some _ _).symm.trans H; with_reducible exact H2_) | with_reducible exact H | (rw [hy232]; exact H) | exact H
            have Ny232 := Aside0.mk hy232
            clear hy232
            by_cases c32 : y229.length + y232.length < 17592186044416
            ·
             rw [if_pos c32] at H
             have LMc32 := Aside0.mk c32
             clear c32
             obtain ⟨y236, hy236⟩ : ∃ y_ : List Int, y_ = (y229 ++ y232) := ⟨_, rfl⟩
             replace H : (chalklineref12_vars.l0 k2 y236 (wrap64 (x4_1 + 1)) l0_0 l0_1 a0_2) = some r := by first | (rw [hy236]; with_reducible exact H) | (have H2_ := (Option.bind_some _ _).symm.trans H; rw [hy236]; with_reducible exact H2_) | (have H2_ := (Option.bind_some _ _).symm.trans H; with_reducible exact H2_) | with_reducible exact H | (rw [hy236]; exact H) | exact H
             have Ny236 := Aside0.mk hy236
             clear hy236
             have H' := Aside0.mk H
             clear H
             obtain ⟨Ao33, co33, eo33⟩ := Kd.R_slice HO_3.out
             subst eo33
             have q34 : (x6_2 : Int) ≤ ((x3_1.length : Int) : Int) := of_decide_eq_true (by first | (with_reducible assumption) | assumption)
             obtain ⟨i034, hi034, _, hsz34, _⟩ := info_parts info3
             have hroom34 : x3_1.length ≤ co33 := (Kd.R_reads' HO_3.out).2.1
             have hC34 : Kd.C (Kd.int .i64) _ Ao33 x3_1.length x3_1 := (Kd.R_reads' HO_3.out).2.2
             have hcut34 := cut_to (P := Try.prog) 22 3 .i64 Try.underlying22 hi034 Ao33 x3_1.length co33 x6_2 (of_decide_eq_true (by first | (with_reducible assumption) | assumption)) q34 hroom34
             have hr34 := Kd.C_take (m := (x6_2 : Int).toNat) hC34 (by omega)
             have hy34 : y222.length = (x6_2 : Int).toNat := (by rw [Ny222.out, List.length_take]; omega)
             rw [← Ny222.out] at hr34
             rw [← hy34] at hcut34
             have HR225 := Aside0.mk hr34
             have HC225 := Aside0.mk (show y222.length ≤ co33 from by omega)
             clear hr34 hC34 hroom34 hi034 hsz34
             have KY34 := Aside0.mk hy34
             clear hy34
             have KL34 := Aside0.mk (show (x6_2 : Int).toNat ≤ x3_1.length from by omega)
             replace q34 := eq_true q34
             go_wp2_with (first | ((with_reducible refine gate_builtin (b := .append) (xs := #[.tmp 47, .tmp 50]) rfl ?_); at_builtin; refine Kd.R_append_rows (Kd.int .i64) (w0 := w) w.heap.size rfl (.tmp 47) (.tmp 50) 22 3 (.int .i64 0) 8 rfl Try.underlying22 info3 rfl (by decide) (by omega) (.slice none 0 0) ([] : List Int) y222 _ _ _ (fun k_ => some k_ ≠ (.slice Ao33 x3_1.length co33 : Value).ownBlock) (fun _ => False) rfl rfl ?aO ?aR (fun _ _ h => h) (fun _ h => h.elim) ?aF ?aB ?aS ?aL ?_; (case aR => repeat (first | exact (by repeat (first | (with_reducible exact HR225.out) | (with_reducible refine Kd.C_alloc ?_ _) | (with_reducible refine Kd.C_drewN ?_ _) | (with_reducible refine Kd.C_drew ?_) | exact HR225.out)) | (with_reducible refine Kd.C_alloc ?_ _) | (with_reducible refine Kd.C_drewN ?_ _) | (with_reducible refine Kd.C_drew ?_))); (case aB => exact (by repeat (first | (with_reducible first | exact HB.out | apply below_alloc | apply pw_below_drewN | apply below_drew1 | refine below_set ?_ GE200.out) | exact HB.out))); (case aF => exact (fun k_ hk => Kd.fresh' (Kd.R_lt (by (with_reducible repeat (first | apply Kd.R_alloc | apply Kd.R_drewN | apply Kd.R_drew)); exact HO_3.out)) k_ hk)); (case aO => exact ((Kd.R_nil _ _ _ _ (fun k_ => some k_ ≠ (.slice Ao33 x3_1.length co33 : Value).ownBlock)))); (case aS => exact (below_size (by repeat (first | (with_reducible first | exact HB.out | apply below_alloc | apply pw_below_drewN | apply below_drew1 | refine below_set ?_ GE200.out) | exact HB.out)))); (case aL => have := LMc28.out; omega); intro v227 w35 ho hb hg hat; rw [← Ny226.out] at ho; have n0_ := Aside0.mk (Kd.R_after (Kd.R_apart_nil (by (with_reducible repeat (first | apply Kd.R_alloc | apply Kd.R_drewN | apply Kd.R_drew)); exact HO_3.out)) hg hat); have n1_ := Aside0.mk (blk_grown (g := gb200) (o := .cells #[.slice A0_0 l0_0.length c0_0, .slice (some ad201) l0_1.length c0_1, .int .i64 a0_2] 24 (0, 0)) (by (with_reducible repeat (first | refine blk_drewN ?_ _ | refine blk_drew ?_ | refine blk_alloc ?_ _)); exact BK200.out) hg (by simp [Value.ownBlock])); have n2_ := Aside0.mk (hb); have n3_ := Aside0.mk ((show Kd.C (Kd.int .i64) w35 Ao33 y222.length y222 from by rw [Ny222.out]; exact Kd.C_take (m := (x6_2 : Int).toNat) ((Kd.R_reads' (Kd.R_after (Kd.R_apart_nil (by (with_reducible repeat (first | apply Kd.R_alloc | apply Kd.R_drewN | apply Kd.R_drew)); exact HO_3.out)) hg hat)).2.2) KL34.out)); have n4_ := Aside0.mk (ho); clear HO_3; clear BK200; clear HB; clear HR225; have HO_3 := n0_; have BK200 := n1_; have HB := n2_; have HR225 := n3_; have HO228 := n4_; clear n0_ n1_ n2_ n3_ n4_; clear ho hb hg hat) | ((with_reducible refine gate_builtin (b := .append) (xs := #[.tmp 52, .tmp 54]) rfl ?_); at_builtin; refine Kd.R_append (Kd.int .i64) (w0 := w) w.heap.size rfl (.tmp 52) (.tmp 54) 22 3 (.int .i64 0) 8 rfl Try.underlying22 info3 rfl (by decide) (by omega) v227 y226 t202 [.int .i64 t202] (fun k_ => some k_ ≠ (.slice Ao33 x3_1.length co33 : Value).ownBlock) (fun _ => False) rfl rfl ?aP (fun _ hk => hk.elim) ?aF ?aO ?aB ?aS ?aL ?_; (case aP => exact rfl); (case aB => exact (by repeat (first | (with_reducible first | exact HB.out | apply below_alloc | apply pw_below_drewN | apply below_drew1 | refine below_set ?_ GE200.out) | exact HB.out))); (case aF => exact (fun k_ hk => Kd.fresh' (Kd.R_lt (by (with_reducible repeat (first | apply Kd.R_alloc | apply Kd.R_drewN | apply Kd.R_drew)); exact HO_3.out)) k_ hk)); (case aO => exact (by (with_reducible repeat (first | apply Kd.R_alloc | apply Kd.R_drewN | apply Kd.R_drew)); exact HO228.out)); (case aS => exact (below_size (by repeat (first | (with_reducible first | exact HB.out | apply below_alloc | apply pw_below_drewN | apply below_drew1 | refine below_set ?_ GE200.out) | exact HB.out)))); (case aL => have := LMc29.out; omega); intro v230 w36 ho hb hg hat; rw [← Ny229.out] at ho; have n0_ := Aside0.mk (Kd.R_after (ok := (fun _ => True)) (by (with_reducible repeat (first | apply Kd.R_alloc | apply Kd.R_drewN | apply Kd.R_drew)); exact HO_3.out) hg hat); have n1_ := Aside0.mk (blk_grown (g := gb200) (o := .cells #[.slice A0_0 l0_0.length c0_0, .slice (some ad201) l0_1.length c0_1, .int .i64 a0_2] 24 (0, 0)) (by (with_reducible repeat (first | refine blk_drewN ?_ _ | refine blk_drew ?_ | refine blk_alloc ?_ _)); exact BK200.out) hg (Kd.R_ne HO228.out BK200.out (by decide))); have n2_ := Aside0.mk (hb); have n3_ := Aside0.mk ((show Kd.C (Kd.int .i64) w36 Ao33 y222.length y222 from by rw [Ny222.out]; exact Kd.C_take (m := (x6_2 : Int).toNat) ((Kd.R_reads' (Kd.R_after (ok := (fun _ => True)) (by (with_reducible repeat (first | apply Kd.R_alloc | apply Kd.R_drewN | apply Kd.R_drew)); exact HO_3.out) hg hat)).2.2) KL34.out)); have n4_ := Aside0.mk (ho); clear HO_3; clear BK200; clear HB; clear HR225; clear HO228; have HO_3 := n0_; have BK200 := n1_; have HB := n2_; have HR225 := n3_; have HO231 := n4_; clear n0_ n1_ n2_ n3_ n4_; clear ho hb hg hat; have q37 : (x6_2 : Int) ≤ ((x3_1.length : Int) : Int) := of_decide_eq_true (by first | (with_reducible assumption) | assumption); obtain ⟨i037, hi037, _, hsz37, _⟩ := info_parts info3; have hroom37 : x3_1.length ≤ co33 := (Kd.R_reads' HO_3.out).2.1; have hC37 : Kd.C (Kd.int .i64) _ Ao33 x3_1.length x3_1 := (Kd.R_reads' HO_3.out).2.2; have q037 : (0 : Int) ≤ (x6_2 : Int) := of_decide_eq_true (by first | (with_reducible assumption) | assumption); have hcut37 := cut_from (P := Try.prog) 22 3 .i64 Try.underlying22 hi037 1 hsz37 Ao33 x3_1.length co33 x6_2 q037 q37; have hr37 := Kd.C_drop (m := (x6_2 : Int).toNat) (c := co33) hC37 (by omega) hroom37; obtain ⟨A37, hA37⟩ : ∃ A1, A1 = (if co33 = (x6_2 : Int).toNat then Ao33 else (Ao33 : Option Addr).map (·.add ((x6_2 : Int).toNat * 1))) := ⟨_, rfl⟩; obtain ⟨c37, hc37⟩ : ∃ c1, c1 = co33 - (x6_2 : Int).toNat := ⟨_, rfl⟩; have hy37 : y232.length = x3_1.length - (x6_2 : Int).toNat := (by rw [Ny232.out, List.length_drop] <;> omega); rw [show (x3_1).drop (x6_2 : Int).toNat = y232 from Ny232.out.symm] at hr37; replace hr37 : Kd.C (Kd.int .i64) _ A37 y232.length y232 := (by rw [hA37]; exact hr37); rw [← hy37, ← hA37, ← hc37] at hcut37; have HR235 := Aside0.mk hr37; have HC235 := Aside0.mk (show y232.length ≤ c37 from by rw [hy37, hc37]; exact Nat.sub_le_sub_right hroom37 _); clear hr37 hC37 hroom37 hi037 hsz37 hc37; have KY37 := Aside0.mk hy37; have KA37 := Aside0.mk hA37; clear hy37 hA37; have KL37 := Aside0.mk (show (x6_2 : Int).toNat ≤ x3_1.length from by omega); replace q37 := eq_true q37) | ((with_reducible refine gate_builtin (b := .append) (xs := #[.tmp 56, .tmp 59]) rfl ?_); at_builtin; refine Kd.R_append_rows (Kd.int .i64) (w0 := w) w.heap.size rfl (.tmp 56) (.tmp 59) 22 3 (.int .i64 0) 8 rfl Try.underlying22 info3 rfl (by decide) (by omega) v230 y229 y232 _ _ _ (fun k_ => some k_ ≠ (.slice Ao33 x3_1.length co33 : Value).ownBlock) (fun _ => False) rfl rfl ?aO ?aR (fun _ _ h => h) (fun _ h => h.elim) ?aF ?aB ?aS ?aL ?_; (case aR => repeat (first | exact (by repeat (first | (with_reducible exact HR235.out) | (with_reducible refine Kd.C_alloc ?_ _) | (with_reducible refine Kd.C_drewN ?_ _) | (with_reducible refine Kd.C_drew ?_) | exact HR235.out)) | (with_reducible refine Kd.C_alloc ?_ _) | (with_reducible refine Kd.C_drewN ?_ _) | (with_reducible refine Kd.C_drew ?_))); (case aB => exact (by repeat (first | (with_reducible first | exact HB.out | apply below_alloc | apply pw_below_drewN | apply below_drew1 | refine below_set ?_ GE200.out) | exact HB.out))); (case aF => exact (fun k_ hk => Kd.fresh' (Kd.R_lt (by (with_reducible repeat (first | apply Kd.R_alloc | apply Kd.R_drewN | apply Kd.R_drew)); exact HO_3.out)) k_ hk)); (case aO => exact (by (with_reducible repeat (first | apply Kd.R_alloc | apply Kd.R_drewN | apply Kd.R_drew)); exact HO231.out)); (case aS => exact (below_size (by repeat (first | (with_reducible first | exact HB.out | apply below_alloc | apply pw_below_drewN | apply below_drew1 | refine below_set ?_ GE200.out) | exact HB.out)))); (case aL => have := LMc32.out; omega); intro v237 w38 ho hb hg hat; rw [← Ny236.out] at ho; have n0_ := Aside0.mk (Kd.R_after (ok := (fun _ => True)) (by (with_reducible repeat (first | apply Kd.R_alloc | apply Kd.R_drewN | apply Kd.R_drew)); exact HO_3.out) hg hat); have n1_ := Aside0.mk (blk_grown (g := gb200) (o := .cells #[.slice A0_0 l0_0.length c0_0, .slice (some ad201) l0_1.length c0_1, .int .i64 a0_2] 24 (0, 0)) (by (with_reducible repeat (first | refine blk_drewN ?_ _ | refine blk_drew ?_ | refine blk_alloc ?_ _)); exact BK200.out) hg (Kd.R_ne HO231.out BK200.out (by decide))); have n2_ := Aside0.mk (hb); have n3_ := Aside0.mk ((show Kd.C (Kd.int .i64) w38 Ao33 y222.length y222 from by rw [Ny222.out]; exact Kd.C_take (m := (x6_2 : Int).toNat) ((Kd.R_reads' (Kd.R_after (ok := (fun _ => True)) (by (with_reducible repeat (first | apply Kd.R_alloc | apply Kd.R_drewN | apply Kd.R_drew)); exact HO_3.out) hg hat)).2.2) KL34.out)); have n4_ := Aside0.mk ((show Kd.C (Kd.int .i64) w38 A37 y232.length y232 from by rw [Ny232.out, KA37.out]; exact Kd.C_drop (m := (x6_2 : Int).toNat) (c := co33) ((Kd.R_reads' (Kd.R_after (ok := (fun _ => True)) (by (with_reducible repeat (first | apply Kd.R_alloc | apply Kd.R_drewN | apply Kd.R_drew)); exact HO_3.out) hg hat)).2.2) KL37.out ((Kd.R_reads' (Kd.R_after (ok := (fun _ => True)) (by (with_reducible repeat (first | apply Kd.R_alloc | apply Kd.R_drewN | apply Kd.R_drew)); exact HO_3.out) hg hat)).2.1))); have n5_ := Aside0.mk (ho); clear HO_3; clear BK200; clear HB; clear HR225; clear HR235; clear HO231; have HO_3 := n0_; have BK200 := n1_; have HB := n2_; have HR225 := n3_; have HR235 := n4_; have HO238 := n5_; clear n0_ n1_ n2_ n3_ n4_ n5_; clear ho hb hg hat))
             go_roundg k2
             case measure => have := HK1.out; have := HK2.out; omega
             case rel => exact ⟨(y236), (wrap64 (x4_1 + 1)), (by first | rfl | (simp; done) | (simp [*]; done)), H', ⟨by have := HK1.out; have := HK2.out; omega⟩, ⟨by (with_reducible repeat (first | apply Kd.R_alloc | apply Kd.R_drewN | apply Kd.R_drew)); exact Kd.R_mono HO238.out (fun _ hk => trivial)⟩, ⟨by (with_reducible repeat (first | refine blk_drewN ?_ _ | refine blk_drew ?_ | refine blk_alloc ?_ _)); exact BK200.out⟩, ⟨by repeat (first | (with_reducible first | exact HB.out | apply below_alloc | apply pw_below_drewN | apply below_drew1 | refine below_set ?_ GE200.out) | exact HB.out)⟩⟩
            ·
             rw [if_neg c32] at H
             exact absurd H (by simp)
           ·
            rw [if_neg c29] at H
            exact absurd H (by simp)
          ·
           rw [if_neg c28] at H
           exact absurd H (by simp)
         ·
          rw [if_neg c27] at H
          exact absurd H (by simp)
        ·
         rw [if_neg c26] at H
         exact absurd H (by simp)
    ·
     rw [if_neg c4] at H
     exact absurd H (by simp)
   ·
    rw [if_neg c3] at H
    have c3b0 : decide (x4_1 < (l0_1.length : Int)) = false := decide_eq_false c3
    clear c3
    obtain rfl := Option.some.inj H
    have hcz39_0 : wr.cell? ⟨gb200, 0, none⟩ = some (.slice A0_0 l0_0.length c0_0) := (blk_cell BK200.out 0).trans rfl
    have hcz39_1 : wr.cell? ⟨gb200, 1, none⟩ = some (.slice A0_1 l0_1.length c0_1) := (blk_cell BK200.out 1).trans rfl
    have hcz39_2 : wr.cell? ⟨gb200, 2, none⟩ = some (.int .i64 a0_2) := (blk_cell BK200.out 2).trans rfl
    have hfz39_0 := blk_frozen BK200.out 0
    have hfz39_1 := blk_frozen BK200.out 1
    have hfz39_2 := blk_frozen BK200.out 2
    go_wp2
    go_ret
    exact ⟨_, by first | rfl | (simp [errW_none, errW_some] <;> rfl) | (simp [*, errW_none, errW_some] <;> rfl), by (with_reducible repeat (first | apply Kd.R_alloc | apply Kd.R_drewN | apply Kd.R_drew)); exact HO_3.out, by repeat (first | (with_reducible first | exact HB.out | apply below_alloc | apply pw_below_drewN | apply below_drew1 | refine below_set ?_ GE200.out) | exact HB.out)⟩

/-! ### chalklineref12_both: function 57 -/
def chalklineref12_both.l0 : Nat → Int → Int → Int → Int → List Int → List Int → Int → Option (Int × Int)
 | 0, _, _, _, _, _, _, _ => none
 | k + 1, x1, x6, x7, x8, x240000, x240001, x240002 => if x8 < (x240001.length : Int) then (if 0 ≤ x8 then (if (rd x240001 x8) = x1 then (if x8 < (x240000.length : Int) then (if (rd x240001 x8) = (wrap64 (-x1)) then (chalklineref12_both.l0 k x1 (wrap64 (x6 + (rd x240000 x8))) (wrap64 (x7 + (rd x240000 x8))) (wrap64 (x8 + 1)) x240000 x240001 x240002) else (chalklineref12_both.l0 k x1 (wrap64 (x6 + (rd x240000 x8))) x7 (wrap64 (x8 + 1)) x240000 x240001 x240002)) else (none)) else (if (rd x240001 x8) = (wrap64 (-x1)) then (if x8 < (x240000.length : Int) then (chalklineref12_both.l0 k x1 x6 (wrap64 (x7 + (rd x240000 x8))) (wrap64 (x8 + 1)) x240000 x240001 x240002) else (none)) else (chalklineref12_both.l0 k x1 x6 x7 (wrap64 (x8 + 1)) x240000 x240001 x240002))) else (none)) else (some (x6, x7))
def chalklineref12_both.f (k : Nat) (l0_0 : List Int) (l0_1 : List Int) (a0_2 : Int) (a1 : Int) : Option (Int × Int) := chalklineref12_both.l0 k a1 0 0 0 l0_0 l0_1 a0_2
set_option maxHeartbeats 8000000 in
set_option maxRecDepth 100000 in
theorem chalklineref12_both.calls (k : Nat) (A0_0 : Option Addr) (c0_0 : Nat) (l0_0 : List Int) (A0_1 : Option Addr) (c0_1 : Nat) (l0_1 : List Int) (a0_2 : Int) (a1 : Int) (r1 : Int) (r2 : Int) (w : World) (hr0_0 : Kd.C (Kd.int .i64) w A0_0 l0_0.length l0_0) (hc0_0 : l0_0.length ≤ c0_0) (hr0_1 : Kd.C (Kd.int .i64) w A0_1 l0_1.length l0_1) (hc0_1 : l0_1.length ≤ c0_1) (h : chalklineref12_both.f k l0_0 l0_1 a0_2 a1 = some (r1, r2)) :
  Calls Try.prog 57 #[.agg #[.slice A0_0 l0_0.length c0_0, .slice A0_1 l0_1.length c0_1, .int .i64 a0_2], .int .i64 a1] w fun e w' => e = .returned (.tuple #[.int .i64 r1, .int .i64 r2]) ∧ Below w.heap.size w w' := by
 have hu24 := Try.underlying24
 have HR0_0 := Aside0.mk hr0_0
 have HC0_0 := Aside0.mk hc0_0
 clear hr0_0 hc0_0
 have HR0_1 := Aside0.mk hr0_1
 have HC0_1 := Aside0.mk hc0_1
 clear hr0_1 hc0_1
 have HB := Aside0.mk (Below.refl w.heap.size w)
 have H : (chalklineref12_both.l0 k a1 0 0 0 l0_0 l0_1 a0_2) = some (r1, r2) := h
 clear h
 have H' := Aside0.mk H
 clear H
 go_enter Try.func57, Try.ntmps57
 go_wp2_with (first | ((with_reducible refine gate_dst (N := 2) rfl ?_); refine box_event ?hg (N := 2) ?hd (cs := #[.slice A0_0 l0_0.length c0_0, .slice A0_1 l0_1.length c0_1, .int .i64 a0_2]) (t := 24) ?hr ?_; (case hd => rfl); (case hg => rfl); (case hr => first | (go_simp; done) | (go_simp; rfl)); intro gb239 hg w3 hbox hb; have n0_ := Aside0.mk (below_step (by repeat (first | (with_reducible first | exact HB.out | apply below_alloc | apply pw_below_drewN | apply below_drew1) | exact HB.out)) hb); have n1_ := Aside0.mk (hbox); have n2_ := Aside0.mk ((by rw [hg]; exact (below_size (by repeat (first | (with_reducible first | exact HB.out | apply below_alloc | apply pw_below_drewN | apply below_drew1) | exact HB.out))) : w.heap.size ≤ gb239)); have n3_ := Aside0.mk ((by rw [hg]; exact (below_size (by repeat (first | (with_reducible first | exact HB.out | apply below_alloc | apply pw_below_drewN | apply below_drew1) | exact HB.out))) : w.heap.size ≤ gb239)); clear HB; have HB := n0_; have BK239 := n1_; have GW239 := n2_; have GE239 := n3_; clear n0_ n1_ n2_ n3_; clear hb hbox hg))
 go_loopg [6, 7, 8] k (fun kq v6 v7 v8 w' => ∃ (x6_1 : Int) (x7_1 : Int) (x8_1 : Int), v6 = .int .i64 x6_1 ∧ v7 = .int .i64 x7_1 ∧ v8 = .int .i64 x8_1 ∧ Aside0 (chalklineref12_both.l0 kq a1 x6_1 x7_1 x8_1 l0_0 l0_1 a0_2 = some (r1, r2)) ∧ Aside0 (kq ≤ k) ∧ Aside0 (w'.heap[gb239]? = some (.cells #[(.slice A0_0 l0_0.length c0_0), (.slice A0_1 l0_1.length c0_1), .int .i64 a0_2] 24 (0, 0))) ∧ Aside0 (Below w.heap.size w w'))
 case atStart => exact ⟨(0), (0), (0), (by first | rfl | (simp; done) | (simp [*]; done)), (by first | rfl | (simp; done) | (simp [*]; done)), (by first | rfl | (simp; done) | (simp [*]; done)), H', ⟨Nat.le_refl _⟩, ⟨by (with_reducible repeat (first | refine blk_drewN ?_ _ | refine blk_drew ?_ | refine blk_alloc ?_ _)); exact BK239.out⟩, ⟨by repeat (first | (with_reducible first | exact HB.out | apply below_alloc | apply pw_below_drewN | apply below_drew1 | refine below_set ?_ GE239.out) | exact HB.out)⟩⟩
 case round =>
  clear H'
  obtain ⟨x6_1, x7_1, x8_1, rfl, rfl, rfl, HA, HK1, BK239, HB⟩ := hrel
  cases gk with
  | zero => exact absurd HA.out (by simp [chalklineref12_both.l0])
  | succ k1 =>
   have H := HA.out
   clear HA
   simp only [chalklineref12_both.l0] at H
   by_cases c4 : x8_1 < (l0_1.length : Int)
   ·
    rw [if_pos c4] at H
    have c4b0 : decide (x8_1 < (l0_1.length : Int)) = true := decide_eq_true c4
    clear c4
    by_cases c5 : 0 ≤ x8_1
    ·
     rw [if_pos c5] at H
     have c5b0 : decide (0 ≤ x8_1) = true := decide_eq_true c5
     clear c5
     by_cases c6 : (rd l0_1 x8_1) = a1
     ·
      rw [if_pos c6] at H
      have c6b0 : ((rd l0_1 x8_1) == a1) = true := beq_iff_eq.mpr c6
      have c6b1 : ((rd l0_1 x8_1) != a1) = false := bne_eq_false_iff_eq.mpr c6
      clear c6
      by_cases c7 : x8_1 < (l0_0.length : Int)
      ·
       rw [if_pos c7] at H
       have c7b0 : decide (x8_1 < (l0_0.length : Int)) = true := decide_eq_true c7
       clear c7
       by_cases c8 : (rd l0_1 x8_1) = (wrap64 (-a1))
       ·
        rw [if_pos c8] at H
        have c8b0 : ((rd l0_1 x8_1) == (wrap64 (-a1))) = true := beq_iff_eq.mpr c8
        have c8b1 : ((rd l0_1 x8_1) != (wrap64 (-a1))) = false := bne_eq_false_iff_eq.mpr c8
        clear c8
        have H' := Aside0.mk H
        clear H
        have hcz9_0 : wr.cell? ⟨gb239, 0, none⟩ = some (.slice A0_0 l0_0.length c0_0) := (blk_cell BK239.out 0).trans rfl
        have hcz9_1 : wr.cell? ⟨gb239, 1, none⟩ = some (.slice A0_1 l0_1.length c0_1) := (blk_cell BK239.out 1).trans rfl
        have hcz9_2 : wr.cell? ⟨gb239, 2, none⟩ = some (.int .i64 a0_2) := (blk_cell BK239.out 2).trans rfl
        have hfz9_0 := blk_frozen BK239.out 0
        have hfz9_1 := blk_frozen BK239.out 1
        have hfz9_2 := blk_frozen BK239.out 2
        have p240 : 0 ≤ (x8_1 : Int) := of_decide_eq_true (by first | (with_reducible assumption) | assumption)
        have q240 : x8_1 < (l0_1.length : Int) := of_decide_eq_true (by first | (with_reducible assumption) | assumption)
        obtain ⟨ad240, e240, hx240_0⟩ := Kd.at_int HR0_1.out x8_1 p240 q240
        cases e240
        replace hx240_0 := (HB.out.cell (World.block_lt_of_cell? w _ hx240_0)).trans hx240_0
        replace p240 := eq_true p240
        replace q240 := eq_true q240
        have p241 : 0 ≤ (x8_1 : Int) := of_decide_eq_true (by first | (with_reducible assumption) | assumption)
        have q241 : x8_1 < (l0_0.length : Int) := of_decide_eq_true (by first | (with_reducible assumption) | assumption)
        obtain ⟨ad241, e241, hx241_0⟩ := Kd.at_int HR0_0.out x8_1 p241 q241
        cases e241
        replace hx241_0 := (HB.out.cell (World.block_lt_of_cell? w _ hx241_0)).trans hx241_0
        replace p241 := eq_true p241
        replace q241 := eq_true q241
        have p242 : 0 ≤ (x8_1 : Int) := of_decide_eq_true (by first | (with_reducible assumption) | assumption)
        have q242 : x8_1 < (l0_1.length : Int) := of_decide_eq_true (by first | (with_reducible assumption) | assumption)
        obtain ⟨ad242, e242, hx242_0⟩ := Kd.at_int HR0_1.out x8_1 p242 q242
        obtain rfl : ad240 = ad242 := (by injection e242)
        replace hx242_0 := (HB.out.cell (World.block_lt_of_cell? w _ hx242_0)).trans hx242_0
        replace p242 := eq_true p242
        replace q242 := eq_true q242
        have p243 : 0 ≤ (x8_1 : Int) := of_decide_eq_true (by first | (with_reducible assumption) | assumption)
        have q243 : x8_1 < (l0_0.length : Int) := of_decide_eq_true (by first | (with_reducible assumption) | assumption)
        obtain ⟨ad243, e243, hx243_0⟩ := Kd.at_int HR0_0.out x8_1 p243 q243
        obtain rfl : ad241 = ad243 := (by injection e243)
        replace hx243_0 := (HB.out.cell (World.block_lt_of_cell? w _ hx243_0)).trans hx243_0
        replace p243 := eq_true p243
        replace q243 := eq_true q243
        go_wp2
        go_roundg k1
        case measure => have := HK1.out; omega
        case rel => exact ⟨(wrap64 (x6_1 + (rd l0_0 x8_1))), (wrap64 (x7_1 + (rd l0_0 x8_1))), (wrap64 (x8_1 + 1)), (by first | rfl | (simp; done) | (simp [*]; done)), (by first | rfl | (simp; done) | (simp [*]; done)), (by first | rfl | (simp; done) | (simp [*]; done)), H', ⟨by have := HK1.out; omega⟩, ⟨by (with_reducible repeat (first | refine blk_drewN ?_ _ | refine blk_drew ?_ | refine blk_alloc ?_ _)); exact BK239.out⟩, ⟨by repeat (first | (with_reducible first | exact HB.out | apply below_alloc | apply pw_below_drewN | apply below_drew1 | refine below_set ?_ GE239.out) | exact HB.out)⟩⟩
       ·
        rw [if_neg c8] at H
        have c8b0 : ((rd l0_1 x8_1) == (wrap64 (-a1))) = false := beq_eq_false_iff_ne.mpr c8
        have c8b1 : ((rd l0_1 x8_1) != (wrap64 (-a1))) = true := bne_iff_ne.mpr c8
        have H' := Aside0.mk H
        clear H
        have hcz10_0 : wr.cell? ⟨gb239, 0, none⟩ = some (.slice A0_0 l0_0.length c0_0) := (blk_cell BK239.out 0).trans rfl
        have hcz10_1 : wr.cell? ⟨gb239, 1, none⟩ = some (.slice A0_1 l0_1.length c0_1) := (blk_cell BK239.out 1).trans rfl
        have hcz10_2 : wr.cell? ⟨gb239, 2, none⟩ = some (.int .i64 a0_2) := (blk_cell BK239.out 2).trans rfl
        have hfz10_0 := blk_frozen BK239.out 0
        have hfz10_1 := blk_frozen BK239.out 1
        have hfz10_2 := blk_frozen BK239.out 2
        have p240 : 0 ≤ (x8_1 : Int) := of_decide_eq_true (by first | (with_reducible assumption) | assumption)
        have q240 : x8_1 < (l0_1.length : Int) := of_decide_eq_true (by first | (with_reducible assumption) | assumption)
        obtain ⟨ad240, e240, hx240_0⟩ := Kd.at_int HR0_1.out x8_1 p240 q240
        cases e240
        replace hx240_0 := (HB.out.cell (World.block_lt_of_cell? w _ hx240_0)).trans hx240_0
        replace p240 := eq_true p240
        replace q240 := eq_true q240
        have p241 : 0 ≤ (x8_1 : Int) := of_decide_eq_true (by first | (with_reducible assumption) | assumption)
        have q241 : x8_1 < (l0_0.length : Int) := of_decide_eq_true (by first | (with_reducible assumption) | assumption)
        obtain ⟨ad241, e241, hx241_0⟩ := Kd.at_int HR0_0.out x8_1 p241 q241
        cases e241
        replace hx241_0 := (HB.out.cell (World.block_lt_of_cell? w _ hx241_0)).trans hx241_0
        replace p241 := eq_true p241
        replace q241 := eq_true q241
        have p242 : 0 ≤ (x8_1 : Int) := of_decide_eq_true (by first | (with_reducible assumption) | assumption)
        have q242 : x8_1 < (l0_1.length : Int) := of_decide_eq_true (by first | (with_reducible assumption) | assumption)
        obtain ⟨ad242, e242, hx242_0⟩ := Kd.at_int HR0_1.out x8_1 p242 q242
        obtain rfl : ad240 = ad242 := (by injection e242)
        replace hx242_0 := (HB.out.cell (World.block_lt_of_cell? w _ hx242_0)).trans hx242_0
        replace p242 := eq_true p242
        replace q242 := eq_true q242
        go_wp2
        go_roundg k1
        case measure => have := HK1.out; omega
        case rel => exact ⟨(wrap64 (x6_1 + (rd l0_0 x8_1))), (x7_1), (wrap64 (x8_1 + 1)), (by first | rfl | (simp; done) | (simp [*]; done)), (by first | rfl | (simp; done) | (simp [*]; done)), (by first | rfl | (simp; done) | (simp [*]; done)), H', ⟨by have := HK1.out; omega⟩, ⟨by (with_reducible repeat (first | refine blk_drewN ?_ _ | refine blk_drew ?_ | refine blk_alloc ?_ _)); exact BK239.out⟩, ⟨by repeat (first | (with_reducible first | exact HB.out | apply below_alloc | apply pw_below_drewN | apply below_drew1 | refine below_set ?_ GE239.out) | exact HB.out)⟩⟩
      ·
       rw [if_neg c7] at H
       exact absurd H (by simp)
     ·
      rw [if_neg c6] at H
      have c6b0 : ((rd l0_1 x8_1) == a1) = false := beq_eq_false_iff_ne.mpr c6
      have c6b1 : ((rd l0_1 x8_1) != a1) = true := bne_iff_ne.mpr c6
      by_cases c11 : (rd l0_1 x8_1) = (wrap64 (-a1))
      ·
       rw [if_pos c11] at H
       have c11b0 : ((rd l0_1 x8_1) == (wrap64 (-a1))) = true := beq_iff_eq.mpr c11
       have c11b1 : ((rd l0_1 x8_1) != (wrap64 (-a1))) = false := bne_eq_false_iff_eq.mpr c11
       clear c11
       by_cases c12 : x8_1 < (l0_0.length : Int)
       ·
        rw [if_pos c12] at H
        have c12b0 : decide (x8_1 < (l0_0.length : Int)) = true := decide_eq_true c12
        clear c12
        have H' := Aside0.mk H
        clear H
        have hcz13_0 : wr.cell? ⟨gb239, 0, none⟩ = some (.slice A0_0 l0_0.length c0_0) := (blk_cell BK239.out 0).trans rfl
        have hcz13_1 : wr.cell? ⟨gb239, 1, none⟩ = some (.slice A0_1 l0_1.length c0_1) := (blk_cell BK239.out 1).trans rfl
        have hcz13_2 : wr.cell? ⟨gb239, 2, none⟩ = some (.int .i64 a0_2) := (blk_cell BK239.out 2).trans rfl
        have hfz13_0 := blk_frozen BK239.out 0
        have hfz13_1 := blk_frozen BK239.out 1
        have hfz13_2 := blk_frozen BK239.out 2
        have p240 : 0 ≤ (x8_1 : Int) := of_decide_eq_true (by first | (with_reducible assumption) | assumption)
        have q240 : x8_1 < (l0_1.length : Int) := of_decide_eq_true (by first | (with_reducible assumption) | assumption)
        obtain ⟨ad240, e240, hx240_0⟩ := Kd.at_int HR0_1.out x8_1 p240 q240
        cases e240
        replace hx240_0 := (HB.out.cell (World.block_lt_of_cell? w _ hx240_0)).trans hx240_0
        replace p240 := eq_true p240
        replace q240 := eq_true q240
        have p244 : 0 ≤ (x8_1 : Int) := of_decide_eq_true (by first | (with_reducible assumption) | assumption)
        have q244 : x8_1 < (l0_1.length : Int) := of_decide_eq_true (by first | (with_reducible assumption) | assumption)
        obtain ⟨ad244, e244, hx244_0⟩ := Kd.at_int HR0_1.out x8_1 p244 q244
        obtain rfl : ad240 = ad244 := (by injection e244)
        replace hx244_0 := (HB.out.cell (World.block_lt_of_cell? w _ hx244_0)).trans hx244_0
        replace p244 := eq_true p244
        replace q244 := eq_true q244
        have p245 : 0 ≤ (x8_1 : Int) := of_decide_eq_true (by first | (with_reducible assumption) | assumption)
        have q245 : x8_1 < (l0_0.length : Int) := of_decide_eq_true (by first | (with_reducible assumption) | assumption)
        obtain ⟨ad245, e245, hx245_0⟩ := Kd.at_int HR0_0.out x8_1 p245 q245
        cases e245
        replace hx245_0 := (HB.out.cell (World.block_lt_of_cell? w _ hx245_0)).trans hx245_0
        replace p245 := eq_true p245
        replace q245 := eq_true q245
        go_wp2
        go_roundg k1
        case measure => have := HK1.out; omega
        case rel => exact ⟨(x6_1), (wrap64 (x7_1 + (rd l0_0 x8_1))), (wrap64 (x8_1 + 1)), (by first | rfl | (simp; done) | (simp [*]; done)), (by first | rfl | (simp; done) | (simp [*]; done)), (by first | rfl | (simp; done) | (simp [*]; done)), H', ⟨by have := HK1.out; omega⟩, ⟨by (with_reducible repeat (first | refine blk_drewN ?_ _ | refine blk_drew ?_ | refine blk_alloc ?_ _)); exact BK239.out⟩, ⟨by repeat (first | (with_reducible first | exact HB.out | apply below_alloc | apply pw_below_drewN | apply below_drew1 | refine below_set ?_ GE239.out) | exact HB.out)⟩⟩
       ·
        rw [if_neg c12] at H
        exact absurd H (by simp)
      ·
       rw [if_neg c11] at H
       have c11b0 : ((rd l0_1 x8_1) == (wrap64 (-a1))) = false := beq_eq_false_iff_ne.mpr c11
       have c11b1 : ((rd l0_1 x8_1) != (wrap64 (-a1))) = true := bne_iff_ne.mpr c11
       have H' := Aside0.mk H
       clear H
       have hcz14_0 : wr.cell? ⟨gb239, 0, none⟩ = some (.slice A0_0 l0_0.length c0_0) := (blk_cell BK239.out 0).trans rfl
       have hcz14_1 : wr.cell? ⟨gb239, 1, none⟩ = some (.slice A0_1 l0_1.length c0_1) := (blk_cell BK239.out 1).trans rfl
       have hcz14_2 : wr.cell? ⟨gb239, 2, none⟩ = some (.int .i64 a0_2) := (blk_cell BK239.out 2).trans rfl
       have hfz14_0 := blk_frozen BK239.out 0
       have hfz14_1 := blk_frozen BK239.out 1
       have hfz14_2 := blk_frozen BK239.out 2
       have p240 : 0 ≤ (x8_1 : Int) := of_decide_eq_true (by first | (with_reducible assumption) | assumption)
       have q240 : x8_1 < (l0_1.length : Int) := of_decide_eq_true (by first | (with_reducible assumption) | assumption)
       obtain ⟨ad240, e240, hx240_0⟩ := Kd.at_int HR0_1.out x8_1 p240 q240
       cases e240
       replace hx240_0 := (HB.out.cell (World.block_lt_of_cell? w _ hx240_0)).trans hx240_0
       replace p240 := eq_true p240
       replace q240 := eq_true q240
       have p244 : 0 ≤ (x8_1 : Int) := of_decide_eq_true (by first | (with_reducible assumption) | assumption)
       have q244 : x8_1 < (l0_1.length : Int) := of_decide_eq_true (by first | (with_reducible assumption) | assumption)
       obtain ⟨ad244, e244, hx244_0⟩ := Kd.at_int HR0_1.out x8_1 p244 q244
       obtain rfl : ad240 = ad244 := (by injection e244)
       replace hx244_0 := (HB.out.cell (World.block_lt_of_cell? w _ hx244_0)).trans hx244_0
       replace p244 := eq_true p244
       replace q244 := eq_true q244
       go_wp2
       go_roundg k1
       case measure => have := HK1.out; omega
       case rel => exact ⟨(x6_1), (x7_1), (wrap64 (x8_1 + 1)), (by first | rfl | (simp; done) | (simp [*]; done)), (by first | rfl | (simp; done) | (simp [*]; done)), (by first | rfl | (simp; done) | (simp [*]; done)), H', ⟨by have := HK1.out; omega⟩, ⟨by (with_reducible repeat (first | refine blk_drewN ?_ _ | refine blk_drew ?_ | refine blk_alloc ?_ _)); exact BK239.out⟩, ⟨by repeat (first | (with_reducible first | exact HB.out | apply below_alloc | apply pw_below_drewN | apply below_drew1 | refine below_set ?_ GE239.out) | exact HB.out)⟩⟩
    ·
     rw [if_neg c5] at H
     exact absurd H (by simp)
   ·
    rw [if_neg c4] at H
    have c4b0 : decide (x8_1 < (l0_1.length : Int)) = false := decide_eq_false c4
    clear c4
    simp only [Option.some.injEq, Prod.mk.injEq] at H
    obtain ⟨rfl, rfl⟩ := H
    have hcz15_0 : wr.cell? ⟨gb239, 0, none⟩ = some (.slice A0_0 l0_0.length c0_0) := (blk_cell BK239.out 0).trans rfl
    have hcz15_1 : wr.cell? ⟨gb239, 1, none⟩ = some (.slice A0_1 l0_1.length c0_1) := (blk_cell BK239.out 1).trans rfl
    have hcz15_2 : wr.cell? ⟨gb239, 2, none⟩ = some (.int .i64 a0_2) := (blk_cell BK239.out 2).trans rfl
    have hfz15_0 := blk_frozen BK239.out 0
    have hfz15_1 := blk_frozen BK239.out 1
    have hfz15_2 := blk_frozen BK239.out 2
    go_wp2
    go_ret2
    exact ⟨by first | rfl | (simp [errW_none, errW_some] <;> rfl) | (simp [*, errW_none, errW_some] <;> rfl), by repeat (first | (with_reducible first | exact HB.out | apply below_alloc | apply pw_below_drewN | apply below_drew1 | refine below_set ?_ GE239.out) | exact HB.out)⟩

end Go.Proofs.Ytmcljhjmmipagaa.PL
