/- Lean functions that tell what the Go functions named below answer, and a proof for each that the Go function comes to just that answer; the conditions stand in each statement. -/
import Derived.Test.YtmcljhjmmipagaaPLx0
namespace Go.Proofs.Ytmcljhjmmipagaa.PL
open Go.RowKit Go.Proofs.YtmcljhjmmipagaaW.PrintWords Go.Proofs.YtmcljhjmmipagaaW.PrintLast Go.Proofs.YtmcljhjmmipagaaW.PrintMore
attribute [local go_sem] max2_int min2_int max_two min_two max_three min_three max_four min_four   -- for this text's walks alone
set_option linter.unusedVariables false
set_option linter.unusedSimpArgs false

-- NOT PRINTED: function 9 (chalklinelaw12_LinNormCanonical)

/-! ### chalklinelaw12_agrees: function 32 -/
def chalklinelaw12_agrees.l0 : Nat → List Int → Int → Int → Option (Bool)
 | 0, _, _, _ => none
 | k + 1, x0, x1, x5 => if x5 < (x0.length : Int) then (if 0 ≤ x5 then (if 0 ≤ (IntKind.u64.wrap (wrap64 ((mx (rd x0 x5) (wrap64 (-(rd x0 x5)))) - 1))) then (if (((Go.bits .and .i64 (shr .i64 x1 (IntKind.u64.wrap (wrap64 ((mx (rd x0 x5) (wrap64 (-(rd x0 x5)))) - 1)))) 1) == 1) != (decide ((rd x0 x5) > 0))) = true then (some false) else (chalklinelaw12_agrees.l0 k x0 x1 (wrap64 (x5 + 1)))) else (none)) else (none)) else (some true)
def chalklinelaw12_agrees.f (k : Nat) (l0 : List Int) (a1 : Int) : Option (Bool) := chalklinelaw12_agrees.l0 k l0 a1 0
set_option maxHeartbeats 8000000 in
set_option maxRecDepth 100000 in
theorem chalklinelaw12_agrees.calls (k : Nat) (A0 : Option Addr) (c0 : Nat) (l0 : List Int) (a1 : Int) (r : Bool) (w : World) (hr0 : Kd.C (Kd.int .i64) w A0 l0.length l0) (hc0 : l0.length ≤ c0) (h : chalklinelaw12_agrees.f k l0 a1 = some r) :
  Calls Try.prog 32 #[.slice A0 l0.length c0, .int .i64 a1] w fun e w' => e = .returned (.bool r) ∧ Below w.heap.size w w' := by
 have HR0 := Aside0.mk hr0
 have HC0 := Aside0.mk hc0
 clear hr0 hc0
 have HB := Aside0.mk (Below.refl w.heap.size w)
 have H : (chalklinelaw12_agrees.l0 k l0 a1 0) = some r := h
 clear h
 have H' := Aside0.mk H
 clear H
 go_enter Try.func32, Try.ntmps32
 go_wp2
 repeat (go_quiet (fail); try go_wp2)
 go_loopg [5] k (fun kq v5 w' => ∃ (x5_1 : Int), v5 = .int .i64 x5_1 ∧ Aside0 (chalklinelaw12_agrees.l0 kq l0 a1 x5_1 = some r) ∧ Aside0 (kq ≤ k) ∧ Aside0 (Below w.heap.size w w'))
 case atStart => exact ⟨(0), (by first | rfl | (simp; done) | (simp [*]; done)), H', ⟨Nat.le_refl _⟩, ⟨by repeat (first | (with_reducible first | exact HB.out | apply below_alloc | apply pw_below_drewN | apply below_drew1) | exact HB.out)⟩⟩
 case round =>
  clear H'
  obtain ⟨x5_1, rfl, HA, HK1, HB⟩ := hrel
  cases gk with
  | zero => exact absurd HA.out (by simp [chalklinelaw12_agrees.l0])
  | succ k1 =>
   have H := HA.out
   clear HA
   simp only [chalklinelaw12_agrees.l0] at H
   by_cases c3 : x5_1 < (l0.length : Int)
   ·
    rw [if_pos c3] at H
    have c3b0 : decide (x5_1 < (l0.length : Int)) = true := decide_eq_true c3
    clear c3
    by_cases c4 : 0 ≤ x5_1
    ·
     rw [if_pos c4] at H
     have c4b0 : decide (0 ≤ x5_1) = true := decide_eq_true c4
     clear c4
     obtain ⟨ji5, hji5⟩ : ∃ j_ : Int, (mx (rd l0 x5_1) (wrap64 (-(rd l0 x5_1)))) = j_ := ⟨_, rfl⟩
     replace H : (if 0 ≤ (IntKind.u64.wrap (wrap64 ((ji5) - 1))) then (if (((Go.bits .and .i64 (shr .i64 a1 (IntKind.u64.wrap (wrap64 ((ji5) - 1)))) 1) == 1) != (decide ((rd l0 x5_1) > 0))) = true then (some false) else (chalklinelaw12_agrees.l0 k1 l0 a1 (wrap64 (x5_1 + 1)))) else (none)) = some r := by first | (rw [hji5] at H; exact H) | (simp only [hji5] at H ⊢; exact H)
     have hji5_ : (if (rd l0 x5_1) < (wrap64 (-(rd l0 x5_1))) then (wrap64 (-(rd l0 x5_1))) else (rd l0 x5_1)) = ji5 := hji5
     obtain ⟨ji6, hji6⟩ : ∃ j_ : Int, (IntKind.u64.wrap (wrap64 ((ji5) - 1))) = j_ := ⟨_, rfl⟩
     replace H : (if 0 ≤ (ji6) then (if (((Go.bits .and .i64 (shr .i64 a1 (ji6)) 1) == 1) != (decide ((rd l0 x5_1) > 0))) = true then (some false) else (chalklinelaw12_agrees.l0 k1 l0 a1 (wrap64 (x5_1 + 1)))) else (none)) = some r := by first | (rw [hji6] at H; exact H) | (simp only [hji6] at H ⊢; exact H)
     by_cases c7 : 0 ≤ (ji6)
     ·
      rw [if_pos c7] at H
      have c7b0 := eq_true c7
      have c7b1 : decide (0 ≤ (ji6)) = true := decide_eq_true c7
      clear c7
      obtain ⟨ji8, hji8⟩ : ∃ j_ : Int, (shr .i64 a1 (ji6)) = j_ := ⟨_, rfl⟩
      replace H : (if (((Go.bits .and .i64 (ji8) 1) == 1) != (decide ((rd l0 x5_1) > 0))) = true then (some false) else (chalklinelaw12_agrees.l0 k1 l0 a1 (wrap64 (x5_1 + 1)))) = some r := by first | (rw [hji8] at H; exact H) | (simp only [hji8] at H ⊢; exact H)
      have hji8_ : (a1 / 2 ^ min (ji6).toNat 64) = ji8 := hji8
      have hji8z : (ji6) ≤ 64 → (a1 / 2 ^ (ji6).toNat) = ji8 := shr_small hji8
      by_cases c9 : (((Go.bits .and .i64 (ji8) 1) == 1) != (decide ((rd l0 x5_1) > 0))) = true
      ·
       rw [if_pos c9] at H
       have c9b0 : (((Go.bits .and .i64 (ji8) 1) == 1) != (decide ((rd l0 x5_1) > 0))) = true := c9
       (try (have c9b1 : decide (((Go.bits .and .i64 (ji8) 1) == 1) = (decide ((rd l0 x5_1) > 0))) = false := by simpa using c9))
       (try (have c9b2 : (((Go.bits .and .i64 (ji8) 1) == 1) == (decide ((rd l0 x5_1) > 0))) = false := by simpa using c9))
       (try (have c9b3 : ¬ (((Go.bits .and .i64 (ji8) 1) == 1) = (decide ((rd l0 x5_1) > 0))) := by simpa using c9))
       clear c9
       obtain rfl := Option.some.inj H
       have p489 : 0 ≤ (x5_1 : Int) := of_decide_eq_true (by first | (with_reducible assumption) | assumption)
       have q489 : x5_1 < (l0.length : Int) := of_decide_eq_true (by first | (with_reducible assumption) | assumption)
       obtain ⟨ad489, e489, hx489_0⟩ := Kd.at_int HR0.out x5_1 p489 q489
       cases e489
       replace hx489_0 := (HB.out.cell (World.block_lt_of_cell? w _ hx489_0)).trans hx489_0
       replace p489 := eq_true p489
       replace q489 := eq_true q489
       have p490 : 0 ≤ (x5_1 : Int) := of_decide_eq_true (by first | (with_reducible assumption) | assumption)
       have q490 : x5_1 < (l0.length : Int) := of_decide_eq_true (by first | (with_reducible assumption) | assumption)
       obtain ⟨ad490, e490, hx490_0⟩ := Kd.at_int HR0.out x5_1 p490 q490
       obtain rfl : ad489 = ad490 := (by injection e490)
       replace hx490_0 := (HB.out.cell (World.block_lt_of_cell? w _ hx490_0)).trans hx490_0
       replace p490 := eq_true p490
       replace q490 := eq_true q490
       have p491 : 0 ≤ (x5_1 : Int) := of_decide_eq_true (by first | (with_reducible assumption) | assumption)
       have q491 : x5_1 < (l0.length : Int) := of_decide_eq_true (by first | (with_reducible assumption) | assumption)
       obtain ⟨ad491, e491, hx491_0⟩ := Kd.at_int HR0.out x5_1 p491 q491
       obtain rfl : ad489 = ad491 := (by injection e491)
       replace hx491_0 := (HB.out.cell (World.block_lt_of_cell? w _ hx491_0)).trans hx491_0
       replace p491 := eq_true p491
       replace q491 := eq_true q491
       go_wp2
       repeat (go_quiet (fail); try go_wp2)
       go_ret
       exact ⟨by first | rfl | (simp [errW_none, errW_some] <;> rfl) | (simp only [← hji5, ← hji6, ← hji8]; first | rfl | (simp [errW_none, errW_some] <;> rfl)) | (simp [*, errW_none, errW_some] <;> rfl), by repeat (first | (with_reducible first | exact HB.out | apply below_alloc | apply pw_below_drewN | apply below_drew1) | exact HB.out)⟩
      ·
       rw [if_neg c9] at H
       have c9b0 : (((Go.bits .and .i64 (ji8) 1) == 1) != (decide ((rd l0 x5_1) > 0))) = false := by simpa using c9
       (try (have c9b1 : decide (((Go.bits .and .i64 (ji8) 1) == 1) = (decide ((rd l0 x5_1) > 0))) = true := by simpa using c9))
       (try (have c9b2 : (((Go.bits .and .i64 (ji8) 1) == 1) == (decide ((rd l0 x5_1) > 0))) = true := by simpa using c9))
       clear c9
       have H' := Aside0.mk H
       clear H
       have p489 : 0 ≤ (x5_1 : Int) := of_decide_eq_true (by first | (with_reducible assumption) | assumption)
       have q489 : x5_1 < (l0.length : Int) := of_decide_eq_true (by first | (with_reducible assumption) | assumption)
       obtain ⟨ad489, e489, hx489_0⟩ := Kd.at_int HR0.out x5_1 p489 q489
       cases e489
       replace hx489_0 := (HB.out.cell (World.block_lt_of_cell? w _ hx489_0)).trans hx489_0
       replace p489 := eq_true p489
       replace q489 := eq_true q489
       have p490 : 0 ≤ (x5_1 : Int) := of_decide_eq_true (by first | (with_reducible assumption) | assumption)
       have q490 : x5_1 < (l0.length : Int) := of_decide_eq_true (by first | (with_reducible assumption) | assumption)
       obtain ⟨ad490, e490, hx490_0⟩ := Kd.at_int HR0.out x5_1 p490 q490
       obtain rfl : ad489 = ad490 := (by injection e490)
       replace hx490_0 := (HB.out.cell (World.block_lt_of_cell? w _ hx490_0)).trans hx490_0
       replace p490 := eq_true p490
       replace q490 := eq_true q490
       have p491 : 0 ≤ (x5_1 : Int) := of_decide_eq_true (by first | (with_reducible assumption) | assumption)
       have q491 : x5_1 < (l0.length : Int) := of_decide_eq_true (by first | (with_reducible assumption) | assumption)
       obtain ⟨ad491, e491, hx491_0⟩ := Kd.at_int HR0.out x5_1 p491 q491
       obtain rfl : ad489 = ad491 := (by injection e491)
       replace hx491_0 := (HB.out.cell (World.block_lt_of_cell? w _ hx491_0)).trans hx491_0
       replace p491 := eq_true p491
       replace q491 := eq_true q491
       go_wp2
       repeat (go_quiet (fail); try go_wp2)
       go_roundg k1
       case measure => have := HK1.out; omega
       case rel => exact ⟨(wrap64 (x5_1 + 1)), (by first | rfl | (simp; done) | (simp [*]; done)), H', ⟨by have := HK1.out; omega⟩, ⟨by repeat (first | (with_reducible first | exact HB.out | apply below_alloc | apply pw_below_drewN | apply below_drew1) | exact HB.out)⟩⟩
     ·
      rw [if_neg c7] at H
      exact absurd H (by simp)
    ·
     rw [if_neg c4] at H
     exact absurd H (by simp)
   ·
    rw [if_neg c3] at H
    have c3b0 : decide (x5_1 < (l0.length : Int)) = false := decide_eq_false c3
    clear c3
    obtain rfl := Option.some.inj H
    go_wp2
    repeat (go_quiet (fail); try go_wp2)
    go_ret
    exact ⟨by first | rfl | (simp [errW_none, errW_some] <;> rfl) | (simp [*, errW_none, errW_some] <;> rfl), by repeat (first | (with_reducible first | exact HB.out | apply below_alloc | apply pw_below_drewN | apply below_drew1) | exact HB.out)⟩

-- NOT PRINTED: function 10 (chalklinelaw12_LinForceComplete)

-- NOT PRINTED: function 11 (chalklinelaw12_LinAddSound)

end Go.Proofs.Ytmcljhjmmipagaa.PL
