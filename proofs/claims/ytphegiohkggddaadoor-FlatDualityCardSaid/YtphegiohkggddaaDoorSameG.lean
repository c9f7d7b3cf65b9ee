/- flat.Same answers what 'eqT' says; the conditions stand in each statement. -/
import Derived.Test.YtphegiohkggddaaDoorKeptG
namespace Go.Proofs.YtphegiohkggddaaDoor.PF
open Go.RowKit Go.Proofs.YtphegiohkggddaaDoorW.PrintWords Go.Proofs.YtphegiohkggddaaDoorW.PrintLast Go.Proofs.YtphegiohkggddaaDoorW.PrintMore
set_option linter.unusedVariables false
set_option linter.unusedSimpArgs false

mutual
/-- Structural equality, as flat.Same finds it. -/
def eqT : S24 → S24 → Bool
  | ⟨a, b, c, l⟩, ⟨a', b', c', l'⟩ => if a = a' then (if b = b' then (if c = c' then (if l.length = l'.length then eqL l l' else false) else false) else false) else false
def eqL : List S24 → List S24 → Bool
  | [], _ => true
  | _ :: _, [] => true
  | x :: l, y :: l' => if eqT x y = true then eqL l l' else false
end
theorem eqL_cons (x y : S24) (l l' : List S24) : eqL (x :: l) (y :: l') = if eqT x y = true then eqL l l' else false := by rw [eqL]
theorem eqL_nil (l' : List S24) : eqL [] l' = true := by rw [eqL]
theorem eqT_eq (a b c : Int) (l : List S24) (y : S24) : eqT ⟨a, b, c, l⟩ y = if a = y.f0 then (if b = y.f1 then (if c = y.f2 then (if l.length = y.f3.length then eqL l y.f3 else false) else false) else false) else false := by
  obtain ⟨a', b', c', l'⟩ := y
  rw [eqT]

theorem eg27 : ∀ args w, (callFunc 27 args).run Tryd.prog w = .ok (.enter 27 args) w := enters_of Tryd.func27 (by kernel_rfl) rfl

/-- The claim, at one tree. -/
def SameAt (t : S24) : Prop :=
  ∀ (u : S24) (A0 : Option Addr) (c0 : Nat) (A1 : Option Addr) (c1 : Nat) (w : World), Kd.C k24 w A0 t.f3.length t.f3 → t.f3.length ≤ c0 → Kd.C k24 w A1 u.f3.length u.f3 → u.f3.length ≤ c1 →
    Calls Tryd.prog 27 #[.agg #[.int .i64 t.f0, .int .i64 t.f1, .int .i64 t.f2, .slice A0 t.f3.length c0], .agg #[.int .i64 u.f0, .int .i64 u.f1, .int .i64 u.f2, .slice A1 u.f3.length c1]] w fun e w' => e = .returned (.bool (eqT t u)) ∧ Below w.heap.size w w'

theorem four_far {w2 : World} {gb g : Nat} {o : Obj} (a b c d : Value) (h : w2.heap[g]? = some o) (hne : g ≠ gb) : ((((w2.setCell ⟨gb, 0, none⟩ a).setCell ⟨gb, 1, none⟩ b).setCell ⟨gb, 2, none⟩ c).setCell ⟨gb, 3, none⟩ d).heap[g]? = some o := by
  rw [Below.heap_setCell _ _ _ _ hne, Below.heap_setCell _ _ _ _ hne, Below.heap_setCell _ _ _ _ hne, Below.heap_setCell _ _ _ _ hne]
  exact h

set_option maxHeartbeats 4000000 in
theorem EqualFunc_calls (A0 : Option Addr) (c0 : Nat) (A1 : Option Addr) (c1 : Nat) (xs ys : List S24) (w : World) (hC0 : Kd.C k24 w A0 xs.length xs) (hC1 : Kd.C k24 w A1 ys.length ys) (ih : ∀ x ∈ xs, SameAt x) :
    Calls Tryd.prog 39 #[.slice A0 xs.length c0, .slice A1 ys.length c1, .func (.func 27) #[] #[]] w fun e w' => e = .returned (.bool (if xs.length = ys.length then eqL xs ys else false)) ∧ Below w.heap.size w w' := by
  have hu24 := Tryd.underlying24
  have hbig0 := hC0.2.1
  have hbig1 := hC1.2.1
  have H0 := Lib.hid hC0
  have H1 := Lib.hid hC1
  have IH := Lib.hid ih
  clear hC0 hC1 ih
  by_cases hl : xs.length = ys.length
  · rw [if_pos hl]
    have hlz : ((xs.length : Int) != (ys.length : Int)) = false := bne_eq_false_iff_eq.2 (by omega)
    have HL := Lib.hid hl
    clear hl
    go_enter Tryd.func39, Tryd.ntmps39
    go_wp2
    go_loopg [17] xs.length (fun gg s17 wr => ∃ kk : Nat, kk ≤ xs.length ∧ xs.length - kk ≤ gg ∧ s17 = .int .i64 kk ∧ Aside0 (Below w.heap.size w wr) ∧ Aside0 (eqL xs ys = eqL (xs.drop kk) (ys.drop kk)))
    case atStart => exact ⟨0, Nat.zero_le _, by omega, rfl, ⟨Below.refl _ _⟩, ⟨by simp⟩⟩
    case round =>
      obtain ⟨kk, hkk, hg, rfl, HB, HA⟩ := hrel
      by_cases hlt : kk < xs.length
      · have hltz : (kk : Int) < (xs.length : Int) := by omega
        have hlt2 : kk < ys.length := by have := HL.out; omega
        have hltz2 : (kk : Int) < (ys.length : Int) := by omega
        have hd := drop_rd hlt
        have hd2 := drop_rd hlt2
        have hm := rd_mem hlt
        obtain ⟨ad, A3, c3, rfl, hx0, hx1, hx2, hx3, hl3, hi3⟩ := at_T24 H0.out (kk : Int) (by omega) hltz
        obtain ⟨ad2, A4, c4, rfl, hy0, hy1, hy2, hy3, hl4, hi4⟩ := at_T24 H1.out (kk : Int) (by omega) hltz2
        have HX0 := (Below.cell HB.out (World.block_lt_of_cell? w _ hx0)).trans hx0
        have HX1 := (Below.cell HB.out (World.block_lt_of_cell? w _ hx1)).trans hx1
        have HX2 := (Below.cell HB.out (World.block_lt_of_cell? w _ hx2)).trans hx2
        have HX3 := (Below.cell HB.out (World.block_lt_of_cell? w _ hx3)).trans hx3
        rw [Int.toNat_natCast] at HX0 HX1 HX2 HX3 hy0 hy1 hy2 hy3
        clear hx0 hx1 hx2 hx3
        generalize rd_T24 xs (kk : Int) = x at HX0 HX1 HX2 HX3 hd hm hl3 hi3
        generalize rd_T24 ys (kk : Int) = y at hy0 hy1 hy2 hy3 hd2 hl4 hi4
        have HA2 := HA.out
        rw [hd, hd2, eqL_cons] at HA2
        have hB2 : Below w.heap.size w (wr.alloc (.cells #[.int .i64 x.f0, .int .i64 x.f1, .int .i64 x.f2, .slice A3 x.f3.length c3] 24)) := HB.out.alloc HB.out.size _
        have HB3 := Lib.hid (show Below w.heap.size w ((wr.alloc (.cells #[.int .i64 x.f0, .int .i64 x.f1, .int .i64 x.f2, .slice A3 x.f3.length c3] 24)).alloc (.cells #[.int .i64 y.f0, .int .i64 y.f1, .int .i64 y.f2, .slice A4 y.f3.length c4] 24)) from hB2.alloc hB2.size _)
        have HY0 := (Below.cell hB2 (World.block_lt_of_cell? w _ hy0)).trans hy0
        have HY1 := (Below.cell hB2 (World.block_lt_of_cell? w _ hy1)).trans hy1
        have HY2 := (Below.cell hB2 (World.block_lt_of_cell? w _ hy2)).trans hy2
        have HY3 := (Below.cell hB2 (World.block_lt_of_cell? w _ hy3)).trans hy3
        clear hB2
        have HS := Lib.hid (IH.out x hm)
        have HI := Lib.hid hi3
        have HJ := Lib.hid hi4
        have HM := Lib.hid hl3
        have HN := Lib.hid hl4
        clear HA hd hd2 hm hl3 hi3 hl4 hi4 hy0 hy1 hy2 hy3
        cases hq : eqT x y with
        | true =>
          rw [if_pos hq] at HA2
          have HE := Lib.hid hq
          have HQ := Lib.hid HA2
          clear HA2 hq
          go_wp2_with fail
          refine (HS.out y A3 c3 A4 c4 _ (Kd.C_below HI.out HB3.out) HM.out (Kd.C_below HJ.out HB3.out) HN.out).mono ?_
          rintro e w6 ⟨rfl, hb6⟩
          rw [HE.out]
          have HB6 := Aside0.mk (below_step HB3.out hb6)
          clear hb6 HB3
          go_wp2
          go_roundg (xs.length - (kk + 1))
          case measure => omega
          case rel => exact ⟨kk + 1, by omega, by omega, by go_num, ⟨HB6.out⟩, ⟨HQ.out⟩⟩
        | false =>
          rw [if_neg (by rw [hq]; simp)] at HA2
          have HE := Lib.hid hq
          have HQ := Lib.hid HA2
          clear HA2 hq
          go_wp2_with fail
          refine (HS.out y A3 c3 A4 c4 _ (Kd.C_below HI.out HB3.out) HM.out (Kd.C_below HJ.out HB3.out) HN.out).mono ?_
          rintro e w6 ⟨rfl, hb6⟩
          rw [HE.out]
          have HB6 := Aside0.mk (below_step HB3.out hb6)
          clear hb6 HB3
          go_wp2
          go_ret
          exact ⟨by rw [HQ.out]; rfl, HB6.out⟩
      · have hltz : ¬ (kk : Int) < (xs.length : Int) := by omega
        go_wp2
        go_ret
        exact ⟨by rw [HA.out, List.drop_of_length_le (by omega), eqL_nil]; rfl, HB.out⟩
  · rw [if_neg hl]
    have hlz : ((xs.length : Int) != (ys.length : Int)) = true := bne_iff_ne.2 (by omega)
    have hl2 : (xs.length == ys.length) = false := by simp [hl]
    clear hl
    go_enter Tryd.func39, Tryd.ntmps39
    go_wp2
    go_ret
    exact ⟨rfl, Below.refl _ _⟩

set_option maxHeartbeats 4000000 in
theorem same_at : ∀ t, SameAt t := by
  refine S24_ind fun a b c l ih => ?_
  intro u A0 c0 A1 c1 w hC0 hc0 hC1 hc1
  rw [eqT_eq]
  obtain ⟨a', b', c', l'⟩ := u
  replace hC0 : Kd.C k24 w A0 l.length l := hC0
  replace hC1 : Kd.C k24 w A1 l'.length l' := hC1
  replace hc0 : l.length ≤ c0 := hc0
  replace hc1 : l'.length ≤ c1 := hc1
  show Calls Tryd.prog 27 #[.agg #[.int .i64 a, .int .i64 b, .int .i64 c, .slice A0 l.length c0], .agg #[.int .i64 a', .int .i64 b', .int .i64 c', .slice A1 l'.length c1]] w fun e w' => e = .returned (.bool (if a = a' then (if b = b' then (if c = c' then (if l.length = l'.length then eqL l l' else false) else false) else false) else false)) ∧ Below w.heap.size w w'
  have hb := ((Below.refl w.heap.size w).alloc (Nat.le_refl _) (.cells #[.int .i64 a, .int .i64 b, .int .i64 c, .slice A0 l.length c0] 24)).alloc (by simp) (.cells #[.int .i64 a', .int .i64 b', .int .i64 c', .slice A1 l'.length c1] 24)
  have k := EqualFunc_calls A0 c0 A1 c1 l l' _ (Kd.C_below hC0 hb) (Kd.C_below hC1 hb) ih
  generalize (if l.length = l'.length then eqL l l' else false) = r at k ⊢
  have hlen := hC0.2.1
  have hlen2 := hC1.2.1
  have hu24 := Tryd.underlying24
  have HB := Lib.hid hb
  clear hb hC0 hC1 ih
  by_cases h1 : a = a'
  · subst h1
    rw [if_pos rfl]
    by_cases h2 : b = b'
    · subst h2
      rw [if_pos rfl]
      by_cases h3 : c = c'
      · subst h3
        rw [if_pos rfl]
        go_enter Tryd.func27, Tryd.ntmps27
        go_wp2_with (go_at_call 39; refine k.mono ?_; rintro e w' ⟨rfl, hb1⟩)
        go_ret
        exact ⟨rfl, HB.out.trans (hb1.mono (by simp; omega))⟩
      · rw [if_neg h3]
        have e3 : (c == c') = false := beq_eq_false_iff_ne.2 h3
        clear k
        go_enter Tryd.func27, Tryd.ntmps27
        go_wp2
        go_ret
        exact ⟨rfl, HB.out⟩
    · rw [if_neg h2]
      have e2 : (b == b') = false := beq_eq_false_iff_ne.2 h2
      clear k
      go_enter Tryd.func27, Tryd.ntmps27
      go_wp2
      go_ret
      exact ⟨rfl, HB.out⟩
  · rw [if_neg h1]
    have e1 : (a == a') = false := beq_eq_false_iff_ne.2 h1
    clear k
    go_enter Tryd.func27, Tryd.ntmps27
    go_wp2
    go_ret
    exact ⟨rfl, HB.out⟩

/-- What flat.Same answers, in the printed form. -/
def flat_Same.f (a b c : Int) (l : List S24) (a' b' c' : Int) (l' : List S24) : Option Bool := some (eqT ⟨a, b, c, l⟩ ⟨a', b', c', l'⟩)
theorem flat_Same.calls (a0_0 : Int) (a0_1 : Int) (a0_2 : Int) (A0_3 : Option Addr) (c0_3 : Nat) (l0_3 : List S24) (a1_0 : Int) (a1_1 : Int) (a1_2 : Int) (A1_3 : Option Addr) (c1_3 : Nat) (l1_3 : List S24) (r : Bool) (w : World) (hr0_3 : Kd.C k24 w A0_3 l0_3.length l0_3) (hc0_3 : l0_3.length ≤ c0_3) (hr1_3 : Kd.C k24 w A1_3 l1_3.length l1_3) (hc1_3 : l1_3.length ≤ c1_3) (h : flat_Same.f a0_0 a0_1 a0_2 l0_3 a1_0 a1_1 a1_2 l1_3 = some r) :
    Calls Tryd.prog 27 #[.agg #[.int .i64 a0_0, .int .i64 a0_1, .int .i64 a0_2, .slice A0_3 l0_3.length c0_3], .agg #[.int .i64 a1_0, .int .i64 a1_1, .int .i64 a1_2, .slice A1_3 l1_3.length c1_3]] w fun e w' => e = .returned (.bool r) ∧ Below w.heap.size w w' := by
  obtain rfl := Option.some.inj h
  exact same_at ⟨a0_0, a0_1, a0_2, l0_3⟩ ⟨a1_0, a1_1, a1_2, l1_3⟩ A0_3 c0_3 A1_3 c1_3 w hr0_3 hc0_3 hr1_3 hc1_3

end Go.Proofs.YtphegiohkggddaaDoor.PF
