/- flat.Value answers what 'flat_val' says; the conditions stand in each statement. -/
import Derived.Test.YtphegiohkggddaaDoorKeptG
namespace Go.Proofs.YtphegiohkggddaaDoor.PF
open Go.RowKit Go.Proofs.YtphegiohkggddaaDoorW.PrintWords Go.Proofs.YtphegiohkggddaaDoorW.PrintLast Go.Proofs.YtphegiohkggddaaDoorW.PrintMore
set_option linter.unusedVariables false
set_option linter.unusedSimpArgs false

mutual
/-- Every list of the tree is short enough to be copied. -/
def fitB : S24 → Bool
  | ⟨_, _, _, l⟩ => decide (l.length < 2932031007402) && fitsB l
def fitsB : List S24 → Bool
  | [] => true
  | x :: l => fitB x && fitsB l
end
theorem fitsB_mem : ∀ {l : List S24}, fitsB l = true → ∀ x ∈ l, fitB x = true
  | [], _, x, hx => by simp at hx
  | y :: l, h, x, hx => by
    simp only [fitsB, Bool.and_eq_true] at h
    rcases List.mem_cons.1 hx with rfl | hx
    · exact h.1
    · exact fitsB_mem h.2 x hx
theorem fitsB_of : ∀ {l : List S24}, (∀ x ∈ l, fitB x = true) → fitsB l = true
  | [], _ => rfl
  | y :: l, h => by
    simp only [fitsB, Bool.and_eq_true]
    exact ⟨h y (List.mem_cons_self ..), fitsB_of fun x hx => h x (List.mem_cons_of_mem _ hx)⟩

mutual
/-- What flat.Value answers. -/
def flat_val (A : List Bool) : S24 → Bool
  | ⟨a, b, c, l⟩ => if a = 1 then b == 1 else if a = 2 then (if 0 < b then (if b < (A.length : Int) then A.getD b.toNat false else false) else false) else if a = 3 then !(flat_vals A l).any id else if a = 4 then decide (((flat_vals A l).filter id).length = l.length) else if a = 5 then (flat_vals A l).any id else if a = 6 then decide (c ≤ (((flat_vals A l).filter id).length : Int)) else false
def flat_vals (A : List Bool) : List S24 → List Bool
  | [] => []
  | x :: l => flat_val A x :: flat_vals A l
end
theorem flat_vals_eq (A : List Bool) : ∀ l, flat_vals A l = l.map (flat_val A)
  | [] => rfl
  | x :: l => by simp only [flat_vals, List.map_cons, flat_vals_eq A l]
theorem flat_vals_any (A : List Bool) (l : List S24) : (flat_vals A l).any id = l.any (flat_val A) := by
  rw [flat_vals_eq, List.any_map]; rfl
theorem flat_vals_len (A : List Bool) (l : List S24) : ((flat_vals A l).filter id).length = (l.filter (flat_val A)).length := by
  rw [flat_vals_eq, List.filter_map, List.length_map]; rfl
theorem flat_val_eq (A : List Bool) (a b c : Int) (l : List S24) : flat_val A ⟨a, b, c, l⟩ = if a = 1 then b == 1 else if a = 2 then (if 0 < b then (if b < (A.length : Int) then A.getD b.toNat false else false) else false) else if a = 3 then !l.any (flat_val A) else if a = 4 then decide ((l.filter (flat_val A)).length = l.length) else if a = 5 then l.any (flat_val A) else if a = 6 then decide (c ≤ ((l.filter (flat_val A)).length : Int)) else false := by
  simp only [flat_val, flat_vals_any, flat_vals_len]

theorem eg28 : ∀ args w, (callFunc 28 args).run Tryd.prog w = .ok (.enter 28 args) w := enters_of Tryd.func28 (by kernel_rfl) rfl

/-- The claim, at one tree. -/
def ValueAt (A : List Bool) (t : S24) : Prop :=
  ∀ (A0 : Option Addr) (c0 : Nat) (A1 : Option Addr) (c1 : Nat) (w : World), Kd.C k24 w A0 t.f3.length t.f3 → t.f3.length ≤ c0 → Kd.C Kd.bool w A1 A.length A → A.length ≤ c1 → fitB t = true →
    Calls Tryd.prog 12 #[.agg #[.int .i64 t.f0, .int .i64 t.f1, .int .i64 t.f2, .slice A0 t.f3.length c0], .slice A1 A.length c1] w fun e w' => e = .returned (.bool (flat_val A t)) ∧ Below w.heap.size w w'

/-- The closure that Value hands over. -/
theorem is_calls (A : List Bool) (t : S24) (h : ValueAt A t) (A0 : Option Addr) (c0 : Nat) (A1 : Option Addr) (c1 : Nat) (B : Nat) (w : World) (hC : Kd.C k24 w A0 t.f3.length t.f3) (hc : t.f3.length ≤ c0) (hA : Kd.C Kd.bool w A1 A.length A) (hc1 : A.length ≤ c1) (hf : fitB t = true) (hB : w.cell? ⟨B, 0, none⟩ = some (.slice A1 A.length c1)) :
    Calls Tryd.prog 28 #[.agg #[.int .i64 t.f0, .int .i64 t.f1, .int .i64 t.f2, .slice A0 t.f3.length c0], .pointer (some ⟨B, 0, none⟩)] w fun e w' => e = .returned (.bool (flat_val A t)) ∧ Below w.heap.size w w' := by
  have hu24 := Tryd.underlying24
  have hb := (Below.refl w.heap.size w).alloc (Nat.le_refl _) (.cells #[.int .i64 t.f0, .int .i64 t.f1, .int .i64 t.f2, .slice A0 t.f3.length c0] 24)
  have k := h A0 c0 A1 c1 _ (Kd.C_below hC hb) hc (Kd.C_below hA hb) hc1 hf
  have hBl : B < w.heap.size := World.block_lt_of_cell? w _ hB
  have hB2 := (hb.cell (p := ⟨B, 0, none⟩) hBl).trans hB
  have HBx := Lib.hid hb
  clear hb h hC hA hB
  generalize flat_val A t = r at k ⊢
  go_enter Tryd.func28, Tryd.ntmps28
  go_wp2_with (go_at_call 12; refine k.mono ?_; rintro e w' ⟨rfl, hb1⟩)
  go_ret
  exact ⟨rfl, HBx.out.trans (hb1.mono (by simp))⟩

theorem cast_beq (n m : Nat) : ((n : Int) == (m : Int)) = decide (n = m) := by rw [Bool.eq_iff_iff, beq_iff_eq, decide_eq_true_iff]; omega
theorem kept_len (A : List Bool) (A0 : Option Addr) (c0 : Nat) (l : List S24) (B : Nat) (W : World) (hC : Kd.C k24 W A0 l.length l) (hc0 : l.length ≤ c0) (hp : Pred 28 #[.pointer (some ⟨B, 0, none⟩)] (flat_val A) l W) (hf : l.length < 2932031007402) :
    ∀ W', Below W.heap.size W W' → Calls Tryd.prog 30 #[.slice A0 l.length c0, .func (.func 28) #[] #[.pointer (some ⟨B, 0, none⟩)]] W' fun e w' => ∃ Av cv, e = .returned (.slice Av (l.filter (flat_val A)).length cv) ∧ Below W'.heap.size W' w' :=
  fun W' hW => (kept_calls 28 _ (flat_val A) eg28 _ A0 c0 l W' (V_of_C (Kd.C_below hC hW) hc0 _) (hp.below hW) hf).mono (by
    rintro e w' ⟨v, rfl, hN, hb⟩
    obtain ⟨Av, cv, rfl⟩ := Kd.N_slice hN
    exact ⟨Av, cv, rfl, hb⟩)

set_option maxHeartbeats 4000000 in
theorem value_at (A : List Bool) : ∀ t, ValueAt A t := by
  refine S24_ind fun a b c l ih => ?_
  intro A0 c0 A1 c1 w hC hc0 hA hc1 hf
  replace hC : Kd.C k24 w A0 l.length l := hC
  replace hc0 : l.length ≤ c0 := hc0
  show Calls Tryd.prog 12 #[.agg #[.int .i64 a, .int .i64 b, .int .i64 c, .slice A0 l.length c0], .slice A1 A.length c1] w _
  rw [flat_val_eq]
  simp only [fitB, Bool.and_eq_true, decide_eq_true_eq] at hf
  have hb := ((Below.refl w.heap.size w).alloc (Nat.le_refl _) (.cells #[.int .i64 a, .int .i64 b, .int .i64 c, .slice A0 l.length c0] 24)).alloc (by simp) (.cells #[.slice A1 A.length c1] 25)
  have hpred : Pred 28 #[.pointer (some ⟨w.heap.size + 1, 0, none⟩)] (flat_val A) l ((w.alloc (.cells #[.int .i64 a, .int .i64 b, .int .i64 c, .slice A0 l.length c0] 24)).alloc (.cells #[.slice A1 A.length c1] 25)) := by
    intro x w1 A2 c2 hx h1 hc hCx
    refine is_calls A x (ih x hx) A2 c2 A1 c1 (w.heap.size + 1) w1 hCx hc (Kd.C_below (Kd.C_below hA hb) h1) hc1 (fitsB_mem hf.2 x hx) ?_
    rw [h1.cell (by simp)]
    simp
  have hu24 := Tryd.underlying24
  have hlen := hC.2.1
  have hlen2 := hA.2.1
  have HB := Lib.hid hb
  have HA := Lib.hid hA
  have HC := Lib.hid (Kd.C_below hC hb)
  have HP := Lib.hid hpred
  have HF := Lib.hid hf.1
  clear hb hpred hf hC hA ih
  by_cases h1 : a = 1
  · subst h1
    rw [if_pos rfl]
    go_enter Tryd.func12, Tryd.ntmps12
    go_wp2
    go_ret
    exact ⟨rfl, HB.out⟩
  rw [if_neg h1]
  by_cases h2 : a = 2
  · subst h2
    rw [if_pos rfl]
    by_cases h3 : 0 < b
    · rw [if_pos h3]
      by_cases h4 : b < (A.length : Int)
      · rw [if_pos h4]
        obtain ⟨ad, rfl, hx⟩ := Kd.at_bool (Kd.C_below HA.out HB.out) b (by omega) h4
        generalize hr : rdOf false A b = r at hx
        have hr2 : A.getD b.toNat false = r := hr
        rw [hr2]
        clear hr hr2
        go_enter Tryd.func12, Tryd.ntmps12
        go_wp2
        go_ret
        exact ⟨rfl, HB.out⟩
      · rw [if_neg h4]
        go_enter Tryd.func12, Tryd.ntmps12
        go_wp2
        go_ret
        exact ⟨rfl, HB.out⟩
    · rw [if_neg h3]
      go_enter Tryd.func12, Tryd.ntmps12
      go_wp2
      go_ret
      exact ⟨rfl, HB.out⟩
  rw [if_neg h2]
  by_cases h3 : a = 3
  · subst h3
    rw [if_pos rfl]
    have k := ContainsFunc_calls 28 _ (flat_val A) eg28 A0 c0 l _ HC.out HP.out
    generalize l.any (flat_val A) = r at k ⊢
    go_enter Tryd.func12, Tryd.ntmps12
    go_wp2_with (go_at_call 29; refine k.mono ?_; rintro e w' ⟨rfl, hb1⟩)
    go_ret
    exact ⟨rfl, HB.out.trans (hb1.mono (by simp; omega))⟩
  rw [if_neg h3]
  by_cases h4 : a = 4
  · subst h4
    rw [if_pos rfl]
    have K := Lib.hid (kept_len A A0 c0 l _ _ HC.out hc0 HP.out HF.out)
    have hle : (l.filter (flat_val A)).length ≤ l.length := List.length_filter_le _ _
    generalize (l.filter (flat_val A)).length = n at K hle ⊢
    go_enter Tryd.func12, Tryd.ntmps12
    go_wp2
    go_region_held3 (fun w' => w'.cell? ⟨w.heap.size, 3, none⟩ = some (.slice A0 l.length c0)) (first | exact r3 | go_keep) (first | (go_at_call 30; refine (K.out _ (Below.refl _ _).drew).mono ?_; rintro e w' ⟨Av, cv, rfl, hb3⟩; have r3 : w'.cell? ⟨w.heap.size, 3, none⟩ = some (.slice A0 l.length c0) := (hb3.cell (p := ⟨w.heap.size, 3, none⟩) (by simp; omega)).trans (by simp); have hb4 := HB.out.drew.trans (hb3.mono (by simp; omega)); clear hb3; have H4 := Lib.hid hb4; clear hb4))
    go_wp2
    go_ret
    exact ⟨congrArg (fun x => Ending.returned (Value.bool x)) (cast_beq n l.length), H4.out⟩
  rw [if_neg h4]
  by_cases h5 : a = 5
  · subst h5
    rw [if_pos rfl]
    have k := ContainsFunc_calls 28 _ (flat_val A) eg28 A0 c0 l _ HC.out HP.out
    generalize l.any (flat_val A) = r at k ⊢
    go_enter Tryd.func12, Tryd.ntmps12
    go_wp2_with (go_at_call 29; refine k.mono ?_; rintro e w' ⟨rfl, hb1⟩)
    go_ret
    exact ⟨rfl, HB.out.trans (hb1.mono (by simp; omega))⟩
  rw [if_neg h5]
  by_cases h6 : a = 6
  · subst h6
    rw [if_pos rfl]
    have K := Lib.hid (kept_len A A0 c0 l _ _ HC.out hc0 HP.out HF.out)
    have hle : (l.filter (flat_val A)).length ≤ l.length := List.length_filter_le _ _
    generalize (l.filter (flat_val A)).length = n at K hle ⊢
    go_enter Tryd.func12, Tryd.ntmps12
    go_wp2
    go_region_held3 (fun w' => w'.cell? ⟨w.heap.size, 2, none⟩ = some (.int .i64 c) ∧ w'.cell? ⟨w.heap.size, 3, none⟩ = some (.slice A0 l.length c0)) (first | exact ⟨r3, r4⟩ | go_keep) (first | (go_at_call 30; refine (K.out _ (Below.refl _ _).drew).mono ?_; rintro e w' ⟨Av, cv, rfl, hb3⟩; have r3 : w'.cell? ⟨w.heap.size, 2, none⟩ = some (.int .i64 c) := (hb3.cell (p := ⟨w.heap.size, 2, none⟩) (by simp; omega)).trans (by simp); have r4 : w'.cell? ⟨w.heap.size, 3, none⟩ = some (.slice A0 l.length c0) := (hb3.cell (p := ⟨w.heap.size, 3, none⟩) (by simp; omega)).trans (by simp); have hb4 := HB.out.drew.trans (hb3.mono (by simp; omega)); clear hb3; have H4 := Lib.hid hb4; clear hb4))
    go_wp2
    go_ret
    exact ⟨by simp, H4.out⟩
  rw [if_neg h6]
  go_enter Tryd.func12, Tryd.ntmps12
  go_wp2
  go_ret
  exact ⟨rfl, HB.out⟩

/-- What flat.Value answers, in the printed form. -/
def flat_Value.f (a b c : Int) (l : List S24) (A : List Bool) : Option Bool := if fitB ⟨a, b, c, l⟩ = true then some (flat_val A ⟨a, b, c, l⟩) else none
theorem flat_Value.calls (a0_0 : Int) (a0_1 : Int) (a0_2 : Int) (A0_3 : Option Addr) (c0_3 : Nat) (l0_3 : List S24) (A1 : Option Addr) (c1 : Nat) (l1 : List Bool) (r : Bool) (w : World) (hr0_3 : Kd.C k24 w A0_3 l0_3.length l0_3) (hc0_3 : l0_3.length ≤ c0_3) (hr1 : Kd.C Kd.bool w A1 l1.length l1) (hc1 : l1.length ≤ c1) (h : flat_Value.f a0_0 a0_1 a0_2 l0_3 l1 = some r) :
    Calls Tryd.prog 12 #[.agg #[.int .i64 a0_0, .int .i64 a0_1, .int .i64 a0_2, .slice A0_3 l0_3.length c0_3], .slice A1 l1.length c1] w fun e w' => e = .returned (.bool r) ∧ Below w.heap.size w w' := by
  unfold flat_Value.f at h
  split at h
  · rename_i hf
    obtain rfl := Option.some.inj h
    exact value_at l1 ⟨a0_0, a0_1, a0_2, l0_3⟩ A0_3 c0_3 A1 c1 w hr0_3 hc0_3 hr1 hc1 hf
  · cases h

end Go.Proofs.YtphegiohkggddaaDoor.PF
