/- Rounds enough: what the printed functions with rounds tell in the end; the weigher, the reference's Value. No program in sight. -/
import Derived.Test.YtphegiohkggddaaDoorPFa
import Derived.Test.YtphegiohkggddaaDoorValueG
import Derived.Test.YtphegiohkggddaaDoorPartsG
namespace Go.Proofs.YtphegiohkggddaaDoor.PF
open Go.RowKit Go.Proofs.YtphegiohkggddaaDoorW.PrintWords Go.Proofs.YtphegiohkggddaaDoorW.PrintLast Go.Proofs.YtphegiohkggddaaDoorW.PrintMore
set_option linter.unusedVariables false
set_option linter.unusedSimpArgs false

/-- With rounds enough F tells v. -/
def Ev {α : Type} (F : Nat → Option α) (v : α) : Prop := ∃ k0, ∀ k, k0 ≤ k → F k = some v
namespace Ev
variable {α β : Type}
theorem of (F : Nat → Option α) (v : α) (h : ∀ k, F k = some v) : Ev F v := ⟨0, fun k _ => h k⟩
theorem pure (v : α) : Ev (fun _ => some v) v := ⟨0, fun _ _ => rfl⟩
theorem succ {F : Nat → Option α} {v : α} (h : Ev (fun k => F (k + 1)) v) : Ev F v := by
  obtain ⟨k0, h⟩ := h
  refine ⟨k0 + 1, fun k hk => ?_⟩
  obtain ⟨m, rfl⟩ : ∃ m, k = m + 1 := ⟨k - 1, by omega⟩
  exact h m (by omega)
theorem congr {F G : Nat → Option α} {v : α} (h : Ev G v) (e : ∀ k, F k = G k) : Ev F v := by
  obtain ⟨k0, h⟩ := h
  exact ⟨k0, fun k hk => (e k).trans (h k hk)⟩
theorem bind {F : Nat → Option α} {G : Nat → α → Option β} {v : α} {r : β} (h : Ev F v) (hg : Ev (fun k => G k v) r) : Ev (fun k => (F k).bind (G k)) r := by
  obtain ⟨k0, h⟩ := h
  obtain ⟨k1, hg⟩ := hg
  refine ⟨max k0 k1, fun k hk => ?_⟩
  show (F k).bind (G k) = some r
  rw [h k (by omega)]
  exact hg k (by omega)
theorem told {F : Nat → Option α} {v u : α} (h : Ev F v) (e : v = u) : Ev F u := e ▸ h
theorem step {F G : Nat → Option α} {v : α} (h : Ev G v) (e : ∀ k, F (k + 1) = G k) : Ev F v := succ (congr h e)
theorem got {F : Nat → Option α} {v : α} (h : Ev F v) : ∃ k, F k = some v := by
  obtain ⟨k0, h⟩ := h
  exact ⟨k0, h k0 (Nat.le_refl _)⟩
end Ev

theorem wrap_id {x : Int} (h0 : -9223372036854775808 ≤ x) (h1 : x ≤ 9223372036854775807) : wrap64 x = x := by unfold wrap64; omega
theorem wrap_succ {j : Nat} (h : j < 4611686018427387904) : wrap64 ((j : Int) + 1) = ((j + 1 : Nat) : Int) := by rw [wrap_id (by omega) (by omega)]; omega

theorem nodesL_drop {l : List S24} {j : Nat} (h : j < l.length) : nodesL (l.drop j) = nodesT (rd_T24 l (j : Int)) ++ nodesL (l.drop (j + 1)) := by rw [drop_rd h, nodesL]
theorem nodesL_mem : ∀ {l : List S24} {x : S24}, x ∈ l → (nodesT x).length ≤ (nodesL l).length
  | y :: l, x, h => by
    simp only [nodesL, List.length_append]
    rcases List.mem_cons.1 h with rfl | h
    · omega
    · have := nodesL_mem h; omega
theorem nodesT_pos : ∀ x : S24, 1 ≤ (nodesT x).length
  | ⟨a, b, c, l⟩ => by simp [nodesT]
theorem nodesL_len : ∀ l : List S24, l.length ≤ (nodesL l).length
  | [] => by simp [nodesL]
  | x :: l => by have := nodesL_len l; have := nodesT_pos x; simp only [nodesL, List.length_append, List.length_cons]; omega
theorem fitB_of_nodes : ∀ t : S24, (nodesT t).length < 2932031007402 → fitB t = true := by
  refine S24_ind fun a b c l ih h => ?_
  simp only [nodesT, List.length_cons] at h
  simp only [fitB, Bool.and_eq_true, decide_eq_true_eq]
  refine ⟨by have := nodesL_len l; omega, fitsB_of fun x hx => ih x hx ?_⟩
  have := nodesL_mem hx
  omega

/-! ### the weigher -/
def WeighOk (t : S24) (r : Int) : Prop := (nodesT t).length < 1099511627776 → 1 ≤ r ∧ r ≤ (nodesT t).length ∧ (r ≤ 400 → r = (nodesT t).length)
theorem weigh_ev : ∀ t : S24, fitB t = true → ∃ r, Ev (fun k => chalklineref11_weigh.f k t.f0 t.f1 t.f2 t.f3 400) r ∧ WeighOk t r := by
  refine S24_ind fun a b c l ih hf => ?_
  simp only [fitB, Bool.and_eq_true, decide_eq_true_eq] at hf
  have loop : ∀ (m j : Nat) (acc : Int), l.length - j = m → j ≤ l.length → ∃ r, Ev (fun k => chalklineref11_weigh.l0 k 400 acc (j : Int) a b c l) r ∧ (1 ≤ acc → acc + (nodesL (l.drop j)).length < 1099511627776 → acc ≤ r ∧ r ≤ acc + (nodesL (l.drop j)).length ∧ (r ≤ 400 → r = acc + (nodesL (l.drop j)).length)) := by
    intro m
    induction m with
    | zero =>
      intro j acc hm hj
      refine ⟨acc, Ev.step (Ev.pure _) (fun k => ?_), ?_⟩
      · rw [chalklineref11_weigh.l0, if_neg (by omega)]
      · rw [List.drop_of_length_le (by omega)]; simp [nodesL]
    | succ m ihm =>
      intro j acc hm hj
      have hlt : j < l.length := by omega
      by_cases hacc : acc ≤ 400
      · obtain ⟨r1, he1, hw1⟩ := ih _ (rd_mem hlt) (fitsB_mem hf.2 _ (rd_mem hlt))
        obtain ⟨r, he, hw⟩ := ihm (j + 1) (wrap64 (acc + r1)) (by omega) (by omega)
        refine ⟨r, Ev.step (Ev.bind he1 (G := fun k t103 => chalklineref11_weigh.l0 k 400 (wrap64 (acc + t103)) (wrap64 ((j : Int) + 1)) a b c l) ?_) (fun k => ?_), ?_⟩
        · rw [wrap_succ (by omega)]; exact he
        · rw [chalklineref11_weigh.l0, if_pos (by omega), if_pos hacc, if_pos (by omega)]
        · rw [nodesL_drop hlt, List.length_append]
          intro h1 h2
          obtain ⟨g1, g2, g3⟩ := hw1 (by omega)
          rw [wrap_id (by omega) (by omega)] at hw
          obtain ⟨p1, p2, p3⟩ := hw (by omega) (by omega)
          refine ⟨by omega, by omega, fun h => ?_⟩
          have := p3 h
          have := g3 (by omega)
          omega
      · refine ⟨acc, Ev.step (Ev.pure _) (fun k => ?_), ?_⟩
        · rw [chalklineref11_weigh.l0, if_pos (by omega), if_neg hacc]
        · intro h1 h2; omega
  obtain ⟨r, he, hw⟩ := loop _ 0 1 rfl (Nat.zero_le _)
  refine ⟨r, Ev.step he (fun k => by rw [chalklineref11_weigh.f]; rfl), fun h => ?_⟩
  simp only [nodesT, List.length_cons] at h ⊢
  rw [List.drop_zero] at hw
  obtain ⟨p1, p2, p3⟩ := hw (by omega) (by omega)
  exact ⟨p1, by omega, fun h => by have := p3 h; omega⟩
theorem Few_ev (t : S24) (hf : fitB t = true) : ∃ b, Ev (fun k => chalklineref11_Few.f k t.f0 t.f1 t.f2 t.f3) b ∧ ((nodesT t).length < 1099511627776 → b = true → (nodesT t).length ≤ 400) := by
  obtain ⟨r, he, hw⟩ := weigh_ev t hf
  refine ⟨decide (r ≤ 400), Ev.bind he (G := fun _ t105 => some (decide (t105 ≤ 400))) (Ev.pure _), fun h hb => ?_⟩
  obtain ⟨p1, p2, p3⟩ := hw h
  have := p3 (of_decide_eq_true hb)
  have := of_decide_eq_true hb
  omega
theorem few_ev (t : S24) (A : List Bool) (hf : fitB t = true) : ∃ b, Ev (fun k => chalklinelaw11_few.f k t.f0 t.f1 t.f2 t.f3 A) b ∧ ((nodesT t).length < 1099511627776 → b = true → (nodesT t).length ≤ 400 ∧ A.length ≤ 1000) := by
  obtain ⟨b, he, hb⟩ := Few_ev t hf
  cases b with
  | false => exact ⟨false, Ev.bind he (G := fun _ t107 => if t107 = true then some (decide ((A.length : Int) ≤ 1000)) else some false) ⟨0, fun _ _ => by simp⟩, fun _ h => by cases h⟩
  | true => exact ⟨decide ((A.length : Int) ≤ 1000), Ev.bind he (G := fun _ t107 => if t107 = true then some (decide ((A.length : Int) ≤ 1000)) else some false) ⟨0, fun _ _ => by simp⟩, fun h h2 => ⟨hb h rfl, by have := of_decide_eq_true h2; omega⟩⟩

/-! ### the reference's Value -/
def valFin (a c : Int) (n : Nat) (m : Nat) : Bool := if a = 3 then (m : Int) == 0 else if a = 4 then (m : Int) == (n : Int) else if a = 5 then decide ((m : Int) > 0) else if a = 6 then decide ((m : Int) ≥ c) else false
theorem Value_ev (A : List Bool) : ∀ t : S24, fitB t = true → Ev (fun k => chalklineref11_Value.f k t.f0 t.f1 t.f2 t.f3 A) (flat_val A t) := by
  refine S24_ind fun a b c l ih hf => ?_
  simp only [fitB, Bool.and_eq_true, decide_eq_true_eq] at hf
  have loop : ∀ (m j n : Nat), l.length - j = m → j ≤ l.length → n ≤ j → Ev (fun k => chalklineref11_Value.l0 k A (n : Int) (j : Int) a b c l) (valFin a c l.length (n + ((l.drop j).filter (flat_val A)).length)) := by
    intro m
    induction m with
    | zero =>
      intro j n hm hj hn
      rw [List.drop_of_length_le (by omega)]
      refine Ev.step (Ev.pure _) (fun k => ?_)
      rw [chalklineref11_Value.l0, if_neg (by omega)]
      unfold valFin
      simp only [List.filter_nil, List.length_nil, Nat.add_zero]
      split
      · rfl
      split
      · rfl
      split
      · rfl
      split <;> rfl
    | succ m ihm =>
      intro j n hm hj hn
      have hlt : j < l.length := by omega
      have he1 := ih _ (rd_mem hlt) (fitsB_mem hf.2 _ (rd_mem hlt))
      rw [drop_rd hlt, List.filter_cons]
      generalize hq : flat_val A (rd_T24 l (j : Int)) = q at he1
      cases q with
      | true =>
        have h := ihm (j + 1) (n + 1) (by omega) (by omega) (by omega)
        refine Ev.told (Ev.step (Ev.bind he1 (G := fun k t111 => if t111 = true then chalklineref11_Value.l0 k A (wrap64 ((n : Int) + 1)) (wrap64 ((j : Int) + 1)) a b c l else chalklineref11_Value.l0 k A (n : Int) (wrap64 ((j : Int) + 1)) a b c l) ?_) (fun k => ?_)) (show valFin a c l.length (n + 1 + ((l.drop (j + 1)).filter (flat_val A)).length) = _ from ?_)
        · refine Ev.congr h (fun k => ?_)
          rw [if_pos rfl, wrap_succ (by omega), wrap_succ (by omega)]
        · rw [chalklineref11_Value.l0, if_pos (by omega), if_pos (by omega)]
        · rw [if_pos rfl, List.length_cons]
          congr 1
          omega
      | false =>
        have h := ihm (j + 1) n (by omega) (by omega) (by omega)
        refine Ev.told (Ev.step (Ev.bind he1 (G := fun k t111 => if t111 = true then chalklineref11_Value.l0 k A (wrap64 ((n : Int) + 1)) (wrap64 ((j : Int) + 1)) a b c l else chalklineref11_Value.l0 k A (n : Int) (wrap64 ((j : Int) + 1)) a b c l) ?_) (fun k => ?_)) (show valFin a c l.length (n + ((l.drop (j + 1)).filter (flat_val A)).length) = _ from ?_)
        · refine Ev.congr h (fun k => ?_)
          rw [if_neg (by simp), wrap_succ (by omega)]
        · rw [chalklineref11_Value.l0, if_pos (by omega), if_pos (by omega)]
        · rw [if_neg (by simp)]
  have h0 := loop _ 0 0 rfl (Nat.zero_le _) (Nat.le_refl _)
  rw [List.drop_zero, Nat.zero_add] at h0
  rw [flat_val_eq]
  by_cases h1 : a = 1
  · refine Ev.step (Ev.pure _) (fun k => ?_)
    show chalklineref11_Value.f (k + 1) a b c l A = _
    rw [chalklineref11_Value.f, if_pos h1, if_pos h1]
  rw [if_neg h1]
  by_cases h2 : a = 2
  · rw [if_pos h2]
    refine Ev.step (Ev.pure _) (fun k => ?_)
    show chalklineref11_Value.f (k + 1) a b c l A = _
    rw [chalklineref11_Value.f, if_neg h1, if_pos h2]
    by_cases h3 : 0 < b
    · rw [if_pos (by omega), if_pos h3]
      by_cases h4 : b < (A.length : Int)
      · rw [if_pos h4, if_pos h4, if_pos (by omega)]; rfl
      · rw [if_neg h4, if_neg h4]
    · rw [if_neg (by omega), if_neg h3]
  rw [if_neg h2]
  refine Ev.told (Ev.step h0 (fun k => ?_)) ?_
  · show chalklineref11_Value.f (k + 1) a b c l A = _
    rw [chalklineref11_Value.f, if_neg h1, if_neg h2]
    rfl
  · unfold valFin
    have hany : (decide (0 < (l.filter (flat_val A)).length)) = l.any (flat_val A) := by
      rw [Bool.eq_iff_iff, decide_eq_true_iff, List.length_pos_iff, ne_eq, List.filter_eq_nil_iff, List.any_eq_true]
      simp
    by_cases h3 : a = 3
    · rw [if_pos h3, if_pos h3, ← hany, Bool.eq_iff_iff, beq_iff_eq, Bool.not_eq_true', decide_eq_false_iff_not]; omega
    rw [if_neg h3, if_neg h3]
    by_cases h4 : a = 4
    · rw [if_pos h4, if_pos h4, cast_beq]
    rw [if_neg h4, if_neg h4]
    by_cases h5 : a = 5
    · rw [if_pos h5, if_pos h5, ← hany, Bool.eq_iff_iff, decide_eq_true_iff, decide_eq_true_iff]; omega
    rw [if_neg h5, if_neg h5]

end Go.Proofs.YtphegiohkggddaaDoor.PF
