/- What flat.made does to well-formed trees, whole. No program in sight. -/
import Derived.Test.YtphegiohkggddaaDoorPureS
import Derived.Test.YtphegiohkggddaaDoorVarsG
namespace Go.Proofs.YtphegiohkggddaaDoor.PF
open Go.RowKit Go.Proofs.YtphegiohkggddaaDoorW.PrintWords
set_option linter.unusedVariables false
set_option linter.unusedSimpArgs false

theorem one_of_len {l : List S24} (h : l.length = 1) : l = [rd_T24 l 0] := by
  match l, h with
  | [x], _ => rfl
theorem wrap_bit {v : Int} (h : v = 0 ∨ v = 1) : wrap64 (1 - v) = 1 - v := wrap_id (by omega) (by omega)
theorem map_size {f : S24 → S24} : ∀ {l : List S24}, (∀ x ∈ l, (nodesT (f x)).length ≤ (nodesT x).length) → (nodesL (l.map f)).length ≤ (nodesL l).length
  | [], _ => by simp
  | x :: l, h => by
    have h1 := h x (List.mem_cons_self ..)
    have h2 := map_size (l := l) fun y hy => h y (List.mem_cons_of_mem _ hy)
    simp only [List.map_cons, nodesL, List.length_append]
    omega
theorem least_size (k : Int) (r : List S24) : (nodesT (least2_val k r)).length ≤ 1 + (nodesL r).length := by
  unfold least2_val
  split
  · simp [nodesT, nodesL]
  split
  · simp [nodesT, nodesL]
  split
  · exact join_size 4 (.inl rfl) r
  split
  · exact join_size 5 (.inr rfl) r
  · simp [nodesT]; omega
theorem least_WF {n k : Int} {r : List S24} (hk : k ≤ 1099511627776) (h : ∀ x ∈ r, WF n x) : WF n (least2_val k r) := by
  unfold least2_val
  split
  · exact WF_of (formed_c (.inr rfl)) (by simp)
  split
  · exact WF_of (formed_c (.inl rfl)) (by simp)
  split
  · exact join_WF (.inl rfl) h
  split
  · exact join_WF (.inr rfl) h
  · exact WF_of (formed_l (by omega) hk r) h

theorem kids_size {a b c : Int} {l : List S24} {N : Nat} (h : (nodesT ⟨a, b, c, l⟩).length < N) : ∀ x ∈ l, (nodesT x).length < N := by
  intro x hx
  have := nodesL_mem hx
  simp only [nodesT, List.length_cons] at h
  omega

/-- Form and size. -/
theorem made_good (n : Int) : ∀ t : S24, WF n t → (nodesT t).length < 1099511627776 → WF n (made_val t) ∧ (nodesT (made_val t)).length ≤ (nodesT t).length := by
  refine S24_ind fun a b c l ih hw hs => ?_
  obtain ⟨hf, hk⟩ := WF_mk.1 hw
  have hks := kids_size hs
  have hm : ∀ x ∈ l.map made_val, WF n x := by
    intro x hx
    obtain ⟨y, hy, rfl⟩ := List.mem_map.1 hx
    exact (ih y hy (hk y hy) (hks y hy)).1
  have hms : (nodesL (l.map made_val)).length ≤ (nodesL l).length := map_size fun x hx => (ih x hx (hk x hx) (hks x hx)).2
  have hml : (l.map made_val).length = l.length := List.length_map ..
  have hll := nodesL_len l
  rw [made_val_eq]
  generalize l.map made_val = m at hm hms hml
  simp only [nodesT, List.length_cons] at hs ⊢
  unfold node_val
  split
  · rename_i h3
    have hl1 := (formed_not hf h3).2.2
    have hm1 := one_of_len (hml.trans hl1)
    generalize rd_T24 m 0 = y at hm1
    subst hm1
    have hy := hm y (by simp)
    simp only [nodesL, List.append_nil] at hms
    unfold not_val
    show WF n (if y.f0 = 1 then _ else if y.f0 = 3 then _ else _) ∧ _
    have e : rd_T24 [y] 0 = y := rfl
    rw [e]
    split
    · rename_i hy1
      have hb := (formed_const (WF_root hy) hy1).1
      rw [wrap_bit hb]
      exact ⟨WF_of (formed_c (by omega)) (by simp), by simp [nodesT, nodesL]⟩
    split
    · rename_i hy3
      have hz := one_of_len (formed_not (WF_root hy) hy3).2.2
      have hzm : rd_T24 y.f3 0 ∈ y.f3 := by rw [hz]; exact List.mem_cons_self ..
      exact ⟨WF_kids hy _ hzm, by have := nodesL_mem hzm; have := nodesT_kids y; omega⟩
    · exact ⟨WF_of (formed_n y) (by simpa using hy), by simp only [nodesT, nodesL, List.append_nil, List.length_cons]; omega⟩
  split
  · exact ⟨join_WF (.inl rfl) hm, by have := join_size 4 (.inl rfl) m; omega⟩
  split
  · exact ⟨join_WF (.inr rfl) hm, by have := join_size 5 (.inr rfl) m; omega⟩
  split
  · rename_i h6
    obtain ⟨_, h0, h1⟩ := formed_least hf h6
    have hfl : (m.filter oneB).length ≤ m.length := List.length_filter_le _ _
    have hfs := filter_size (fun x => x.f0 != 1) m
    have h0' : 0 ≤ c := h0
    have h1' : c ≤ 1099511627776 := h1
    unfold least_val
    rw [wrap_id (by omega) (by omega)]
    exact ⟨least_WF (by have : c ≤ 1099511627776 := h1; omega) (fun x hx => hm x (List.mem_filter.1 hx).1), by have := least_size (c - ((m.filter oneB).length : Int)) (m.filter fun x => x.f0 != 1); omega⟩
  · exact ⟨hw, by simp [nodesT]⟩

/-- What made asks for holds of well-formed trees. -/
theorem made_fit_of (n : Int) : ∀ t : S24, WF n t → (nodesT t).length < 1099511627776 → made_fit t = true := by
  refine S24_ind fun a b c l ih hw hs => ?_
  obtain ⟨hf, hk⟩ := WF_mk.1 hw
  have hks := kids_size hs
  have hm : ∀ x ∈ l.map made_val, WF n x := by
    intro x hx
    obtain ⟨y, hy, rfl⟩ := List.mem_map.1 hx
    exact (made_good n y (hk y hy) (hks y hy)).1
  have hms : (nodesL (l.map made_val)).length ≤ (nodesL l).length := map_size fun x hx => (made_good n x (hk x hx) (hks x hx)).2
  have hml : (l.map made_val).length = l.length := List.length_map ..
  have hll := nodesL_len l
  rw [made_fit_eq, Bool.and_eq_true, Bool.and_eq_true, decide_eq_true_eq]
  simp only [nodesT, List.length_cons] at hs
  refine ⟨⟨by omega, made_fits_of fun x hx => ih x hx (hk x hx) (hks x hx)⟩, ?_⟩
  generalize l.map made_val = m at hm hms hml
  have hj : ∀ kd m', (nodesL m').length ≤ (nodesL m).length → join_fit kd m' = true := by
    intro kd m' h'
    unfold join_fit
    have h1 := flatL_size kd (m'.filter fun x => x.f0 != 1)
    have h2 := filter_size (fun x => x.f0 != 1) m'
    have h3 := nodesL_len (flatL kd (m'.filter fun x => x.f0 != 1))
    exact decide_eq_true (by omega)
  unfold node_fit
  split
  · rename_i h3
    have hl1 := (formed_not hf h3).2.2
    have hm1 := one_of_len (hml.trans hl1)
    generalize rd_T24 m 0 = y at hm1
    subst hm1
    have hy := hm y (by simp)
    unfold not_fit
    rw [Bool.and_eq_true]
    refine ⟨by simp, ?_⟩
    have e : rd_T24 [y] 0 = y := rfl
    rw [e]
    split
    · rename_i hy3
      have := (formed_not (WF_root hy) hy3).2.2
      exact decide_eq_true (by omega)
    · rfl
  split
  · exact hj _ _ (Nat.le_refl _)
  split
  · exact hj _ _ (Nat.le_refl _)
  split
  · rw [Bool.and_eq_true]
    exact ⟨hj _ _ (filter_size _ m), hj _ _ (filter_size _ m)⟩
  · rfl

/-! ### the value -/
theorem count_split (A : List Bool) : ∀ m : List S24, (m.filter (flat_val A)).length = (m.filter oneB).length + ((m.filter fun x => x.f0 != 1).filter (flat_val A)).length
  | [] => rfl
  | x :: m => by
    have ih := count_split A m
    by_cases hx : x.f0 = 1
    · have h1 : oneB x = flat_val A x := by unfold oneB; rw [if_pos hx, flat_val_c A hx]
      have h2 : (x.f0 != 1) = false := by simp [hx]
      rw [List.filter_cons, List.filter_cons (p := oneB), List.filter_cons (p := fun (x : S24) => x.f0 != 1), h1, h2]
      cases flat_val A x with
      | true => simp [-List.filter_filter]; omega
      | false => simpa [-List.filter_filter] using ih
    · have h1 : oneB x = false := by unfold oneB; rw [if_neg hx]
      have h2 : (x.f0 != 1) = true := by simp [hx]
      rw [List.filter_cons, List.filter_cons (p := oneB), List.filter_cons (p := fun (x : S24) => x.f0 != 1), h1, h2]
      simp only [if_true]
      rw [List.filter_cons]
      cases flat_val A x with
      | true => simp [-List.filter_filter]; omega
      | false => simpa [-List.filter_filter] using ih
theorem any_count (A : List Bool) (r : List S24) : r.any (flat_val A) = decide ((1 : Int) ≤ ((r.filter (flat_val A)).length : Int)) := by
  rw [Bool.eq_iff_iff, List.any_eq_true, decide_eq_true_iff]
  constructor
  · rintro ⟨x, hx, hv⟩
    have : 0 < (r.filter (flat_val A)).length := List.length_pos_iff.2 (List.ne_nil_of_mem (List.mem_filter.2 ⟨hx, hv⟩))
    omega
  · intro h
    have h2 : 0 < (r.filter (flat_val A)).length := by omega
    obtain ⟨x, hx⟩ := List.exists_mem_of_length_pos h2
    exact ⟨x, (List.mem_filter.1 hx).1, (List.mem_filter.1 hx).2⟩
theorem least_value (A : List Bool) (k : Int) (r : List S24) (hr : ∀ x ∈ r, x.f0 ≠ 1) : flat_val A (least2_val k r) = decide (k ≤ ((r.filter (flat_val A)).length : Int)) := by
  have hle : (r.filter (flat_val A)).length ≤ r.length := List.length_filter_le _ _
  unfold least2_val
  split
  · rename_i h
    have : flat_val A ⟨1, 1, 0, []⟩ = true := by rw [flat_val_c A rfl]; rfl
    rw [this]; symm; exact decide_eq_true (by omega)
  split
  · rename_i h
    have : flat_val A ⟨1, 0, 0, []⟩ = false := by rw [flat_val_c A rfl]; rfl
    rw [this]; symm; exact decide_eq_false (by omega)
  split
  · rename_i h
    rw [join_val4, ← filter_len_all, Bool.eq_iff_iff, decide_eq_true_iff, decide_eq_true_iff]
    omega
  split
  · rename_i h
    rw [join_val5 A r (fun x hx h1 => absurd h1 (hr x hx)), any_count, h]
  · rw [flat_val_6 A rfl]
theorem made_value (A : List Bool) (n : Int) : ∀ t : S24, WF n t → (nodesT t).length < 1099511627776 → flat_val A (made_val t) = flat_val A t := by
  refine S24_ind fun a b c l ih hw hs => ?_
  obtain ⟨hf, hk⟩ := WF_mk.1 hw
  have hks := kids_size hs
  have hm : ∀ x ∈ l.map made_val, WF n x := by
    intro x hx
    obtain ⟨y, hy, rfl⟩ := List.mem_map.1 hx
    exact (made_good n y (hk y hy) (hks y hy)).1
  have hml : (l.map made_val).length = l.length := List.length_map ..
  have hll := nodesL_len l
  have hany : (l.map made_val).any (flat_val A) = l.any (flat_val A) := by
    rw [List.any_map, Bool.eq_iff_iff, List.any_eq_true, List.any_eq_true]
    constructor
    · rintro ⟨x, hx, hv⟩; exact ⟨x, hx, by rw [← ih x hx (hk x hx) (hks x hx)]; exact hv⟩
    · rintro ⟨x, hx, hv⟩; exact ⟨x, hx, by show flat_val A (made_val x) = true; rw [ih x hx (hk x hx) (hks x hx)]; exact hv⟩
  have hcnt : ((l.map made_val).filter (flat_val A)).length = (l.filter (flat_val A)).length := by
    rw [List.filter_map, List.length_map]
    congr 1
    exact List.filter_congr fun x hx => ih x hx (hk x hx) (hks x hx)
  have hall : (l.map made_val).all (flat_val A) = l.all (flat_val A) := by
    rw [← filter_len_all, ← filter_len_all, hcnt, hml]
  rw [made_val_eq]
  generalize l.map made_val = m at hm hml hany hcnt hall
  simp only [nodesT, List.length_cons] at hs
  unfold node_val
  split
  · rename_i h3
    subst h3
    have hl1 := (formed_not hf rfl).2.2
    have hm1 := one_of_len (hml.trans hl1)
    generalize rd_T24 m 0 = y at hm1
    subst hm1
    have hy := hm y (by simp)
    rw [flat_val_3 A (show (⟨3, b, c, l⟩ : S24).f0 = 3 from rfl)]
    show _ = !l.any (flat_val A)
    rw [← hany]
    unfold not_val
    have e : rd_T24 [y] 0 = y := rfl
    rw [e]
    simp only [List.any_cons, List.any_nil, Bool.or_false]
    split
    · rename_i hy1
      have hb := (formed_const (WF_root hy) hy1).1
      rw [wrap_bit hb, flat_val_c A hy1, flat_val_c A rfl]
      rcases hb with h | h <;> rw [h] <;> rfl
    split
    · rename_i hy3
      have hz := one_of_len (formed_not (WF_root hy) hy3).2.2
      rw [flat_val_3 A hy3, hz]
      simp [rd_T24]
    · rw [flat_val_3 A rfl]
      simp
  split
  · rename_i h4
    subst h4
    rw [join_val4, flat_val_4 A rfl]
    exact hall
  split
  · rename_i h5
    subst h5
    rw [join_val5 A m (fun x hx h1 => (formed_const (WF_root (hm x hx)) h1).1), flat_val_5 A rfl]
    exact hany
  split
  · rename_i h6
    subst h6
    obtain ⟨_, h0, h1⟩ := formed_least hf rfl
    have h0' : 0 ≤ c := h0
    have h1' : c ≤ 1099511627776 := h1
    have hfl : (m.filter oneB).length ≤ m.length := List.length_filter_le _ _
    have hcs := count_split A m
    rw [hcnt] at hcs
    unfold least_val
    rw [wrap_id (by omega) (by omega), least_value A _ _ (fun x hx => by simpa using (List.mem_filter.1 hx).2), flat_val_6 A rfl]
    show _ = decide (c ≤ ((l.filter (flat_val A)).length : Int))
    rw [hcs, Bool.eq_iff_iff, decide_eq_true_iff, decide_eq_true_iff]
    omega
  · rfl

/-! ### variables -/
def VarIn (v : Int) (t : S24) : Prop := ∃ y ∈ nodesT t, y.f0 = 2 ∧ y.f1 = v
theorem nodesL_in {y : S24} : ∀ {l : List S24}, y ∈ nodesL l ↔ ∃ x ∈ l, y ∈ nodesT x
  | [] => by simp [nodesL]
  | x :: l => by rw [nodesL, List.mem_append, nodesL_in]; simp
theorem VarIn_mk {v a b c : Int} {l : List S24} : VarIn v ⟨a, b, c, l⟩ ↔ (a = 2 ∧ b = v) ∨ ∃ x ∈ l, VarIn v x := by
  unfold VarIn
  rw [nodesT]
  constructor
  · rintro ⟨y, hy, h⟩
    rcases List.mem_cons.1 hy with rfl | hy
    · exact .inl h
    · obtain ⟨x, hx, hy⟩ := nodesL_in.1 hy
      exact .inr ⟨x, hx, y, hy, h⟩
  · rintro (h | ⟨x, hx, y, hy, h⟩)
    · exact ⟨_, List.mem_cons_self .., h⟩
    · exact ⟨y, List.mem_cons_of_mem _ (nodesL_in.2 ⟨x, hx, hy⟩), h⟩
theorem VarIn_kid {v : Int} {t x : S24} (hx : x ∈ t.f3) (h : VarIn v x) : VarIn v t := by
  obtain ⟨a, b, c, l⟩ := t
  exact VarIn_mk.2 (.inr ⟨x, hx, h⟩)
theorem varsL_mem {v : Int} {t : S24} : v ∈ varsL (nodesT t) ↔ VarIn v t := by
  unfold VarIn varsL
  rw [List.mem_map]
  constructor
  · rintro ⟨y, hy, rfl⟩
    obtain ⟨h1, h2⟩ := List.mem_filter.1 hy
    exact ⟨y, h1, by simpa using h2, rfl⟩
  · rintro ⟨y, hy, h1, h2⟩
    exact ⟨y, List.mem_filter.2 ⟨hy, by simpa using h1⟩, h2⟩
theorem join_vars {v kd : Int} (hk : kd = 4 ∨ kd = 5) {m : List S24} (h : VarIn v (join_val kd m)) : ∃ x ∈ m, VarIn v x := by
  have hf : ∀ y ∈ flatL kd (m.filter fun x => x.f0 != 1), VarIn v y → ∃ x ∈ m, VarIn v x := by
    intro y hy hv
    obtain ⟨x, hx, (⟨_, hy⟩ | ⟨_, rfl⟩)⟩ := flatL_mem hy
    · exact ⟨x, (List.mem_filter.1 hx).1, VarIn_kid hy hv⟩
    · exact ⟨_, (List.mem_filter.1 hx).1, hv⟩
  rcases join_cases kd hk m with ⟨u, hu, e⟩ | e | ⟨r, hr, _, e⟩
  · rw [e] at h
    rcases VarIn_mk.1 h with ⟨h1, _⟩ | ⟨x, hx, _⟩
    · cases h1
    · cases hx
  · exact hf _ (by rw [e]; simp) h
  · rw [e] at h
    rcases VarIn_mk.1 h with ⟨h1, _⟩ | ⟨x, hx, hv⟩
    · rcases hk with rfl | rfl <;> cases h1
    · exact hf x (by rw [← hr]; exact hx) hv
theorem made_vars (v n : Int) : ∀ t : S24, WF n t → VarIn v (made_val t) → VarIn v t := by
  refine S24_ind fun a b c l ih hw h => ?_
  obtain ⟨hf, hk⟩ := WF_mk.1 hw
  have back : (∃ x ∈ l.map made_val, VarIn v x) → VarIn v ⟨a, b, c, l⟩ := by
    rintro ⟨x, hx, hv⟩
    obtain ⟨y, hy, rfl⟩ := List.mem_map.1 hx
    exact VarIn_mk.2 (.inr ⟨y, hy, ih y hy (hk y hy) hv⟩)
  rw [made_val_eq] at h
  generalize hm : l.map made_val = m at h back
  unfold node_val at h
  by_cases h3 : a = 3
  · rw [if_pos h3] at h
    have hl1 := (formed_not hf h3).2.2
    have hml : m.length = l.length := by rw [← hm, List.length_map]
    have hm1 := one_of_len (hml.trans hl1)
    generalize rd_T24 m 0 = y at hm1
    subst hm1
    unfold not_val at h
    have e : rd_T24 [y] 0 = y := rfl
    rw [e] at h
    split at h
    · rcases VarIn_mk.1 h with ⟨h1, _⟩ | ⟨x, hx, _⟩
      · cases h1
      · cases hx
    split at h
    · refine back ⟨y, by simp, ?_⟩
      by_cases hl : 0 < y.f3.length
      · exact VarIn_kid (by have := rd_mem hl; exact this) h
      · have : y.f3 = [] := List.length_eq_zero_iff.1 (by omega)
        rw [this] at h
        rcases VarIn_mk.1 (show VarIn v ⟨0, 0, 0, []⟩ from h) with ⟨h1, _⟩ | ⟨x, hx, _⟩
        · cases h1
        · cases hx
    · rcases VarIn_mk.1 h with ⟨h1, _⟩ | hx
      · cases h1
      · exact back hx
  rw [if_neg h3] at h
  by_cases h4 : a = 4
  · rw [if_pos h4] at h; exact back (join_vars (.inl rfl) h)
  rw [if_neg h4] at h
  by_cases h5 : a = 5
  · rw [if_pos h5] at h; exact back (join_vars (.inr rfl) h)
  rw [if_neg h5] at h
  by_cases h6 : a = 6
  · rw [if_pos h6] at h
    unfold least_val least2_val at h
    have bf : (∃ x ∈ m.filter fun x => x.f0 != 1, VarIn v x) → VarIn v ⟨a, b, c, l⟩ := fun ⟨x, hx, hv⟩ => back ⟨x, (List.mem_filter.1 hx).1, hv⟩
    split at h
    · rcases VarIn_mk.1 h with ⟨h1, _⟩ | ⟨x, hx, _⟩
      · cases h1
      · cases hx
    split at h
    · rcases VarIn_mk.1 h with ⟨h1, _⟩ | ⟨x, hx, _⟩
      · cases h1
      · cases hx
    split at h
    · exact bf (join_vars (.inl rfl) h)
    split at h
    · exact bf (join_vars (.inr rfl) h)
    · rcases VarIn_mk.1 h with ⟨h1, _⟩ | hx
      · cases h1
      · exact bf hx
  rw [if_neg h6] at h
  exact h

/-! ### the normal form -/
mutual
def plainB : S24 → Bool
  | ⟨a, _, c, l⟩ => if a = 2 then true else if a = 3 then (l.length == 1 && plainsB l && (l.all fun x => x.f0 != 3)) else if a = 6 then (if 1 < c then (if c < (l.length : Int) then plainsB l else false) else false) else if a = 4 ∨ a = 5 then (if 2 ≤ l.length then (plainsB l && l.all fun x => x.f0 != a) else false) else false
def plainsB : List S24 → Bool
  | [] => true
  | x :: l => plainB x && plainsB l
end
theorem plainsB_eq : ∀ l, plainsB l = l.all plainB
  | [] => rfl
  | x :: l => by simp only [plainsB, List.all_cons, plainsB_eq l]
theorem plainB_eq (a b c : Int) (l : List S24) : plainB ⟨a, b, c, l⟩ = if a = 2 then true else if a = 3 then (l.length == 1 && l.all plainB && (l.all fun x => x.f0 != 3)) else if a = 6 then (if 1 < c then (if c < (l.length : Int) then l.all plainB else false) else false) else if a = 4 ∨ a = 5 then (if 2 ≤ l.length then (l.all plainB && l.all fun x => x.f0 != a) else false) else false := by
  rw [plainB, plainsB_eq]
def Norm (t : S24) : Prop := (t.f0 = 1 ∧ t.f3 = []) ∨ plainB t = true
theorem plain_not1 {t : S24} (h : plainB t = true) : t.f0 ≠ 1 := by
  obtain ⟨a, b, c, l⟩ := t
  intro h1
  have h1' : a = 1 := h1
  subst h1'
  simp [plainB] at h
theorem plain_3 {t : S24} (h : plainB t = true) (h3 : t.f0 = 3) : t.f3.length = 1 ∧ ∀ x ∈ t.f3, plainB x = true ∧ x.f0 ≠ 3 := by
  obtain ⟨a, b, c, l⟩ := t
  have h1' : a = 3 := h3
  subst h1'
  rw [plainB_eq] at h
  rw [if_neg (by decide), if_pos rfl, Bool.and_eq_true, Bool.and_eq_true] at h
  exact ⟨by simpa using h.1.1, fun x hx => ⟨List.all_eq_true.1 h.1.2 x hx, by simpa using List.all_eq_true.1 h.2 x hx⟩⟩
theorem plain_45 {t : S24} (h : plainB t = true) (h3 : t.f0 = 4 ∨ t.f0 = 5) : ∀ x ∈ t.f3, plainB x = true ∧ x.f0 ≠ t.f0 := by
  obtain ⟨a, b, c, l⟩ := t
  have h3' : a = 4 ∨ a = 5 := h3
  rw [plainB_eq] at h
  rw [if_neg (by omega), if_neg (by omega), if_neg (by omega), if_pos h3'] at h
  by_cases h2 : 2 ≤ l.length
  · rw [if_pos h2, Bool.and_eq_true] at h
    exact fun x hx => ⟨List.all_eq_true.1 h.1 x hx, by simpa using List.all_eq_true.1 h.2 x hx⟩
  · rw [if_neg h2] at h; cases h
theorem join_norm {kd : Int} (hk : kd = 4 ∨ kd = 5) {m : List S24} (h : ∀ x ∈ m, Norm x) : Norm (join_val kd m) := by
  have hf : ∀ y ∈ flatL kd (m.filter fun x => x.f0 != 1), plainB y = true ∧ y.f0 ≠ kd := by
    intro y hy
    obtain ⟨x, hx, hh⟩ := flatL_mem hy
    obtain ⟨hx1, hx2⟩ := List.mem_filter.1 hx
    have hp : plainB x = true := (h x hx1).resolve_left fun hc => by simp [hc.1] at hx2
    rcases hh with ⟨hxk, hy⟩ | ⟨hxk, rfl⟩
    · have := plain_45 hp (by omega) y hy
      exact ⟨this.1, by have := this.2; omega⟩
    · exact ⟨hp, hxk⟩
  rcases join_cases kd hk m with ⟨u, hu, e⟩ | e | ⟨r, hr, h2, e⟩
  · rw [e]; exact .inl ⟨rfl, rfl⟩
  · exact .inr (hf _ (by rw [e]; simp)).1
  · rw [e]
    rw [← hr] at hf
    refine .inr ?_
    rw [plainB_eq]
    rw [if_neg (by omega), if_neg (by omega), if_neg (by omega), if_pos hk, if_pos h2, Bool.and_eq_true]
    exact ⟨List.all_eq_true.2 fun x hx => (hf x hx).1, List.all_eq_true.2 fun x hx => by simpa using (hf x hx).2⟩
theorem made_norm (n : Int) : ∀ t : S24, WF n t → Norm (made_val t) := by
  refine S24_ind fun a b c l ih hw => ?_
  obtain ⟨hf, hk⟩ := WF_mk.1 hw
  have hm : ∀ x ∈ l.map made_val, Norm x := by
    intro x hx
    obtain ⟨y, hy, rfl⟩ := List.mem_map.1 hx
    exact ih y hy (hk y hy)
  have hml : (l.map made_val).length = l.length := List.length_map ..
  rw [made_val_eq]
  generalize l.map made_val = m at hm hml
  unfold node_val
  split
  · rename_i h3
    have hl1 := (formed_not hf h3).2.2
    have hm1 := one_of_len (hml.trans hl1)
    generalize rd_T24 m 0 = y at hm1
    subst hm1
    have hy := hm y (by simp)
    unfold not_val
    have e : rd_T24 [y] 0 = y := rfl
    rw [e]
    split
    · exact .inl ⟨rfl, rfl⟩
    rename_i hy1
    have hp : plainB y = true := hy.resolve_left fun hc => hy1 hc.1
    split
    · rename_i hy3
      obtain ⟨h1, h2⟩ := plain_3 hp hy3
      exact .inr (h2 _ (by have := rd_mem (show 0 < y.f3.length by omega); exact this)).1
    · rename_i hy3
      refine .inr ?_
      rw [plainB_eq]
      rw [if_neg (by decide), if_pos rfl]
      simp [hp, hy3]
  split
  · exact join_norm (.inl rfl) hm
  split
  · exact join_norm (.inr rfl) hm
  split
  · unfold least_val
    have hr : ∀ x ∈ m.filter fun x => x.f0 != 1, plainB x = true := by
      intro x hx
      obtain ⟨hx1, hx2⟩ := List.mem_filter.1 hx
      exact (hm x hx1).resolve_left fun hc => by simp [hc.1] at hx2
    generalize (m.filter fun x => x.f0 != 1) = r at hr
    generalize wrap64 (c - ((m.filter oneB).length : Int)) = k
    unfold least2_val
    split
    · exact .inl ⟨rfl, rfl⟩
    rename_i k0
    split
    · exact .inl ⟨rfl, rfl⟩
    rename_i k1
    split
    · exact join_norm (.inl rfl) fun x hx => .inr (hr x hx)
    rename_i k2
    split
    · exact join_norm (.inr rfl) fun x hx => .inr (hr x hx)
    rename_i k3
    refine .inr ?_
    rw [plainB_eq]
    rw [if_neg (by decide), if_neg (by decide), if_pos rfl, if_pos (by omega), if_pos (by omega)]
    exact List.all_eq_true.2 hr
  · rename_i h3 h4 h5 h6
    rcases formed_kind hf with h | h | h | h | h | h
    · exact .inl ⟨h, (formed_const hf h).2.2⟩
    · refine .inr ?_
      have h' : a = 2 := h
      subst h'
      simp [plainB]
    · exact absurd h h3
    · exact absurd h h4
    · exact absurd h h5
    · exact absurd h h6

end Go.Proofs.YtphegiohkggddaaDoor.PF
