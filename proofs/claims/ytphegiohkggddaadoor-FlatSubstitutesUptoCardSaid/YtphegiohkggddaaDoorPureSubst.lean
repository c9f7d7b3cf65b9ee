/- FlatSubstitutes: what put makes of a tree; the law answers true wherever the tree is not too large. -/
import Derived.Test.YtphegiohkggddaaDoorSubstG
import Derived.Test.YtphegiohkggddaaDoorPureU
namespace Go.Proofs.YtphegiohkggddaaDoor.PF
open Go.RowKit Go.Proofs.YtphegiohkggddaaDoorW.PrintWords
set_option linter.unusedVariables false
set_option linter.unusedSimpArgs false

mutual
/-- What put answers. -/
def put_val (n v : Int) : S24 → S24
  | ⟨a, b, c, l⟩ => if a = 2 ∧ b = n then ⟨1, v, 0, []⟩ else ⟨a, b, c, put_vals n v l⟩
def put_vals (n v : Int) : List S24 → List S24
  | [] => []
  | x :: l => put_val n v x :: put_vals n v l
end
theorem put_vals_eq (n v : Int) : ∀ l, put_vals n v l = l.map (put_val n v)
  | [] => rfl
  | x :: l => by simp only [put_vals, List.map_cons, put_vals_eq n v l]
theorem put_val_eq (n v a b c : Int) (l : List S24) : put_val n v ⟨a, b, c, l⟩ = if a = 2 ∧ b = n then ⟨1, v, 0, []⟩ else ⟨a, b, c, l.map (put_val n v)⟩ := by
  simp only [put_val, put_vals_eq]

theorem put_ev (n v : Int) : ∀ t : S24, fitB t = true → Ev (fun k => chalklinelaw11_put.f k t.f0 t.f1 t.f2 t.f3 n v) ((put_val n v t).f0, (put_val n v t).f1, (put_val n v t).f2, (put_val n v t).f3) := by
  refine S24_ind fun a b c l ih hf => ?_
  simp only [fitB, Bool.and_eq_true, decide_eq_true_eq] at hf
  have loop : ∀ (m j : Nat) (acc : List S24), l.length - j = m → j ≤ l.length → acc.length = j → Ev (fun k => chalklinelaw11_put.l0 k n v acc (j : Int) a b c l) (a, b, c, acc ++ (l.drop j).map (put_val n v)) := by
    intro m
    induction m with
    | zero =>
      intro j acc hm hj ha
      rw [List.drop_of_length_le (by omega)]
      refine Ev.step (Ev.pure _) (fun k => ?_)
      rw [chalklinelaw11_put.l0, if_neg (by omega)]
      simp
    | succ m ihm =>
      intro j acc hm hj ha
      have hlt : j < l.length := by omega
      have he1 := ih _ (rd_mem hlt) (fitsB_mem hf.2 _ (rd_mem hlt))
      rw [drop_rd hlt]
      have h := ihm (j + 1) (acc ++ [put_val n v (rd_T24 l (j : Int))]) (by omega) (by omega) (by simp [ha])
      have e : acc ++ (rd_T24 l (j : Int) :: l.drop (j + 1)).map (put_val n v) = acc ++ [put_val n v (rd_T24 l (j : Int))] ++ (l.drop (j + 1)).map (put_val n v) := by simp
      rw [e]
      refine Ev.step (Ev.bind he1 (G := fun k bt => if acc.length < 2932031007402 then chalklinelaw11_put.l0 k n v (acc ++ [(⟨bt.1, bt.2.1, bt.2.2.1, bt.2.2.2⟩ : S24)]) (wrap64 ((j : Int) + 1)) a b c l else none) ?_) (fun k => ?_)
      · refine Ev.congr h (fun k => ?_)
        rw [if_pos (by omega), wrap_succ (by omega)]
        have eta : ∀ y : S24, (⟨y.f0, y.f1, y.f2, y.f3⟩ : S24) = y := fun y => by cases y; rfl
        show chalklinelaw11_put.l0 k n v (acc ++ [(⟨(put_val n v (rd_T24 l (j : Int))).f0, (put_val n v (rd_T24 l (j : Int))).f1, (put_val n v (rd_T24 l (j : Int))).f2, (put_val n v (rd_T24 l (j : Int))).f3⟩ : S24)]) _ a b c l = _
        rw [eta]
      · rw [chalklinelaw11_put.l0, if_pos (by omega), if_pos (by omega)]
  have h0 := loop _ 0 [] rfl (Nat.zero_le _) rfl
  rw [List.drop_zero, List.nil_append] at h0
  rw [put_val_eq]
  by_cases h1 : a = 2
  · by_cases h2 : b = n
    · rw [if_pos ⟨h1, h2⟩]
      refine Ev.step (Ev.step (F := fun k => chalklinelaw11_put.j0 k n v (b == n) a b c l) (Ev.pure _) (fun k => ?_)) (fun k => ?_)
      · rw [chalklinelaw11_put.j0, if_pos (beq_iff_eq.2 h2)]; rfl
      · show chalklinelaw11_put.f (k + 1) a b c l n v = _
        rw [chalklinelaw11_put.f, if_pos h1]
    · rw [if_neg (fun h => h2 h.2)]
      refine Ev.step (Ev.step (F := fun k => chalklinelaw11_put.j0 k n v (b == n) a b c l) h0 (fun k => ?_)) (fun k => ?_)
      · rw [chalklinelaw11_put.j0, if_neg (by simpa using h2)]; rfl
      · show chalklinelaw11_put.f (k + 1) a b c l n v = _
        rw [chalklinelaw11_put.f, if_pos h1]
  · rw [if_neg (fun h => h1 h.1)]
    refine Ev.step (Ev.step (F := fun k => chalklinelaw11_put.j0 k n v false a b c l) h0 (fun k => ?_)) (fun k => ?_)
    · rw [chalklinelaw11_put.j0, if_neg (by simp)]; rfl
    · show chalklinelaw11_put.f (k + 1) a b c l n v = _
      rw [chalklinelaw11_put.f, if_neg h1]

theorem formed_map {N a b c : Int} {l : List S24} (f : S24 → S24) : formedB N ⟨a, b, c, l.map f⟩ = formedB N ⟨a, b, c, l⟩ := by
  unfold formedB
  simp only [List.length_map]
theorem put_WF {N n v : Int} (hv : v = 0 ∨ v = 1) : ∀ t : S24, WF N t → WF N (put_val n v t) := by
  refine S24_ind fun a b c l ih hw => ?_
  obtain ⟨hf, hk⟩ := WF_mk.1 hw
  rw [put_val_eq]
  split
  · refine WF_mk.2 ⟨?_, fun x hx => by cases hx⟩
    unfold formedB
    rw [if_neg (by simp), if_pos rfl, if_pos hv]
    rfl
  · refine WF_mk.2 ⟨(formed_map _).trans hf, fun x hx => ?_⟩
    obtain ⟨y, hy, rfl⟩ := List.mem_map.1 hx
    exact ih y hy (hk y hy)
theorem put_size {n v : Int} : ∀ t : S24, (nodesT (put_val n v t)).length ≤ (nodesT t).length := by
  refine S24_ind fun a b c l ih => ?_
  rw [put_val_eq]
  split
  · simp [nodesT, nodesL]
  · simp only [nodesT, List.length_cons]
    have := map_size (f := put_val n v) (l := l) fun x hx => ih x hx
    omega
theorem put_none {n v : Int} : ∀ t : S24, ¬ VarIn n (put_val n v t) := by
  refine S24_ind fun a b c l ih h => ?_
  rw [put_val_eq] at h
  split at h
  · rcases VarIn_mk.1 h with ⟨h1, _⟩ | ⟨x, hx, _⟩
    · cases h1
    · cases hx
  · rename_i hn
    rcases VarIn_mk.1 h with h1 | ⟨x, hx, hv⟩
    · exact hn h1
    · obtain ⟨y, hy, rfl⟩ := List.mem_map.1 hx
      exact ih y hy hv
theorem put_value (A : List Bool) (n v : Int) (is : Bool) (hv : (v == 1) = is) (h1 : 1 ≤ n) (h2 : n < (A.length : Int)) : ∀ t : S24, flat_val A (put_val n v t) = flat_val (A.set n.toNat is) t := by
  refine S24_ind fun a b c l ih => ?_
  rw [put_val_eq]
  have hl : (A.set n.toNat is).length = A.length := List.length_set ..
  have hany : (l.map (put_val n v)).any (flat_val A) = l.any (flat_val (A.set n.toNat is)) := by
    rw [List.any_map, Bool.eq_iff_iff, List.any_eq_true, List.any_eq_true]
    constructor
    · rintro ⟨x, hx, h⟩; exact ⟨x, hx, (ih x hx).symm.trans h⟩
    · rintro ⟨x, hx, h⟩; exact ⟨x, hx, (ih x hx).trans h⟩
  have hfil : ((l.map (put_val n v)).filter (flat_val A)).length = (l.filter (flat_val (A.set n.toNat is))).length := by
    rw [List.filter_map, List.length_map]
    congr 1
    exact List.filter_congr fun x hx => ih x hx
  split
  · rename_i hh
    obtain ⟨rfl, rfl⟩ := hh
    rw [flat_val_eq, flat_val_eq, if_pos rfl, if_neg (by decide), if_pos rfl, if_pos (by omega), hl, if_pos h2, hv, List.getD_eq_getElem?_getD, List.getElem?_set_self (by omega)]
    rfl
  · rename_i hh
    rw [flat_val_eq, flat_val_eq, hany, hfil, List.length_map, hl]
    by_cases ha : a = 2
    · have hb : b ≠ n := fun e => hh ⟨ha, e⟩
      subst ha
      rw [if_neg (show ¬ (2 : Int) = 1 by decide), if_pos rfl, if_neg (show ¬ (2 : Int) = 1 by decide), if_pos rfl]
      by_cases h0 : 0 < b
      · rw [if_pos h0, if_pos h0, List.getD_eq_getElem?_getD, List.getD_eq_getElem?_getD, List.getElem?_set_ne (by omega)]
      · rw [if_neg h0, if_neg h0]
    · rw [if_neg ha, if_neg ha]

theorem subst_all (t : S24) (A0 : Option Addr) (c0 : Nat) (n : Int) (is : Bool) (A : List Bool) (A1 : Option Addr) (c1 : Nat) (w : World) (hC : k24.C w A0 t.f3.length t.f3) (hc0 : t.f3.length ≤ c0) (hn : (nodesT t).length ≤ 1048576) (hA : Kd.C Kd.bool w A1 A.length A) (hc1 : A.length ≤ c1) (hn1 : A.length ≤ 1048576) (hL : Laid w) :
    Calls Tryd.prog 8 #[.agg #[.int .i64 t.f0, .int .i64 t.f1, .int .i64 t.f2, .slice A0 t.f3.length c0], .int .i64 n, .bool is, .slice A1 A.length c1] w fun e w' => e = .returned (.bool true) ∧ Below w.heap.size w w' := by
  have hf := fitB_of_nodes t (by omega)
  obtain ⟨b, he, _⟩ := few_ev t A hf
  obtain ⟨kf, hkf⟩ := he.got
  obtain ⟨kp, hkp⟩ := (put_ev n (if is = true then 1 else 0) t hf).got
  refine subst_walk t n is A A0 c0 A1 c1 w hC hc0 hA hc1 hL hf hn1 kf b hkf kp _ hkp (fun hc h1 h2 => ?_)
  have hv : (if is = true then (1 : Int) else 0) = 0 ∨ (if is = true then (1 : Int) else 0) = 1 := by cases is <;> simp
  have hv2 : ((if is = true then (1 : Int) else 0) == 1) = is := by cases is <;> simp
  generalize (if is = true then (1 : Int) else 0) = v at hv hv2
  obtain ⟨hw, hs⟩ := (check_zero (by decide) (by decide) (by omega)).1 hc
  have hps := put_size (n := n) (v := v) t
  have hpc : check_val 65536 (put_val n v t) = 0 := (check_zero (by decide) (by decide) (by omega)).2 ⟨put_WF hv t hw, by omega⟩
  obtain ⟨g1, g2, g3, g4, g5, g6, g7⟩ := simple_good (by omega) hpc
  refine ⟨g3, by unfold simple_val; rw [if_pos hpc], g7, by omega, fun u hu e => ?_, ?_⟩
  · subst e
    exact put_none t (made_vars _ 65536 _ g1 (vars_in hu))
  · rw [made_value A 65536 _ g1 (by omega)]
    exact put_value A n v is hv2 h1 h2 t

end Go.Proofs.YtphegiohkggddaaDoor.PF
