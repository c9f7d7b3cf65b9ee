/- The law's makers of trees: a variable, a constant, a node, a negation. -/
import Derived.Test.YtphegiohkggddaaDoorSimpleG
import Derived.Test.YtphegiohkggddaaDoorSameG
namespace Go.Proofs.YtphegiohkggddaaDoor.PF
open Go.RowKit Go.Proofs.YtphegiohkggddaaDoorW.PrintWords Go.Proofs.YtphegiohkggddaaDoorW.PrintLast Go.Proofs.YtphegiohkggddaaDoorW.PrintMore
set_option linter.unusedVariables false
set_option linter.unusedSimpArgs false

theorem add_mk (g k : Nat) : (⟨g, 0, none⟩ : Addr).add k = ⟨g, k, none⟩ := by unfold Addr.add; split <;> simp_all
theorem box0 (w : World) {w0 : World} (h : w.alloc (.cells #[.int .i64 0, .int .i64 0, .int .i64 0, .slice none 0 0] 24) = w0) : w0.heap.size = w.heap.size + 1 ∧ Below w.heap.size w w0 ∧ w0.heap[w.heap.size]? = some (.cells #[.int .i64 0, .int .i64 0, .int .i64 0, .slice none 0 0] 24 (0, 0)) := by
  subst h
  exact ⟨by simp, (Below.refl w.heap.size w).alloc (Nat.le_refl _) _, World.alloc_heap_new w _⟩

theorem v_calls (n : Int) (w : World) : Calls Tryd.prog 25 #[.int .i64 n] w fun e w' => e = .returned (.agg #[.int .i64 2, .int .i64 n, .int .i64 0, .slice none 0 0]) ∧ Below w.heap.size w w' := by
  have hu24 := Tryd.underlying24
  obtain ⟨w0, hw0⟩ : ∃ w0, w.alloc (.cells #[.int .i64 0, .int .i64 0, .int .i64 0, .slice none 0 0] 24) = w0 := ⟨_, rfl⟩
  obtain ⟨hs0, hb0, q⟩ := box0 w hw0
  have HB := Lib.hid hb0
  have HQ := Lib.hid q
  have z0 : w0.cell? ⟨w.heap.size, 0, none⟩ = some (.int .i64 0) := (blk_cell q 0).trans rfl
  have y0 := blk_frozen q 0
  have z1 : w0.cell? ⟨w.heap.size, 1, none⟩ = some (.int .i64 0) := (blk_cell q 1).trans rfl
  have y1 := blk_frozen q 1
  have z2 : w0.cell? ⟨w.heap.size, 2, none⟩ = some (.int .i64 0) := (blk_cell q 2).trans rfl
  have y2 := blk_frozen q 2
  have z3 : w0.cell? ⟨w.heap.size, 3, none⟩ = some (.slice none 0 0) := (blk_cell q 3).trans rfl
  have y3 := blk_frozen q 3
  clear hb0 q
  go_enter Tryd.func25, Tryd.ntmps25
  go_wp2
  refine bodyPost_ret (results_cell_row rfl _ _ w.heap.size 24 #[.int .i64 2, .int .i64 n, .int .i64 0, .slice none 0 0] (0, 0) _ rfl (four_blk _ _ _ _ HQ.out) Tryd.underlying24 rfl (by kernel_rfl)) rfl ?_
  exact ⟨rfl, four_below _ _ _ _ HB.out (Nat.le_refl _)⟩

theorem c_calls (n : Int) (w : World) : Calls Tryd.prog 26 #[.int .i64 n] w fun e w' => e = .returned (.agg #[.int .i64 1, .int .i64 n, .int .i64 0, .slice none 0 0]) ∧ Below w.heap.size w w' := by
  have hu24 := Tryd.underlying24
  obtain ⟨w0, hw0⟩ : ∃ w0, w.alloc (.cells #[.int .i64 0, .int .i64 0, .int .i64 0, .slice none 0 0] 24) = w0 := ⟨_, rfl⟩
  obtain ⟨hs0, hb0, q⟩ := box0 w hw0
  have HB := Lib.hid hb0
  have HQ := Lib.hid q
  have z0 : w0.cell? ⟨w.heap.size, 0, none⟩ = some (.int .i64 0) := (blk_cell q 0).trans rfl
  have y0 := blk_frozen q 0
  have z1 : w0.cell? ⟨w.heap.size, 1, none⟩ = some (.int .i64 0) := (blk_cell q 1).trans rfl
  have y1 := blk_frozen q 1
  have z2 : w0.cell? ⟨w.heap.size, 2, none⟩ = some (.int .i64 0) := (blk_cell q 2).trans rfl
  have y2 := blk_frozen q 2
  have z3 : w0.cell? ⟨w.heap.size, 3, none⟩ = some (.slice none 0 0) := (blk_cell q 3).trans rfl
  have y3 := blk_frozen q 3
  clear hb0 q
  go_enter Tryd.func26, Tryd.ntmps26
  go_wp2
  refine bodyPost_ret (results_cell_row rfl _ _ w.heap.size 24 #[.int .i64 1, .int .i64 n, .int .i64 0, .slice none 0 0] (0, 0) _ rfl (four_blk _ _ _ _ HQ.out) Tryd.underlying24 rfl (by kernel_rfl)) rfl ?_
  exact ⟨rfl, four_below _ _ _ _ HB.out (Nat.le_refl _)⟩

theorem of_calls (kd k : Int) (A : Option Addr) (n c : Nat) (w : World) : Calls Tryd.prog 21 #[.int .i64 kd, .int .i64 k, .slice A n c] w fun e w' => e = .returned (.agg #[.int .i64 kd, .int .i64 0, .int .i64 k, .slice A n c]) ∧ Below w.heap.size w w' := by
  have hu24 := Tryd.underlying24
  obtain ⟨w0, hw0⟩ : ∃ w0, w.alloc (.cells #[.int .i64 0, .int .i64 0, .int .i64 0, .slice none 0 0] 24) = w0 := ⟨_, rfl⟩
  obtain ⟨hs0, hb0, q⟩ := box0 w hw0
  have HB := Lib.hid hb0
  have HQ := Lib.hid q
  have z0 : w0.cell? ⟨w.heap.size, 0, none⟩ = some (.int .i64 0) := (blk_cell q 0).trans rfl
  have y0 := blk_frozen q 0
  have z1 : w0.cell? ⟨w.heap.size, 1, none⟩ = some (.int .i64 0) := (blk_cell q 1).trans rfl
  have y1 := blk_frozen q 1
  have z2 : w0.cell? ⟨w.heap.size, 2, none⟩ = some (.int .i64 0) := (blk_cell q 2).trans rfl
  have y2 := blk_frozen q 2
  have z3 : w0.cell? ⟨w.heap.size, 3, none⟩ = some (.slice none 0 0) := (blk_cell q 3).trans rfl
  have y3 := blk_frozen q 3
  clear hb0 q
  go_enter Tryd.func21, Tryd.ntmps21
  go_wp2
  refine bodyPost_ret (results_cell_row rfl _ _ w.heap.size 24 #[.int .i64 kd, .int .i64 0, .int .i64 k, .slice A n c] (0, 0) _ rfl (four_blk _ _ _ _ HQ.out) Tryd.underlying24 rfl (by kernel_rfl)) rfl ?_
  exact ⟨rfl, four_below _ _ _ _ HB.out (Nat.le_refl _)⟩

theorem C_one {W : World} {g : Nat} {x : S24} {cs : List Value} (h : W.heap[g]? = some (.cells cs.toArray 24 (0, 0))) (hK : k24.K W x cs) : k24.C W (some ⟨g, 0, none⟩) 1 [x] := by
  refine ⟨rfl, by decide, fun _ => ⟨_, rfl, fun j p hj => ?_⟩⟩
  match j, hj with
  | 0, hj =>
    obtain rfl := Option.some.inj hj
    refine ⟨cs, k24.K_len hK, hK, fun i u hu => ?_⟩
    have := blk_cell h i
    rw [add_mk, Nat.zero_mul, Nat.zero_add]
    refine this.trans ?_
    simpa using hu
theorem C_rows {W : World} {g : Nat} : ∀ (xs : List S24) (css : List (List Value)) (_ : xs.length ≤ 1000000) (h : W.heap[g]? = some (.cells css.flatten.toArray 24 (0, 0))) (hl : xs.length = css.length) (hK : ∀ (i : Nat) (x : S24) (cs : List Value), xs[i]? = some x → css[i]? = some cs → k24.K W x cs), k24.C W (some ⟨g, 0, none⟩) xs.length xs := by
  intro xs css hm h hl hK
  refine ⟨rfl, by omega, fun _ => ⟨_, rfl, fun j p hj => ?_⟩⟩
  have hjl : j < css.length := by have := (List.getElem?_eq_some_iff.1 hj).1; omega
  have hKj := hK j p css[j] hj (List.getElem?_eq_getElem hjl)
  refine ⟨css[j], k24.K_len hKj, hKj, fun i u hu => ?_⟩
  have h4 : ∀ cs ∈ css, cs.length = 4 := by
    intro cs hcs
    obtain ⟨i, hi, rfl⟩ := List.getElem_of_mem hcs
    have hx : xs[i]? = some xs[i] := List.getElem?_eq_getElem (by omega)
    exact k24.K_len (hK i _ _ hx (List.getElem?_eq_getElem hi))
  have hflat : ∀ (css : List (List Value)) (_ : ∀ cs ∈ css, cs.length = 4) (j i : Nat) (hj : j < css.length) (u : Value), css[j][i]? = some u → css.flatten[j * 4 + i]? = some u := by
    intro css
    induction css with
    | nil => intro _ j i hj; simp at hj
    | cons c css ih =>
      intro h4 j i hj u hu
      have hc : c.length = 4 := h4 c (List.mem_cons_self ..)
      cases j with
      | zero =>
        have hu' : c[i]? = some u := hu
        have hi : i < c.length := (List.getElem?_eq_some_iff.1 hu').1
        rw [List.flatten_cons, Nat.zero_mul, Nat.zero_add, List.getElem?_append_left hi]
        exact hu'
      | succ j =>
        rw [List.flatten_cons, List.getElem?_append_right (by omega), show (j + 1) * 4 + i - c.length = j * 4 + i by omega]
        exact ih (fun cs hcs => h4 cs (List.mem_cons_of_mem _ hcs)) j i (by simpa using hj) u hu
  have := blk_cell h (j * 4 + i)
  rw [show (k24.sz) = 4 from rfl, add_mk]
  refine this.trans ?_
  rw [List.getElem?_toArray]
  exact hflat css h4 j i hjl u hu

theorem not_calls (t : S24) (A : Option Addr) (c : Nat) (w : World) (hC : k24.C w A t.f3.length t.f3) (hc : t.f3.length ≤ c) : Calls Tryd.prog 20 #[.agg #[.int .i64 t.f0, .int .i64 t.f1, .int .i64 t.f2, .slice A t.f3.length c]] w fun e w' => ∃ g, e = .returned (.agg #[.int .i64 3, .int .i64 0, .int .i64 0, .slice (some ⟨g, 0, none⟩) 1 1]) ∧ k24.C w' (some ⟨g, 0, none⟩) 1 [t] ∧ w.heap.size + 2 ≤ g ∧ Below w.heap.size w w' := by
  have hu24 := Tryd.underlying24
  obtain ⟨w0, hw0⟩ : ∃ w0, (w.alloc (.cells #[.int .i64 t.f0, .int .i64 t.f1, .int .i64 t.f2, .slice A t.f3.length c] 24)).alloc (.cells #[.int .i64 0, .int .i64 0, .int .i64 0, .slice none 0 0] 24) = w0 := ⟨_, rfl⟩
  have hs0 : w0.heap.size = w.heap.size + 2 := by rw [← hw0]; simp
  have hb0 : Below w.heap.size w w0 := by rw [← hw0]; exact ((Below.refl w.heap.size w).alloc (Nat.le_refl _) _).alloc (by simp) _
  have q1 : w0.heap[w.heap.size]? = some (.cells #[.int .i64 t.f0, .int .i64 t.f1, .int .i64 t.f2, .slice A t.f3.length c] 24 (0, 0)) := by rw [← hw0]; exact alloc_lt (by simp) (alloc_at (by simp))
  have q2 : w0.heap[w.heap.size + 1]? = some (.cells #[.int .i64 0, .int .i64 0, .int .i64 0, .slice none 0 0] 24 (0, 0)) := by rw [← hw0]; exact alloc_at (by simp)
  have HB := Lib.hid hb0
  have HC := Lib.hid hC
  have e0 : w0.cell? ⟨w.heap.size, 0, none⟩ = some (.int .i64 t.f0) := (blk_cell q1 0).trans rfl
  have e1 : w0.cell? ⟨w.heap.size, 1, none⟩ = some (.int .i64 t.f1) := (blk_cell q1 1).trans rfl
  have e2 : w0.cell? ⟨w.heap.size, 2, none⟩ = some (.int .i64 t.f2) := (blk_cell q1 2).trans rfl
  have e3 : w0.cell? ⟨w.heap.size, 3, none⟩ = some (.slice A t.f3.length c) := (blk_cell q1 3).trans rfl
  have q := alloc_lt (o := .cells #[.int .i64 t.f0, .int .i64 t.f1, .int .i64 t.f2, .slice A t.f3.length c] 24) (by omega) q2
  have HQ := Lib.hid q
  have z0 : (w0.alloc (.cells #[.int .i64 t.f0, .int .i64 t.f1, .int .i64 t.f2, .slice A t.f3.length c] 24)).cell? ⟨w.heap.size + 1, 0, none⟩ = some (.int .i64 0) := (blk_cell q 0).trans rfl
  have y0 := blk_frozen q 0
  have z1 : (w0.alloc (.cells #[.int .i64 t.f0, .int .i64 t.f1, .int .i64 t.f2, .slice A t.f3.length c] 24)).cell? ⟨w.heap.size + 1, 1, none⟩ = some (.int .i64 0) := (blk_cell q 1).trans rfl
  have y1 := blk_frozen q 1
  have z2 : (w0.alloc (.cells #[.int .i64 t.f0, .int .i64 t.f1, .int .i64 t.f2, .slice A t.f3.length c] 24)).cell? ⟨w.heap.size + 1, 2, none⟩ = some (.int .i64 0) := (blk_cell q 2).trans rfl
  have y2 := blk_frozen q 2
  have z3 : (w0.alloc (.cells #[.int .i64 t.f0, .int .i64 t.f1, .int .i64 t.f2, .slice A t.f3.length c] 24)).cell? ⟨w.heap.size + 1, 3, none⟩ = some (.slice none 0 0) := (blk_cell q 3).trans rfl
  have y3 := blk_frozen q 3
  have HL := Lib.hid hc
  have HS := Lib.hid hs0
  clear hb0 q1 q2 q hC hc hs0
  go_enter Tryd.func20, Tryd.ntmps20
  go_wp2
  have hs0 := HS.out
  refine bodyPost_ret (results_cell_row rfl _ _ (w.heap.size + 1) 24 #[.int .i64 3, .int .i64 0, .int .i64 0, .slice (some ⟨w0.heap.size, 0, none⟩) 1 1] (0, 0) _ rfl (four_blk _ _ _ _ HQ.out) Tryd.underlying24 rfl (by kernel_rfl)) rfl ?_
  have hb1 : Below w.heap.size w (w0.alloc (.cells #[.int .i64 t.f0, .int .i64 t.f1, .int .i64 t.f2, .slice A t.f3.length c] 24)) := HB.out.alloc HB.out.size _
  have hb2 := four_below (.int .i64 3) (.int .i64 0) (.int .i64 0) (.slice (some ⟨w0.heap.size, 0, none⟩) 1 1) hb1 (show w.heap.size ≤ w.heap.size + 1 by omega)
  refine ⟨w0.heap.size, rfl, ?_, by omega, hb2⟩
  refine C_one (cs := [.int .i64 t.f0, .int .i64 t.f1, .int .i64 t.f2, .slice A t.f3.length c]) ?_ (k24_mk _ t HL.out (Kd.C_below HC.out hb2))
  have := four_far (gb := w.heap.size + 1) (.int .i64 3) (.int .i64 0) (.int .i64 0) (.slice (some ⟨w0.heap.size, 0, none⟩) 1 1) (World.alloc_heap_new w0 (.cells #[.int .i64 t.f0, .int .i64 t.f1, .int .i64 t.f2, .slice A t.f3.length c] 24)) (by omega)
  exact this

end Go.Proofs.YtphegiohkggddaaDoor.PF
