/- The arguments of the laws, opened: a tree, a slice of trees, a slice of bools, as data that the memory reads, and what their bulk bounds. -/
import Derived.Test.YtphegiohkggddaaDoorRows
import Derived.Test.YtphegiohkggddaaDoorPartsG
import Derived.WalkKit
import Derived.ProofKit
import Derived.OpenShut
import Derived.ShutString
import Derived.ChangeOld
import Derived.Below
import Derived.SizedLaws
import Derived.Lib.SmallJoins
import Derived.Deep.Grids
namespace Go.Proofs.YtphegiohkggddaaDoor.PF
open Go.ChangeShapes Go.WideShapes Go.ChangeAt Go.RowKit Go.Lib Go.Proofs.YtphegiohkggddaaDoorW.PrintWords Go.Proofs.YtphegiohkggddaaDoorW.PrintLast Go.Proofs.YtphegiohkggddaaDoorW.PrintMore
set_option linter.unusedVariables false

theorem ownKnob_none : ownKnob Tryd.prog.godebug = none := by kernel_rfl
theorem laidOut : laidOutB Tryd.prog = true := by kernel_rfl

theorem bulk_one {H : Type} (d : DataW H) : 1 ≤ Rows.uptoBulk d := by
  cases d with
  | lit l => cases l <;> simp [Rows.uptoBulk]
  | nil => simp [Rows.uptoBulk]
  | ptr d => simp [Rows.uptoBulk]
  | slice elems spare => simp [Rows.uptoBulk]
  | agg parts => simp [Rows.uptoBulk]
  | iface t d => simp [Rows.uptoBulk]
  | map entries => simp [Rows.uptoBulk]
  | held h => simp [Rows.uptoBulk]
theorem bulk_length {H : Type} (l : List (DataW H)) : l.length ≤ Rows.uptoBulkAll l := by
  induction l with
  | nil => simp [Rows.uptoBulkAll]
  | cons x r ih => have := bulk_one x; simp only [Rows.uptoBulkAll, List.length_cons]; omega
theorem bulk_slice {H : Type} (elems spare : List (DataW H)) : Rows.uptoBulkAll elems + 1 ≤ Rows.uptoBulk (.slice elems spare) := by
  simp only [Rows.uptoBulk]
  omega
theorem bulk_nodes {H : Type} : ∀ (l : List S24) (ds : List (DataW H)), l.length = ds.length → (∀ (i : Nat) (x : S24) (d : DataW H), l[i]? = some x → ds[i]? = some d → (nodesT x).length ≤ Rows.uptoBulk d) → (nodesL l).length ≤ Rows.uptoBulkAll ds
  | [], [], _, _ => by simp [nodesL, Rows.uptoBulkAll]
  | [], _ :: _, h, _ => by simp at h
  | _ :: _, [], h, _ => by simp at h
  | x :: l, d :: ds, h, hp => by
    have h1 := hp 0 x d rfl rfl
    have h2 := bulk_nodes l ds (by simpa using h) (fun i x' d' hx hd => hp (i + 1) x' d' (by simpa using hx) (by simpa using hd))
    simp only [nodesL, List.length_append, Rows.uptoBulkAll]
    omega

section
variable {H : Type} {enc : TypeId × Value → H} {w : World} {held : Bool}
theorem trod_agg4 {P : Program} {base : Nat} {spare : Nat → Bool} {t : TypeId} {f0 f1 f2 f3 : Field} {fuel : Nat} {cs : List Value} {x : DataW H × List MemPlace} (hs : P.underlying t = some (.struct #[f0, f1, f2, f3])) (hone : Deep.oneCellFields P #[f0, f1, f2, f3] = true) (hC : P.cellsOf t = 4)
    (h : DataW.trod enc P w base spare held fuel t cs = some x) :
    ∃ (v0 v1 v2 v3 : Value) (y0 y1 y2 y3 : DataW H × List MemPlace) (n : Nat), fuel = n + 1 ∧ cs = [v0, v1, v2, v3] ∧ x = (.agg [y0.1, y1.1, y2.1, y3.1], y0.2 ++ (y1.2 ++ (y2.2 ++ y3.2))) ∧
      DataW.trod enc P w base spare held n f0.type [v0] = some y0 ∧ DataW.trod enc P w base spare held n f1.type [v1] = some y1 ∧ DataW.trod enc P w base spare held n f2.type [v2] = some y2 ∧ DataW.trod enc P w base spare held n f3.type [v3] = some y3 := by
  obtain ⟨xs, n, hfu, rfl, hl, hlen, hf⟩ := DataW.trod_struct hs h
  obtain ⟨o0, k0⟩ := Deep.hone_of hone 0 f0 rfl
  obtain ⟨o1, k1⟩ := Deep.hone_of hone 1 f1 rfl
  obtain ⟨o2, k2⟩ := Deep.hone_of hone 2 f2 rfl
  obtain ⟨o3, k3⟩ := Deep.hone_of hone 3 f3 rfl
  rw [hC] at hl
  match cs, hl, xs, hlen with
  | [v0, v1, v2, v3], _, [y0, y1, y2, y3], _ =>
    exact ⟨v0, v1, v2, v3, y0, y1, y2, y3, n, hfu, rfl, by simp, by simpa [o0, k0] using hf 0 f0 rfl, by simpa [o1, k1] using hf 1 f1 rfl, by simpa [o2, k2] using hf 2 f2 rfl, by simpa [o3, k3] using hf 3 f3 rfl⟩

instance : Inhabited S24 := ⟨z24⟩
/-- A row of trees, from its elements. -/
theorem row_open {n : Nat} (ih : ∀ m, m < n → ∀ (cs : List Value) (y : DataW H × List MemPlace), DataW.trod enc Tryd.prog w 0 (fun _ => true) held m 24 cs = some y → ∃ x : S24, k24.K w x cs ∧ (nodesT x).length ≤ Rows.uptoBulk y.1)
    {fuel : Nat} (hfn : fuel ≤ n) {cs : List Value} {y : DataW H × List MemPlace} (h : DataW.trod enc Tryd.prog w 0 (fun _ => true) held fuel 22 cs = some y) :
    ∃ (A : Option Addr) (c : Nat) (l : List S24), cs = [.slice A l.length c] ∧ l.length ≤ c ∧ k24.C w A l.length l ∧ (nodesL l).length + 1 ≤ Rows.uptoBulk y.1 := by
  rcases DataW.trod_slice Tryd.underlying22 h with ⟨rfl, rfl⟩ | ⟨a, len, cap, elems, rest, m, hfu, rfl, rfl, hb, hl, hm, hlen, hel, _, _⟩
  · exact ⟨none, 0, [], rfl, Nat.le_refl _, Kd.C_nil _ _, by simp [nodesL, Rows.uptoBulk]⟩
  · have hcells : Tryd.prog.cellsOf 24 = 4 := by kernel_rfl
    rw [hcells] at hel
    have hx : ∀ i, i < len → ∃ x : S24, ∃ e cs', elems[i]? = some e ∧ w.cells? 0 (a.add (i * 4)) 4 = some cs' ∧ k24.K w x cs' ∧ (nodesT x).length ≤ Rows.uptoBulk e.1 := by
      intro i hi
      have key := hel i hi
      rw [List.getElem?_eq_getElem (by omega)] at key
      obtain ⟨cs', h1, h2⟩ := Option.bind_eq_some_iff.1 key
      obtain ⟨x, hK, hn⟩ := ih m (by omega) cs' _ h2
      exact ⟨x, _, cs', List.getElem?_eq_getElem (by omega), h1, hK, hn⟩
    obtain ⟨X, hX⟩ := Deep.choose_lt hx
    have hll : ((List.range len).map X).length = len := by simp
    refine ⟨some a, cap, (List.range len).map X, by rw [hll], by rw [hll]; exact hl, ⟨rfl, by rw [hll]; exact Nat.le_trans (Nat.le_trans hl hm) (by decide), fun _ => ⟨a, rfl, ?_⟩⟩, ?_⟩
    · intro j p hj
      have hjl : j < len := by
        have := (List.getElem?_eq_some_iff.1 hj).1
        omega
      have hp : p = X j := by
        simp [hjl] at hj
        exact hj.symm
      subst hp
      obtain ⟨e, cs', he, hc, hK, hn⟩ := hX j hjl
      obtain ⟨_, hlen4, hcell⟩ := World.cells?_some hc
      refine ⟨cs', hlen4, hK, fun i u hu => ?_⟩
      have hi4 : i < 4 := by
        have := (List.getElem?_eq_some_iff.1 hu).1
        omega
      have := hcell i hi4
      rw [hu] at this
      rw [show a.add (j * k24.sz + i) = (a.add (j * 4)).add i from by
        show a.add (j * 4 + i) = _
        cases a
        by_cases h1 : j * 4 = 0
        · by_cases h2 : i = 0 <;> simp [Addr.add, h1, h2]
        · by_cases h2 : i = 0
          · simp [Addr.add, h1, h2]
          · simp [Addr.add, h1, h2, Nat.add_assoc]]
      exact this
    · refine Nat.le_trans (Nat.succ_le_succ (bulk_nodes _ (elems.map (·.1)) (by rw [hll, List.length_map, hlen]) ?_)) (bulk_slice _ _)
      intro i x d hi hd
      have hil : i < len := by
        have := (List.getElem?_eq_some_iff.1 hi).1
        omega
      have hp : x = X i := by
        simp [hil] at hi
        exact hi.symm
      subst hp
      obtain ⟨e, cs', he, _, _, hn⟩ := hX i hil
      rw [List.getElem?_map, he] at hd
      obtain rfl := Option.some.inj hd
      exact hn

theorem tree_open : ∀ (n : Nat) (cs : List Value) (y : DataW H × List MemPlace), DataW.trod enc Tryd.prog w 0 (fun _ => true) held n 24 cs = some y → ∃ x : S24, k24.K w x cs ∧ (nodesT x).length ≤ Rows.uptoBulk y.1 := by
  intro n
  induction n using Nat.strongRecOn with
  | _ n ih =>
  intro cs y h
  obtain ⟨v0, v1, v2, v3, y0, y1, y2, y3, m, rfl, rfl, rfl, h0, h1, h2, h3⟩ := trod_agg4 Tryd.underlying24 (by kernel_rfl) (by kernel_rfl) h
  obtain ⟨a, hc0, rfl, _⟩ := DataW.trod_int Tryd.underlying3 h0
  obtain ⟨b, hc1, rfl, _⟩ := DataW.trod_int Tryd.underlying3 h1
  obtain ⟨c, hc2, rfl, _⟩ := DataW.trod_int Tryd.underlying3 h2
  obtain rfl : v0 = .int .i64 a := by simpa using hc0
  obtain rfl : v1 = .int .i64 b := by simpa using hc1
  obtain rfl : v2 = .int .i64 c := by simpa using hc2
  obtain ⟨A, cc, l, hv3, hl, hC, hn⟩ := row_open (n := m + 1) ih (Nat.le_succ m) h3
  obtain rfl : v3 = .slice A l.length cc := by simpa using hv3
  refine ⟨⟨a, b, c, l⟩, k24_mk w ⟨a, b, c, l⟩ hl hC, ?_⟩
  simp only [nodesT, List.length_cons, Rows.uptoBulk, Rows.uptoBulkAll]
  omega

theorem openTree {base : Nat} {v : Value} {d : DataW H} {p : List MemPlace} (hv : Value.okWide Tryd.prog w .any base 24 v) (h : DataW.Trod enc Tryd.prog w 0 (fun _ => true) held 24 v d p) :
    ∃ (x : S24) (A : Option Addr) (c : Nat), v = .agg #[.int .i64 x.f0, .int .i64 x.f1, .int .i64 x.f2, .slice A x.f3.length c] ∧ k24.C w A x.f3.length x.f3 ∧ x.f3.length ≤ c ∧ (nodesT x).length ≤ Rows.uptoBulk d := by
  obtain ⟨cs, rfl, hsz⟩ := okWide_struct Tryd.underlying24 hv
  obtain ⟨fuel, hf⟩ := h
  obtain ⟨x, hK, hn⟩ := tree_open fuel _ _ hf
  obtain ⟨A, c, hcs, hl, hC⟩ := k24_open hK
  refine ⟨x, A, c, ?_, hC, hl, hn⟩
  have : cs.toList = [.int .i64 x.f0, .int .i64 x.f1, .int .i64 x.f2, .slice A x.f3.length c] := hcs
  rw [show cs = #[.int .i64 x.f0, .int .i64 x.f1, .int .i64 x.f2, .slice A x.f3.length c] from by cases cs; simp_all]
theorem openTrees {base : Nat} {v : Value} {d : DataW H} {p : List MemPlace} (hv : Value.okWide Tryd.prog w .any base 22 v) (h : DataW.Trod enc Tryd.prog w 0 (fun _ => true) held 22 v d p) :
    ∃ (A : Option Addr) (c : Nat) (l : List S24), v = .slice A l.length c ∧ k24.C w A l.length l ∧ l.length ≤ c ∧ (nodesL l).length + 1 ≤ Rows.uptoBulk d := by
  obtain ⟨a, len, cap, rfl⟩ := okWide_slice Tryd.underlying22 hv
  obtain ⟨fuel, hf⟩ := h
  obtain ⟨A, c, l, hcs, hl, hC, hn⟩ := row_open (n := fuel) (fun m _ => tree_open m) (Nat.le_refl _) (cs := [.slice a len cap]) (by simpa [Value.cells] using hf)
  refine ⟨A, c, l, by simpa using hcs, hC, hl, hn⟩
theorem openBools {base : Nat} {v : Value} {d : DataW H} {p : List MemPlace} (hv : Value.okWide Tryd.prog w .any base 25 v) (h : DataW.Trod enc Tryd.prog w 0 (fun _ => true) held 25 v d p) : ∃ (A : Option Addr) (c : Nat) (l : List Bool), v = .slice A l.length c ∧ Kd.C Kd.bool w A l.length l ∧ l.length ≤ c ∧ l.length + 1 ≤ Rows.uptoBulk d := by
  obtain ⟨a, len, cap, rfl⟩ := okWide_slice Tryd.underlying25 hv
  obtain ⟨fuel, hf⟩ := h
  rcases Deep.open_bools Tryd.underlying25 Tryd.underlying4 (by kernel_rfl) hf with ⟨hcs, hx⟩ | ⟨x, l, c, B, hcs, _, hl, hm, hx, hcell⟩
  · obtain ⟨rfl, rfl, rfl⟩ : a = none ∧ len = 0 ∧ cap = 0 := by simpa [Value.cells] using hcs
    exact ⟨none, 0, [], rfl, Kd.C_nil _ _, Nat.le_refl _, by have := bulk_one d; simpa using this⟩
  · obtain ⟨rfl, rfl, rfl⟩ : a = some x ∧ len = l ∧ cap = c := by simpa [Value.cells] using hcs
    have e : ((List.range len).map B).length = len := by simp
    refine ⟨some x, cap, (List.range len).map B, by rw [e], Kd.C_of_reads (d := false) (h1 := fun _ => rfl) ⟨rfl, by rw [e]; exact Nat.le_trans hl hm, fun _ => ⟨x, rfl, fun j hj => ?_⟩⟩, by rw [e]; exact hl, ?_⟩
    · rw [e] at hj
      rw [hcell j (by omega)]
      simp [hj]
    · rw [e]
      obtain ⟨rfl, _⟩ := Prod.mk.inj hx
      refine Nat.le_trans (Nat.succ_le_succ ?_) (bulk_slice _ _)
      exact Nat.le_trans (by simp) (bulk_length _)
end
end Go.Proofs.YtphegiohkggddaaDoor.PF
