/- The trees among the arguments, opened: as data that the memory reads; that their lists fit is what the row's reach bounds. -/
import Derived.Test.YtphegiohkggddaaDoorOpenG
import Derived.Test.YtphegiohkggddaaDoorPureA
import Derived.Test.YtphegiohkggddaaDoorPartsG
import Derived.WalkKit
import Derived.ProofKit
import Derived.OpenShut
import Derived.ShutString
import Derived.ChangeOld
import Derived.Below
import Derived.SizedLaws
import Derived.Lib.SmallJoins
import Derived.Deep.Grids
namespace Go.Proofs.YtphegiohkggddaaDoor.PF
open Go.ChangeShapes Go.WideShapes Go.ChangeAt Go.RowKit Go.Lib Go.Proofs.YtphegiohkggddaaDoorW.PrintWords Go.Proofs.YtphegiohkggddaaDoorW.PrintLast Go.Proofs.YtphegiohkggddaaDoorW.PrintMore
set_option linter.unusedVariables false

theorem weightsAll_mem {H : Type} {P : Program} {e : TypeId} {d : DataW H} : ∀ {l : List (DataW H)}, d ∈ l → ∀ n ∈ d.weights P e, n ∈ DataW.weightsAll P e l
  | x :: l, h, n, hn => by
    rw [DataW.weightsAll, List.mem_append]
    rcases List.mem_cons.1 h with rfl | h
    · exact .inl hn
    · exact .inr (weightsAll_mem h n hn)

section
variable {H : Type} {enc : TypeId × Value → H} {w : World} {held : Bool}
/-- A row of trees, from its elements. -/
theorem row_openF {n : Nat} (ih : ∀ m, m < n → ∀ (cs : List Value) (y : DataW H × List MemPlace), DataW.trod enc Tryd.prog w 0 (fun _ => true) held m 24 cs = some y → ∃ x : S24, k24.K w x cs ∧ ((∀ n ∈ y.1.weights Tryd.prog 24, n ≤ reachBytes) → fitB x = true))
    {fuel : Nat} (hfn : fuel ≤ n) {cs : List Value} {y : DataW H × List MemPlace} (h : DataW.trod enc Tryd.prog w 0 (fun _ => true) held fuel 22 cs = some y) :
    ∃ (A : Option Addr) (c : Nat) (l : List S24), cs = [.slice A l.length c] ∧ l.length ≤ c ∧ k24.C w A l.length l ∧ ((∀ n ∈ y.1.weights Tryd.prog 22, n ≤ reachBytes) → l.length < 2932031007402 ∧ ∀ x ∈ l, fitB x = true) := by
  rcases DataW.trod_slice Tryd.underlying22 h with ⟨rfl, rfl⟩ | ⟨a, len, cap, elems, rest, m, hfu, rfl, rfl, hb, hl, hm, hlen, hel, _, _⟩
  · exact ⟨none, 0, [], rfl, Nat.le_refl _, Kd.C_nil _ _, fun _ => ⟨by decide, fun x hx => by cases hx⟩⟩
  · have hcells : Tryd.prog.cellsOf 24 = 4 := by kernel_rfl
    rw [hcells] at hel
    have hx : ∀ i, i < len → ∃ x : S24, ∃ e cs', elems[i]? = some e ∧ w.cells? 0 (a.add (i * 4)) 4 = some cs' ∧ k24.K w x cs' ∧ ((∀ n ∈ e.1.weights Tryd.prog 24, n ≤ reachBytes) → fitB x = true) := by
      intro i hi
      have key := hel i hi
      rw [List.getElem?_eq_getElem (by omega)] at key
      obtain ⟨cs', h1, h2⟩ := Option.bind_eq_some_iff.1 key
      obtain ⟨x, hK, hn⟩ := ih m (by omega) cs' _ h2
      exact ⟨x, _, cs', List.getElem?_eq_getElem (by omega), h1, hK, hn⟩
    obtain ⟨X, hX⟩ := Deep.choose_lt hx
    have hll : ((List.range len).map X).length = len := by simp
    refine ⟨some a, cap, (List.range len).map X, by rw [hll], by rw [hll]; exact hl, ⟨rfl, by rw [hll]; exact Nat.le_trans (Nat.le_trans hl hm) (by decide), fun _ => ⟨a, rfl, ?_⟩⟩, ?_⟩
    · intro j p hj
      have hjl : j < len := by
        have := (List.getElem?_eq_some_iff.1 hj).1
        omega
      have hp : p = X j := by
        simp [hjl] at hj
        exact hj.symm
      subst hp
      obtain ⟨e, cs', he, hc, hK, hn⟩ := hX j hjl
      obtain ⟨_, hlen4, hcell⟩ := World.cells?_some hc
      refine ⟨cs', hlen4, hK, fun i u hu => ?_⟩
      have hi4 : i < 4 := by
        have := (List.getElem?_eq_some_iff.1 hu).1
        omega
      have := hcell i hi4
      rw [hu] at this
      rw [show a.add (j * k24.sz + i) = (a.add (j * 4)).add i from by
        show a.add (j * 4 + i) = _
        cases a
        by_cases h1 : j * 4 = 0
        · by_cases h2 : i = 0 <;> simp [Addr.add, h1, h2]
        · by_cases h2 : i = 0
          · simp [Addr.add, h1, h2]
          · simp [Addr.add, h1, h2, Nat.add_assoc]]
      exact this
    · intro hw
      have hb24 : Tryd.prog.bytesOf 24 = 48 := by kernel_rfl
      have hr : reachBytes = 140737488351232 := rfl
      simp only [DataW.weights, Tryd.underlying22, List.mem_cons, List.mem_append, hb24, hr] at hw
      refine ⟨?_, fun x hx => ?_⟩
      · have h48 := hw _ (.inl rfl)
        rw [List.length_map, hlen] at h48
        rw [hll]
        omega
      · obtain ⟨i, hi, rfl⟩ := List.mem_map.1 hx
        have hil : i < len := List.mem_range.1 hi
        obtain ⟨e, cs', he, _, _, hn⟩ := hX i hil
        refine hn fun n hnw => ?_
        have hme : e.1 ∈ elems.map (·.1) := List.mem_map.2 ⟨e, List.mem_of_getElem? he, rfl⟩
        have := hw n (.inr (.inl (weightsAll_mem hme n hnw)))
        rw [hr]
        exact this

theorem tree_openF : ∀ (n : Nat) (cs : List Value) (y : DataW H × List MemPlace), DataW.trod enc Tryd.prog w 0 (fun _ => true) held n 24 cs = some y → ∃ x : S24, k24.K w x cs ∧ ((∀ n ∈ y.1.weights Tryd.prog 24, n ≤ reachBytes) → fitB x = true) := by
  intro n
  induction n using Nat.strongRecOn with
  | _ n ih =>
  intro cs y h
  obtain ⟨v0, v1, v2, v3, y0, y1, y2, y3, m, rfl, rfl, rfl, h0, h1, h2, h3⟩ := trod_agg4 Tryd.underlying24 (by kernel_rfl) (by kernel_rfl) h
  obtain ⟨a, hc0, rfl, _⟩ := DataW.trod_int Tryd.underlying3 h0
  obtain ⟨b, hc1, rfl, _⟩ := DataW.trod_int Tryd.underlying3 h1
  obtain ⟨c, hc2, rfl, _⟩ := DataW.trod_int Tryd.underlying3 h2
  obtain rfl : v0 = .int .i64 a := by simpa using hc0
  obtain rfl : v1 = .int .i64 b := by simpa using hc1
  obtain rfl : v2 = .int .i64 c := by simpa using hc2
  obtain ⟨A, cc, l, hv3, hl, hC, hn⟩ := row_openF (n := m + 1) ih (Nat.le_succ m) h3
  obtain rfl : v3 = .slice A l.length cc := by simpa using hv3
  refine ⟨⟨a, b, c, l⟩, k24_mk w ⟨a, b, c, l⟩ hl hC, ?_⟩
  intro hw
  have hw3 : ∀ n ∈ y3.1.weights Tryd.prog 22, n ≤ reachBytes := fun n hnw => hw n (by
    simp only [DataW.weights, Tryd.underlying24]
    exact DataW.weights_mem_each (j := 3) (t := 22) rfl rfl n hnw)
  obtain ⟨g1, g2⟩ := hn hw3
  simp only [fitB, Bool.and_eq_true, decide_eq_true_eq]
  exact ⟨g1, fitsB_of g2⟩

theorem openTreeF {base : Nat} {v : Value} {d : DataW H} {p : List MemPlace} (hv : Value.okWide Tryd.prog w .any base 24 v) (h : DataW.Trod enc Tryd.prog w 0 (fun _ => true) held 24 v d p) :
    ∃ (x : S24) (A : Option Addr) (c : Nat), v = .agg #[.int .i64 x.f0, .int .i64 x.f1, .int .i64 x.f2, .slice A x.f3.length c] ∧ k24.C w A x.f3.length x.f3 ∧ x.f3.length ≤ c ∧ ((∀ n ∈ d.weights Tryd.prog 24, n ≤ reachBytes) → fitB x = true) := by
  obtain ⟨cs, rfl, hsz⟩ := okWide_struct Tryd.underlying24 hv
  obtain ⟨fuel, hf⟩ := h
  obtain ⟨x, hK, hn⟩ := tree_openF fuel _ _ hf
  obtain ⟨A, c, hcs, hl, hC⟩ := k24_open hK
  refine ⟨x, A, c, ?_, hC, hl, hn⟩
  have : cs.toList = [.int .i64 x.f0, .int .i64 x.f1, .int .i64 x.f2, .slice A x.f3.length c] := hcs
  rw [show cs = #[.int .i64 x.f0, .int .i64 x.f1, .int .i64 x.f2, .slice A x.f3.length c] from by cases cs; simp_all]
theorem openTreesF {base : Nat} {v : Value} {d : DataW H} {p : List MemPlace} (hv : Value.okWide Tryd.prog w .any base 22 v) (h : DataW.Trod enc Tryd.prog w 0 (fun _ => true) held 22 v d p) :
    ∃ (A : Option Addr) (c : Nat) (l : List S24), v = .slice A l.length c ∧ k24.C w A l.length l ∧ l.length ≤ c ∧ ((∀ n ∈ d.weights Tryd.prog 22, n ≤ reachBytes) → l.length < 2932031007402 ∧ ∀ x ∈ l, fitB x = true) := by
  obtain ⟨a, len, cap, rfl⟩ := okWide_slice Tryd.underlying22 hv
  obtain ⟨fuel, hf⟩ := h
  obtain ⟨A, c, l, hcs, hl, hC, hn⟩ := row_openF (n := fuel) (fun m _ => tree_openF m) (Nat.le_refl _) (cs := [.slice a len cap]) (by simpa [Value.cells] using hf)
  refine ⟨A, c, l, by simpa using hcs, hC, hl, hn⟩
end

end Go.Proofs.YtphegiohkggddaaDoor.PF
