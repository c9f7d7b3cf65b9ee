/- The variables of a tree: strictly increasing; each occurs. No program in sight. -/
import Derived.Test.YtphegiohkggddaaDoorPureU
import Derived.Test.YtphegiohkggddaaDoorVarsG
namespace Go.Proofs.YtphegiohkggddaaDoor.PF
open Go.RowKit Go.Proofs.YtphegiohkggddaaDoorW.PrintWords
set_option linter.unusedVariables false
set_option linter.unusedSimpArgs false

theorem compact_sorted (d : Array Int) (hs : ∀ j, j + 1 < d.size → d[j]! ≤ d[j + 1]!) : ∀ m, m ≤ d.size → (Lib.compactUpTo d m).Pairwise (· < ·) ∧ ∀ v ∈ Lib.compactUpTo d m, 0 < m ∧ v ≤ d[m - 1]!
  | 0, _ => by simp [Lib.compactUpTo]
  | m + 1, hm => by
    obtain ⟨ih1, ih2⟩ := compact_sorted d hs m (by omega)
    rw [Lib.compactUpTo_succ]
    by_cases hk : Lib.keeps d m = true
    · rw [if_pos hk]
      have hlt : ∀ v ∈ Lib.compactUpTo d m, v < d[m]! := by
        intro v hv
        obtain ⟨h0, hle⟩ := ih2 v hv
        obtain ⟨j, rfl⟩ : ∃ j, m = j + 1 := ⟨m - 1, by omega⟩
        have h1 := hs j (by omega)
        have hne : d[j + 1]! ≠ d[j]! := by
          intro e
          rw [Lib.keeps_neg (by omega) (by simpa using e)] at hk
          cases hk
        rw [show j + 1 - 1 = j from rfl] at hle
        omega
      refine ⟨List.pairwise_append.2 ⟨ih1, by simp, fun a ha b hb => by rw [List.mem_singleton.1 hb]; exact hlt a ha⟩, fun v hv => ⟨by omega, ?_⟩⟩
      rcases List.mem_append.1 hv with h | h
      · have := hlt v h; rw [show m + 1 - 1 = m from rfl]; omega
      · rw [List.mem_singleton.1 h, show m + 1 - 1 = m from rfl]; exact Int.le_refl _
    · rw [if_neg hk, List.append_nil]
      refine ⟨ih1, fun v hv => ⟨by omega, ?_⟩⟩
      obtain ⟨h0, hle⟩ := ih2 v hv
      obtain ⟨j, rfl⟩ : ∃ j, m = j + 1 := ⟨m - 1, by omega⟩
      have h1 := hs j (by omega)
      rw [show j + 1 - 1 = j from rfl] at hle
      rw [show j + 1 + 1 - 1 = j + 1 from rfl]
      omega
theorem compact_mem (zs : List Int) {v : Int} (h : v ∈ Lib.compact zs) : v ∈ zs := by
  unfold Lib.compact Lib.compactUpTo at h
  obtain ⟨j, hj, rfl⟩ := List.mem_map.1 h
  have hlt := List.mem_range.1 (List.mem_filter.1 hj).1
  rw [getElem!_pos _ j (by simpa using hlt)]
  simp
theorem vars_in {t : S24} {v : Int} (h : v ∈ vars_val t) : VarIn v t := by
  unfold vars_val at h
  exact varsL_mem.1 (List.mem_mergeSort.1 (compact_mem _ h))
theorem vars_sorted (t : S24) : (vars_val t).Pairwise (· < ·) := by
  unfold vars_val
  have hp : ((varsL (nodesT t)).mergeSort fun x y => decide (x ≤ y)).Pairwise (fun a b => decide (a ≤ b) = true) :=
    List.pairwise_mergeSort (le := fun (x y : Int) => decide (x ≤ y)) (fun a b c h1 h2 => decide_eq_true (Int.le_trans (of_decide_eq_true h1) (of_decide_eq_true h2))) (fun a b => by
      rcases Int.le_total a b with h | h
      · simp [h]
      · simp [h]) _
  generalize ((varsL (nodesT t)).mergeSort fun x y => decide (x ≤ y)) = zs at hp
  unfold Lib.compact
  refine (compact_sorted zs.toArray (fun j hj => ?_) zs.length (by simp)).1
  have hj' : j + 1 < zs.length := by simpa using hj
  rw [getElem!_pos _ j (by simp; omega), getElem!_pos _ (j + 1) (by simpa using hj')]
  have := List.pairwise_iff_getElem.1 hp j (j + 1) (by omega) hj' (by omega)
  simpa using this
theorem vars_step (t : S24) (j : Nat) (h : j + 1 < (vars_val t).length) : rd (vars_val t) (j : Int) < rd (vars_val t) ((j : Int) + 1) := by
  have := List.pairwise_iff_getElem.1 (vars_sorted t) j (j + 1) (by omega) h (by omega)
  have e1 : rd (vars_val t) (j : Int) = (vars_val t)[j] := by
    unfold rd
    simp [show j < (vars_val t).length by omega]
  have e2 : rd (vars_val t) ((j : Int) + 1) = (vars_val t)[j + 1] := by
    unfold rd
    rw [show ((j : Int) + 1).toNat = j + 1 by omega]
    simp [h]
  rw [e1, e2]
  exact this
theorem vars_range {n : Int} {t : S24} (hw : WF n t) (v : Int) (h : v ∈ vars_val t) : 1 ≤ v ∧ v ≤ n := by
  obtain ⟨y, hy, h1, h2⟩ := vars_in h
  have hf : formedB n y = true := List.all_eq_true.1 hw y hy
  obtain ⟨g1, g2, _⟩ := formed_var hf h1
  omega
theorem rd_in {xs : List Int} {j : Nat} (h : j < xs.length) : rd xs (j : Int) ∈ xs := by
  unfold rd
  simp [h]

end Go.Proofs.YtphegiohkggddaaDoor.PF
