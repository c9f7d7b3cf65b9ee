/- What flat.Check tells of a tree that is not too large. No program in sight. -/
import Derived.Test.YtphegiohkggddaaDoorPureT
import Derived.Test.YtphegiohkggddaaDoorCheckG
namespace Go.Proofs.YtphegiohkggddaaDoor.PF
open Go.RowKit Go.Proofs.YtphegiohkggddaaDoorW.PrintWords
set_option linter.unusedVariables false

theorem cntW_eq : ∀ k : Nat, k < 4611686018427387904 → cntW k = (k : Int)
  | 0, _ => rfl
  | k + 1, h => by
    rw [cntW, cntW_eq k (by omega), wrap_succ (by omega)]
theorem check_eq (n : Int) (t : S24) (h0 : 0 ≤ n) (h1 : n ≤ 65536) (hn : (nodesT t).length < 4611686018427387904) : check_val n t = if (nodesT t).all (formedB n) = true then (if 65536 < (nodesT t).length then 2 else 0) else 1 := by
  unfold check_val
  rw [if_neg (by omega), if_neg (by omega), cntW_eq _ hn]
  by_cases h : (nodesT t).all (formedB n) = true
  · rw [if_pos h, if_pos h]
    by_cases h2 : 65536 < (nodesT t).length
    · rw [if_pos h2, if_pos (by omega)]
    · rw [if_neg h2, if_neg (by omega)]
  · rw [if_neg h, if_neg h]
theorem check_zero {n : Int} {t : S24} (h0 : 0 ≤ n) (h1 : n ≤ 65536) (hn : (nodesT t).length < 4611686018427387904) : check_val n t = 0 ↔ WF n t ∧ (nodesT t).length ≤ 65536 := by
  rw [check_eq n t h0 h1 hn]
  constructor
  · intro h
    by_cases hw : (nodesT t).all (formedB n) = true
    · rw [if_pos hw] at h
      by_cases h2 : 65536 < (nodesT t).length
      · rw [if_pos h2] at h; cases h
      · exact ⟨hw, by omega⟩
    · rw [if_neg hw] at h; cases h
  · rintro ⟨hw, hs⟩
    rw [if_pos (show (nodesT t).all (formedB n) = true from hw), if_neg (by omega)]
/-- What Simple makes of a tree that Check lets pass. -/
theorem simple_good {t : S24} (hn : (nodesT t).length < 1099511627776) (hc : check_val 65536 t = 0) : WF 65536 t ∧ (nodesT t).length ≤ 65536 ∧ made_fit t = true ∧ WF 65536 (made_val t) ∧ (nodesT (made_val t)).length ≤ 65536 ∧ check_val 65536 (made_val t) = 0 ∧ fitB (made_val t) = true := by
  obtain ⟨hw, hs⟩ := (check_zero (by decide) (by decide) (by omega)).1 hc
  obtain ⟨g1, g2⟩ := made_good 65536 t hw hn
  exact ⟨hw, hs, made_fit_of 65536 t hw hn, g1, by omega, (check_zero (by decide) (by decide) (by omega)).2 ⟨g1, by omega⟩, fitB_of_nodes _ (by omega)⟩

end Go.Proofs.YtphegiohkggddaaDoor.PF
