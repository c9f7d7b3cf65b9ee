/- FlatCompositional: the law answers true wherever the trees are not too large. -/
import Derived.Test.YtphegiohkggddaaDoorCompG
namespace Go.Proofs.YtphegiohkggddaaDoor.PF
open Go.RowKit Go.Proofs.YtphegiohkggddaaDoorW.PrintWords
set_option linter.unusedVariables false

theorem nodesL_small : ∀ l : List S24, (∀ x ∈ l, (nodesT x).length ≤ 400) → (nodesL l).length ≤ 400 * l.length
  | [], _ => by simp [nodesL]
  | x :: l, h => by
    have h1 := h x (List.mem_cons_self ..)
    have h2 := nodesL_small l fun z hz => h z (List.mem_cons_of_mem _ hz)
    simp only [nodesL, List.length_append, List.length_cons]
    omega
theorem check_node {n a b c : Int} {l : List S24} (h0 : 0 ≤ n) (h1 : n ≤ 65536) (h10 : l.length ≤ 10) (hs : ∀ x ∈ l, (nodesT x).length ≤ 400) : (check_val n ⟨a, b, c, l⟩ == 0) = (formedB n ⟨a, b, c, l⟩ && l.all fun x => check_val n x == 0) := by
  have hsm := nodesL_small l hs
  have hnt : (nodesT ⟨a, b, c, l⟩).length = (nodesL l).length + 1 := by simp [nodesT]
  rw [Bool.eq_iff_iff, beq_iff_eq, check_zero h0 h1 (by omega), WF_mk, Bool.and_eq_true, List.all_eq_true]
  constructor
  · rintro ⟨⟨hf, hk⟩, _⟩
    exact ⟨hf, fun x hx => beq_iff_eq.2 ((check_zero h0 h1 (by have := hs x hx; omega)).2 ⟨hk x hx, by have := hs x hx; omega⟩)⟩
  · rintro ⟨hf, hk⟩
    exact ⟨⟨hf, fun x hx => ((check_zero h0 h1 (by have := hs x hx; omega)).1 (beq_iff_eq.1 (hk x hx))).1⟩, by omega⟩
theorem comp_all (l : List S24) (A0 : Option Addr) (c0 : Nat) (n : Int) (w : World) (hC : k24.C w A0 l.length l) (hc0 : l.length ≤ c0) (hn : (nodesL l).length + 1 ≤ 1048576) (hL : Laid w) :
    Calls Tryd.prog 9 #[.slice A0 l.length c0, .int .i64 n] w fun e w' => e = .returned (.bool true) ∧ Below w.heap.size w w' := by
  refine comp_walk l n A0 c0 w hC hc0 hL (fun x hx => ?_) (fun h10 h0 h1 hs => ?_)
  · have hsx := nodesL_mem hx
    obtain ⟨b, he, hb⟩ := Few_ev x (fitB_of_nodes x (by omega))
    obtain ⟨kf, hkf⟩ := he.got
    exact ⟨kf, b, hkf, hb (by omega)⟩
  · have hnt : ∀ a b c, (nodesT ⟨a, b, c, l⟩).length = (nodesL l).length + 1 := fun a b c => by simp [nodesT]
    have e4 := check_node (a := 4) (b := 0) (c := 0) h0 h1 h10 hs
    have e6 := check_node (a := 6) (b := 0) (c := 2) h0 h1 h10 hs
    have e3 := check_node (a := 3) (b := 0) (c := 0) h0 h1 h10 hs
    rw [formed_both (.inl rfl), Bool.true_and] at e4
    rw [formed_l (by decide) (by decide), Bool.true_and] at e6
    refine ⟨?_, by rw [hnt]; omega, e4, e6, ?_, fun hM v hv => ?_⟩
    · rw [hnt, cntW_eq _ (by omega)]; omega
    · rw [e3, Bool.and_comm]
      congr 1
    · have hw : check_val n ⟨4, 0, 0, l⟩ = 0 := by rw [← beq_iff_eq, e4]; exact hM
      exact vars_range ((check_zero h0 h1 (by rw [hnt]; omega)).1 hw).1 v hv

end Go.Proofs.YtphegiohkggddaaDoor.PF
