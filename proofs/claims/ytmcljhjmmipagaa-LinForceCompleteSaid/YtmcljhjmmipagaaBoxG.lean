/- A constraint in a box of its own: what is known of it in a world, and that it stays known while nothing below is written. -/
import Derived.Test.YtmcljhjmmipagaaLiveG
import Derived.Test.YtmcljhjmmipagaaNormC
import Derived.Test.YtmcljhjmmipagaaPureA
import Derived.Test.YtmcljhjmmipagaaPLx4
import Derived.Test.YtmcljhjmmipagaaPLx5
import Derived.Lib.Hide
namespace Go.Proofs.Ytmcljhjmmipagaa.PL
open Go.RowKit Go.Proofs.YtmcljhjmmipagaaW.PrintWords Go.Proofs.YtmcljhjmmipagaaW.PrintLast Go.Proofs.YtmcljhjmmipagaaW.PrintMore
set_option linter.unusedVariables false
set_option linter.unusedSimpArgs false

/-- Two rows that read. -/
structure Rw (W : World) (A0 : Option Addr) (c0 : Nat) (C : List Int) (A1 : Option Addr) (c1 : Nat) (L : List Int) : Prop where
 rC : Kd.C (Kd.int .i64) W A0 C.length C
 rL : Kd.C (Kd.int .i64) W A1 L.length L
 lC : C.length ≤ c0
 lL : L.length ≤ c1
/-- A box that holds a constraint. -/
structure Bx (W : World) (g : Nat) (A0 : Option Addr) (c0 : Nat) (C : List Int) (A1 : Option Addr) (c1 : Nat) (L : List Int) (a : Int) : Prop where
 blk : W.heap[g]? = some (.cells #[.slice A0 C.length c0, .slice A1 L.length c1, .int .i64 a] 24 (0, 0))
 rw : Rw W A0 c0 C A1 c1 L
section
variable {W W1 : World} {g : Nat} {A0 A1 : Option Addr} {c0 c1 : Nat} {C L : List Int} {a : Int}
theorem Rw.below (h : Rw W A0 c0 C A1 c1 L) (hb : Below W.heap.size W W1) : Rw W1 A0 c0 C A1 c1 L := ⟨Kd.C_below h.rC hb, Kd.C_below h.rL hb, h.lC, h.lL⟩
namespace Bx
theorem below (h : Bx W g A0 c0 C A1 c1 L a) (hb : Below W.heap.size W W1) : Bx W1 g A0 c0 C A1 c1 L a := ⟨blk_below h.blk hb, h.rw.below hb⟩
theorem q0 (h : Bx W g A0 c0 C A1 c1 L a) : W.cell? ⟨g, 0, none⟩ = some (.slice A0 C.length c0) := (blk_cell h.blk 0).trans rfl
theorem q1 (h : Bx W g A0 c0 C A1 c1 L a) : W.cell? ⟨g, 1, none⟩ = some (.slice A1 L.length c1) := (blk_cell h.blk 1).trans rfl
theorem q2 (h : Bx W g A0 c0 C A1 c1 L a) : W.cell? ⟨g, 2, none⟩ = some (.int .i64 a) := (blk_cell h.blk 2).trans rfl
theorem new (h : Rw W A0 c0 C A1 c1 L) (a : Int) : Bx (W.alloc (.cells #[.slice A0 C.length c0, .slice A1 L.length c1, .int .i64 a] 24)) W.heap.size A0 c0 C A1 c1 L a := ⟨blk_new W _, h.below ((Below.refl _ W).alloc (Nat.le_refl _) _)⟩
end Bx
theorem below_alloc1 (W : World) (o : Obj) : Below W.heap.size W (W.alloc o) := (Below.refl _ W).alloc (Nat.le_refl _) o
end
theorem val_cases (C L : List Int) (a n : Int) : lin_Check.val C L a n = 0 ∨ lin_Check.val C L a n = 1 ∨ lin_Check.val C L a n = 2 := by
 unfold lin_Check.val
 repeat' split
 all_goals simp

theorem few_val (C L : List Int) (a : Int) : chalklinelaw12_few.f C L a = some (decide (L.length ≤ 60 ∧ C.length ≤ 60)) := by
 unfold chalklinelaw12_few.f
 by_cases h : (L.length : Int) ≤ 60
 ·
  rw [if_pos h]
  have h' : L.length ≤ 60 := by omega
  by_cases g : (C.length : Int) ≤ 60
  ·
   rw [decide_eq_true g, decide_eq_true ⟨h', by omega⟩]
  ·
   rw [decide_eq_false g, decide_eq_false (by omega)]
 ·
  rw [if_neg h]
  have h' : ¬ L.length ≤ 60 := by omega
  simp [h']
end Go.Proofs.Ytmcljhjmmipagaa.PL
