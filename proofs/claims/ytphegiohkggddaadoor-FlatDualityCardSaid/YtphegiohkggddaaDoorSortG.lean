/- slices.Sort and slices.Compact over a slice of ints of the call's own, out of the shelf's contracts. -/
import Derived.Test.YtphegiohkggddaaDoorShelfG
import Derived.Test.YtphegiohkggddaaDoorPFx0
import Derived.Sort.OwnSortedInts
import Derived.Lib.OwnBridge
namespace Go.Proofs.YtphegiohkggddaaDoor.PF
open Go.RowKit Go.Sort Go.Proofs.YtphegiohkggddaaDoorW.PrintWords Go.Proofs.YtphegiohkggddaaDoorW.PrintLast Go.Proofs.YtphegiohkggddaaDoorW.PrintMore
set_option linter.unusedVariables false

theorem sort_calls (base : Nat) (v : Value) (zs : List Int) (w : World) (h : w.ownsRow base 3 1 v zs.length (zs.map (Value.int .i64))) (hsz : zs.length < 4611686018427387904) :
    Calls Tryd.prog 37 #[v] w fun e w' => e = .returned (.tuple #[]) ∧ w'.ownsRow base 3 1 v zs.length ((zs.mergeSort fun x y => decide (x ≤ y)).map (Value.int .i64)) ∧ w.grownBy w' v.ownBlock := by
  have hl : (zs.mergeSort fun x y => decide (x ≤ y)).length = zs.length := List.length_mergeSort zs
  rcases h.2 with ⟨rfl, h0⟩ | ⟨g, cap, cur, rfl, hb, hg, hn, hm, hs, ht⟩
  · refine (Any.slices_Sort_int_none Tryd.lays189 none 0 w).mono ?_
    rintro e w' ⟨rfl, rfl⟩
    have hz : zs = [] := List.length_eq_zero_iff.1 h0
    subst hz
    exact ⟨rfl, by simpa using h, rfl, rfl, rfl, Nat.le_refl _, fun _ _ _ => rfl⟩
  · have hlt : g < w.heap.size := (Array.getElem?_eq_some_iff.1 hg).1
    refine (Any.slices_Sort_int Tryd.lays189 g 0 cap zs w (holds_of_blockI hg (by simpa using ht)) hlt hsz).mono ?_
    rintro e w' ⟨rfl, n, os, rfl⟩
    exact ⟨rfl, ownsRow_sortedI hl hb hg hn hm hs, grownBy_sortedI _⟩

theorem compact_calls (base : Nat) (v : Value) (zs : List Int) (w : World) (h : w.ownsRow base 3 1 v zs.length (zs.map (Value.int .i64))) (hsz : zs.length ≤ 9223372036854775807) :
    Calls Tryd.prog 38 #[v] w fun e w' => ∃ v', e = .returned v' ∧ w'.ownsRow base 3 1 v' (Lib.compact zs).length ((Lib.compact zs).map (Value.int .i64)) ∧ w.grownBy w' v.ownBlock ∧ v'.ownBlock = v.ownBlock ∧ ∃ A c, v' = .slice A (Lib.compact zs).length c := by
  have hl := Lib.compact_length_le zs
  rcases h.2 with ⟨rfl, h0⟩ | ⟨g, cap, cur, rfl, hb, hg, hn, hm, hs, ht⟩
  · refine (Any.slices_Compact_int_empty Tryd.lays2_20 none 0 w).mono ?_
    rintro e w' ⟨rfl, rfl⟩
    have hz : zs = [] := List.length_eq_zero_iff.1 h0
    subst hz
    have hc : Lib.compact ([] : List Int) = [] := List.length_eq_zero_iff.1 (by simpa using hl)
    rw [hc]
    exact ⟨_, rfl, by simpa using h, ⟨rfl, rfl, rfl, Nat.le_refl _, fun _ _ _ => rfl⟩, rfl, none, 0, rfl⟩
  · refine (Any.slices_Compact_int Tryd.lays2_20 g 0 cap zs w (holds_of_blockI hg (by simpa using ht)) hsz hn).mono ?_
    rintro e w' ⟨rfl, q, rfl⟩
    have hr := Lib.ownsRow_putRow (q := q) (k := (Lib.compact zs).length) (ys := Lib.compact zs ++ List.replicate (zs.length - (Lib.compact zs).length) 0) h (by simp; omega) hl
    rw [List.take_left] at hr
    have hgr := grownBy_sortedI (w := w) (g := g) (n := q) (os := #[]) (Lib.compact zs ++ List.replicate (zs.length - (Lib.compact zs).length) 0).toArray
    rw [grow_empty] at hgr
    exact ⟨_, rfl, hr, hgr, rfl, _, _, rfl⟩

theorem C_of_owns {base : Nat} {A : Option Addr} {n c : Nat} {zs : List Int} {w : World} (h : w.ownsRow base 3 1 (.slice A n c) n (zs.map (Value.int .i64))) : n = zs.length ∧ n ≤ c ∧ Kd.C (Kd.int .i64) w A n zs := by
  have hl : zs.length = n := by simpa using h.1
  rcases h.2 with ⟨he, h0⟩ | ⟨g, cap, cur, he, hb, hg, hn, hm, hs, ht⟩
  · injection he with e1 e2 e3
    subst e1; subst e2; subst e3
    have hz : zs = [] := List.length_eq_zero_iff.1 hl
    subst hz
    exact ⟨rfl, Nat.le_refl _, Kd.C_nil _ _⟩
  · injection he with e1 e2 e3
    subst e1; subst e3
    refine ⟨hl.symm, hn, Kd.C_of_reads (h1 := fun _ => rfl) (d := 0) ⟨hl, Nat.le_trans (Nat.le_trans hn hm) (by decide), fun _ => ⟨_, rfl, fun j hj => ?_⟩⟩⟩
    have := h.cellAt j (by omega)
    rw [show (⟨g, 0, none⟩ : Addr).add j = ⟨g, j, none⟩ from by simp [Addr.add]; intro h; exact h.symm]
    rw [this]
    simp [List.getElem?_eq_getElem (show j < zs.length by omega)]

end Go.Proofs.YtphegiohkggddaaDoor.PF
