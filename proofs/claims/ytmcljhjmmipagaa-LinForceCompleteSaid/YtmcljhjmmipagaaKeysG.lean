/- maps.Keys and slices.Sorted at the map of lin.Norm: the keys, ascending, in a new slice. -/
import Derived.Test.YtmcljhjmmipagaaShelfG
import Derived.Test.YtmcljhjmmipagaaMapG
namespace Go.Proofs.Ytmcljhjmmipagaa.PL
open Go.RowKit Go.Maps Go.Sort Go.Shelf
set_option linter.unusedVariables false

theorem keys_calls (mb : Option Nat) (W : World) : Calls Try.prog 46 #[.map mb] W fun e w' => e = .returned (.func (.func 63) #[] #[.pointer (some ⟨W.heap.size, 0, none⟩)]) ∧ w' = W.alloc (.cells #[.map mb] 55) :=
 (callsIn_wide (n := 5)).1 (AnyZI.keys_in Try.keysA Fence.wide 5 trivial rfl mb W)

theorem sortsA (m : Nat) : AnyZI.SortsIn Try.prog Try.sortedA_ren Fence.wide m :=
 ⟨fun blk off cap ss W hH hblk hsz => callsIn_wide.2 (Any.slices_Sort_int Try.lays189 blk off cap ss W hH hblk hsz),
  fun p cap W => callsIn_wide.2 (Any.slices_Sort_int_none Try.lays189 p cap W)⟩

theorem sorted_calls (m n B : Nat) (D : DataW Unit) (w : World) (hcell : w.cell? ⟨B, 0, none⟩ = some (.map (some m))) (hB : B < w.heap.size) (hown : w.ownsMap Try.prog 3 pairR m n D) (hmax : Maps.size D ≤ 1000000) :
  Calls Try.prog 45 #[.func (.func 63) #[] #[.pointer (some ⟨B, 0, none⟩)]] w fun e w' => ∃ (v : Value) (ss : List Int), e = .returned v ∧ ss.Perm (intKeys D) ∧
   w'.ownsRow w.heap.size 3 1 v ss.length ((ss.mergeSort (fun x y => decide (x ≤ y))).map encZ) ∧ Below w.heap.size w w' := by
 have hseq : SeqGives Fence.wide 2 Try.prog 63 #[.pointer (some ⟨B, 0, none⟩)] encZ (fun ss => ss.Perm (intKeys D)) (Maps.size D) w :=
  AnyZI.keys_gives (ρ := Try.keysA_ren) { Try.keysA with } Fence.wide _ trivial rfl (by omega) B m n D _ hB hcell hown
 have cS := AnyZI.sorted_in Try.sortedA Fence.wide 5 trivial trivial trivial trivial rfl (by omega) (sortsA _) (enters_of Try.func62 (by kernel_rfl) rfl) 63 #[.pointer (some ⟨B, 0, none⟩)] trivial (enters_of Try.func63 (by kernel_rfl) rfl) _ _ (by unfold maxLen; omega) (by omega) _ hseq
 change CallsIn _ _ Try.prog 45 _ _ _ at cS
 refine ((callsIn_wide (n := 5)).1 cS).mono ?_
 rintro e w' ⟨v, ss, rfl, hS, hrow, hnil, hb⟩
 exact ⟨v, ss, rfl, hS, hrow, hb⟩

end Go.Proofs.Ytmcljhjmmipagaa.PL
