/- flat.Size: the number of a tree's nodes, counted as Go counts. -/
import Derived.Test.YtphegiohkggddaaDoorPartsG
namespace Go.Proofs.YtphegiohkggddaaDoor.PF
open Go.RowKit Go.Shelf Go.Proofs.YtphegiohkggddaaDoorW.PrintWords Go.Proofs.YtphegiohkggddaaDoorW.PrintLast Go.Proofs.YtphegiohkggddaaDoorW.PrintMore
set_option linter.unusedVariables false
set_option linter.unusedSimpArgs false
attribute [local go_sem] Oper.semAt_some

/-- A count of k, in int. -/
def cntW : Nat → Int
  | 0 => 0
  | k + 1 => wrap64 (cntW k + 1)

/-- A block of cells abides whatever turns that is none. -/
theorem own_cells {β : Type} {B g : Nat} {f : β → Array Value} {t : TypeId} : OwnFrom B (fun (s : β) W => W.heap[g]? = some (.cells (f s) t (0, 0))) :=
  fun s X Y row hs hg hr => (hg.block g (Array.getElem?_eq_some_iff.1 hs).1 (fun e => by obtain ⟨_, o, ho, hc⟩ := hr g e.symm; rw [hs] at ho; cases ho; cases hc)).trans hs

set_option maxHeartbeats 4000000 in
theorem Size_calls (t : S24) (A : Option Addr) (c : Nat) (w : World) (hC : Kd.C k24 w A t.f3.length t.f3) (hc : t.f3.length ≤ c) :
    Calls Tryd.prog 24 #[.agg #[.int .i64 t.f0, .int .i64 t.f1, .int .i64 t.f2, .slice A t.f3.length c]] w fun e w' => e = .returned (.int .i64 (cntW (nodesT t).length)) ∧ Below w.heap.size w w' := by
  have hu24 := Tryd.underlying24
  refine (callsIn_wide (n := 3)).1 ?_
  refine callsIn_of_wp_marks Tryd.func24 rfl trivial ?_
  simp only [Tryd.ntmps24, List.size_toArray, List.length_cons, List.length_nil, Nat.reduceAdd, Nat.reduceSub, Array.replicate_succ, Array.replicate_zero, List.push_toArray, List.append_toArray, List.nil_append, List.cons_append]
  gi_wp2
  refine ⟨trivial, (parts_in _ t A c _).mono ?_⟩
  rintro e w3 ⟨rfl, rfl⟩
  gi_wp2
  obtain ⟨wa, hwa⟩ : ∃ wa, (w.alloc (.cells #[.int .i64 t.f0, .int .i64 t.f1, .int .i64 t.f2, .slice A t.f3.length c] 24)).alloc (.cells #[.int .i64 0] 3) = wa := ⟨_, rfl⟩
  have hsa : wa.heap.size = w.heap.size + 2 := by rw [← hwa]; simp
  have hba : Below w.heap.size w wa := by rw [← hwa]; exact ((Below.refl _ w).alloc (Nat.le_refl _) _).alloc (by simp) _
  have hca : wa.heap[w.heap.size + 1]? = some (.cells #[.int .i64 (cntW 0)] 3 (0, 0)) := by
    rw [← hwa]
    have := World.alloc_heap_new (w.alloc (.cells #[.int .i64 t.f0, .int .i64 t.f1, .int .i64 t.f2, .slice A t.f3.length c] 24)) (.cells #[.int .i64 0] 3)
    rwa [World.size_alloc] at this
  try simp only [hwa]
  clear hwa
  obtain ⟨wb, hwb⟩ : ∃ wb, wa.alloc (.cells #[.int .i64 t.f0, .int .i64 t.f1, .int .i64 t.f2, .slice A t.f3.length c] 24) = wb := ⟨_, rfl⟩
  have hyb : wb.heap[wa.heap.size]? = some (.cells #[.int .i64 t.f0, .int .i64 t.f1, .int .i64 t.f2, .slice A t.f3.length c] 24 (0, 0)) := by rw [← hwb]; exact World.alloc_heap_new wa _
  have hbb : Below w.heap.size w wb := by rw [← hwb]; exact hba.alloc hba.size _
  have hcb : wb.heap[w.heap.size + 1]? = some (.cells #[.int .i64 (cntW 0)] 3 (0, 0)) := by rw [← hwb]; exact (Below.heap_alloc wa _ _ (by omega)).trans hca
  have hsb : wb.heap.size = w.heap.size + 3 := by rw [← hwb]; simp [hsa]
  try simp only [hwb]
  clear hwb hca hba
  have hseq := parts_at w t A c wa.heap.size wb hbb hc hC hyb
  refine wp_rangeD (t1 := 24) (t2 := 30) (n0 := w.heap.size) (gf := 51) (lb := #[.pointer (some ⟨wa.heap.size, 0, none⟩)]) (by first | rfl | (rw [hsa]; rfl)) (enters_of Tryd.func51 (by kernel_rfl) rfl) hseq (Below.refl _ _) hbb.size (fun _ => rfl)
    (fun pre V => V.heap[w.heap.size + 1]? = some (.cells #[.int .i64 (cntW pre.length)] 3 (0, 0)) ∧ KT 24 30 w.heap.size wb V) (fun _ _ => False)
    (OwnFrom.and (own_cells (f := fun pre => #[.int .i64 (cntW (List.length pre))])) (KT.own (Nat.le_refl _) hbb.size)) (fun _ _ _ _ hs _ _ => hs) ⟨hcb, KT.refl _⟩ ?hround ?hdone ?hstop
  case hround =>
    rintro m l pre z V _ ⟨hc1, hk⟩
    obtain ⟨⟨⟨za, zb, zc, zl⟩, zA, zcap⟩, hz⟩ := z
    simp only [Nd.enc]
    gi_wp2
    refine ⟨KT.refl V, ⟨hc1, hk⟩, ?_⟩
    rintro V2 hsz hcells hbel ⟨hc2, hk2⟩
    have e0 : V2.cell? ⟨w.heap.size + 1, 0, none⟩ = some (.int .i64 (cntW pre.length)) := blk_cell hc2 0
    have f0 : V2.frozen? ⟨w.heap.size + 1, 0, none⟩ = false := blk_frozen hc2 0
    gi_wp2
    exact ⟨(KT.refl V2).setCell hc2 (by decide) (by decide) (by omega) _, by rw [List.length_append]; exact blk_put hc2 0 _ rfl, hk2.setCell hc2 (by decide) (by decide) (by omega) _⟩
  case hdone =>
    rintro D zs V hD hzs ⟨hc1, hk⟩ hK
    have hl : zs.length = (nodesT t).length := by rw [← hzs, List.length_map]
    rw [hl] at hc1
    clear hl hzs
    have e0 : V.cell? ⟨w.heap.size + 1, 0, none⟩ = some (.int .i64 (cntW (nodesT t).length)) := blk_cell hc1 0
    have f0 : V.frozen? ⟨w.heap.size + 1, 0, none⟩ = false := blk_frozen hc1 0
    gi_wp2
    have hcz := blk_put (cs' := #[.int .i64 (cntW (nodesT t).length)]) hc1 0 (.int .i64 (cntW (nodesT t).length)) rfl
    have hkz := hk.setCell (j := 0) hc1 (by decide) (by decide) (by omega) (.int .i64 (cntW (nodesT t).length))
    have hDz : (V.setCell ⟨w.heap.size + 1, 0, none⟩ (.int .i64 (cntW (nodesT t).length))).heap[D]? = some (.deferred (some [])) := (Below.heap_setCell V _ _ _ (by simp; omega)).trans hK
    refine leaves_marks (B := w.heap.size + 3) (J := fun X => X.heap[w.heap.size + 1]? = some (.cells #[.int .i64 (cntW (nodesT t).length)] 3 (0, 0)) ∧ KT 24 30 w.heap.size wb X) (OwnFrom.and (own_cells (f := fun _ => #[.int .i64 (cntW (nodesT t).length)])) (KT.own (by omega) hbb.size)) (fun X hX => ?_) [D] _ (fun D' hD' => by rw [List.mem_singleton.1 hD']; exact ⟨by omega, hDz⟩) (by simp) ⟨hcz, hkz⟩
    refine ⟨.int .i64 (cntW (nodesT t).length), ?_, rfl, hbb.trans hX.2.below⟩
    have e1 : X.cell? ⟨w.heap.size + 1, 0, none⟩ = some (.int .i64 (cntW (nodesT t).length)) := blk_cell hX.1 0
    simp [results, Tryd.func24, go_sem, e1]
  case hstop =>
    rintro D pre V _ _ h _
    exact h.elim

end Go.Proofs.YtphegiohkggddaaDoor.PF
