/- flat.Check answers what 'check_val' says. -/
import Derived.Test.YtphegiohkggddaaDoorSizeG
import Derived.Test.YtphegiohkggddaaDoorFormG
namespace Go.Proofs.YtphegiohkggddaaDoor.PF
open Go.RowKit Go.Shelf Go.Proofs.YtphegiohkggddaaDoorW.PrintWords Go.Proofs.YtphegiohkggddaaDoorW.PrintLast Go.Proofs.YtphegiohkggddaaDoorW.PrintMore
set_option linter.unusedVariables false
set_option linter.unusedSimpArgs false
attribute [local go_sem] Oper.semAt_some

def check_val (n : Int) (t : S24) : Int :=
  if n < 0 then 1 else if 65536 < n then 1 else if (nodesT t).all (formedB n) = true then (if 65536 < cntW (nodesT t).length then 2 else 0) else 1

theorem alloc_at {X : World} {o : Obj} {k : Nat} (h : k = X.heap.size) : (X.alloc o).heap[k]? = some o := h ▸ World.alloc_heap_new X o
theorem alloc_lt {X : World} {o o' : Obj} {k : Nat} (hk : k < X.heap.size) (h : X.heap[k]? = some o') : (X.alloc o).heap[k]? = some o' := (Below.heap_alloc X o k hk).trans h
theorem own_pure {β : Type} {B : Nat} (p : β → Prop) : OwnFrom B (fun s (_ : World) => p s) := fun _ _ _ _ hs _ _ => hs

set_option maxHeartbeats 4000000 in
theorem Check_calls (t : S24) (n : Int) (A : Option Addr) (c : Nat) (w : World) (hC : Kd.C k24 w A t.f3.length t.f3) (hc : t.f3.length ≤ c) :
    Calls Tryd.prog 17 #[.agg #[.int .i64 t.f0, .int .i64 t.f1, .int .i64 t.f2, .slice A t.f3.length c], .int .i64 n] w fun e w' => e = .returned (.int .i64 (check_val n t)) ∧ Below w.heap.size w w' := by
  have hu24 := Tryd.underlying24
  refine (callsIn_wide (n := 3)).1 ?_
  refine callsIn_of_wp_marks Tryd.func17 rfl trivial ?_
  simp only [Tryd.ntmps17, List.size_toArray, List.length_cons, List.length_nil, Nat.reduceAdd, Nat.reduceSub, Array.replicate_succ, Array.replicate_zero, List.push_toArray, List.append_toArray, List.nil_append, List.cons_append]
  unfold check_val
  by_cases h1 : n < 0
  · rw [if_pos h1]
    gi_wp2
    exact ⟨.int .i64 1, by simp [results, Tryd.func17, go_sem], rfl, (((Below.refl _ w).alloc (Nat.le_refl _) _).alloc (by simp) _).alloc (by simp; omega) _⟩
  rw [if_neg h1]
  by_cases h2 : 65536 < n
  · rw [if_pos h2]
    gi_wp2
    exact ⟨.int .i64 1, by simp [results, Tryd.func17, go_sem], rfl, (((Below.refl _ w).alloc (Nat.le_refl _) _).alloc (by simp) _).alloc (by simp; omega) _⟩
  rw [if_neg h2]
  generalize hr : (if (nodesT t).all (formedB n) = true then (if 65536 < cntW (nodesT t).length then 2 else 0) else 1 : Int) = r
  have HRr := Lib.hid hr
  clear hr
  gi_wp2
  refine ⟨trivial, (parts_in _ t A c _).mono ?_⟩
  rintro e w3 ⟨rfl, rfl⟩
  gi_wp2
  obtain ⟨wa, hwa⟩ : ∃ wa, (((w.alloc (.cells #[.int .i64 t.f0, .int .i64 t.f1, .int .i64 t.f2, .slice A t.f3.length c] 24)).alloc (.cells #[.int .i64 n] 3)).alloc (.cells #[.int .i64 0] 31)).alloc (.cells #[.int .i64 0] 3) = wa := ⟨_, rfl⟩
  have hsa : wa.heap.size = w.heap.size + 4 := by rw [← hwa]; simp
  have hba : Below w.heap.size w wa := by rw [← hwa]; exact ((((Below.refl _ w).alloc (Nat.le_refl _) _).alloc (by simp) _).alloc (by simp; omega) _).alloc (by simp; omega) _
  have hna : wa.heap[w.heap.size + 1]? = some (.cells #[.int .i64 n] 3 (0, 0)) := by rw [← hwa]; exact alloc_lt (by simp) (alloc_lt (by simp) (alloc_at (by simp)))
  have hea : wa.heap[w.heap.size + 2]? = some (.cells #[.int .i64 0] 31 (0, 0)) := by rw [← hwa]; exact alloc_lt (by simp) (alloc_at (by simp))
  have hca : wa.heap[w.heap.size + 3]? = some (.cells #[.int .i64 (cntW 0)] 3 (0, 0)) := by rw [← hwa]; exact alloc_at (by simp)
  try simp only [hwa]
  clear hwa
  obtain ⟨wb, hwb⟩ : ∃ wb, wa.alloc (.cells #[.int .i64 t.f0, .int .i64 t.f1, .int .i64 t.f2, .slice A t.f3.length c] 24) = wb := ⟨_, rfl⟩
  have hyb : wb.heap[wa.heap.size]? = some (.cells #[.int .i64 t.f0, .int .i64 t.f1, .int .i64 t.f2, .slice A t.f3.length c] 24 (0, 0)) := by rw [← hwb]; exact World.alloc_heap_new wa _
  have hbb : Below w.heap.size w wb := by rw [← hwb]; exact hba.alloc hba.size _
  have hnb : wb.heap[w.heap.size + 1]? = some (.cells #[.int .i64 n] 3 (0, 0)) := by rw [← hwb]; exact (Below.heap_alloc wa _ _ (by omega)).trans hna
  have heb : wb.heap[w.heap.size + 2]? = some (.cells #[.int .i64 0] 31 (0, 0)) := by rw [← hwb]; exact (Below.heap_alloc wa _ _ (by omega)).trans hea
  have hcb : wb.heap[w.heap.size + 3]? = some (.cells #[.int .i64 (cntW 0)] 3 (0, 0)) := by rw [← hwb]; exact (Below.heap_alloc wa _ _ (by omega)).trans hca
  have hsb : wb.heap.size = w.heap.size + 5 := by rw [← hwb]; simp [hsa]
  try simp only [hwb]
  clear hwb hca hba hna hea
  have hseq := parts_at w t A c wa.heap.size wb hbb hc hC hyb
  refine wp_rangeD (t1 := 24) (t2 := 30) (n0 := w.heap.size) (gf := 51) (lb := #[.pointer (some ⟨wa.heap.size, 0, none⟩)]) (by first | rfl | (rw [hsa]; rfl)) (enters_of Tryd.func51 (by kernel_rfl) rfl) hseq (Below.refl _ _) hbb.size (fun _ => rfl)
    (fun pre V => V.heap[w.heap.size + 3]? = some (.cells #[.int .i64 (cntW pre.length)] 3 (0, 0)) ∧ V.heap[w.heap.size + 2]? = some (.cells #[.int .i64 0] 31 (0, 0)) ∧ V.heap[w.heap.size + 1]? = some (.cells #[.int .i64 n] 3 (0, 0)) ∧ (pre.map Nd.t).all (formedB n) = true ∧ KT 24 30 w.heap.size wb V)
    (fun pre V => V.heap[w.heap.size + 2]? = some (.cells #[.int .i64 1] 31 (0, 0)) ∧ (pre.map Nd.t).all (formedB n) = false ∧ KT 24 30 w.heap.size wb V)
    (OwnFrom.and (own_cells (f := fun pre => #[.int .i64 (cntW (List.length pre))])) (OwnFrom.and (own_cells (f := fun _ => #[.int .i64 0])) (OwnFrom.and (own_cells (f := fun _ => #[.int .i64 n])) (OwnFrom.and (own_pure _) (KT.own (Nat.le_refl _) hbb.size)))))
    (OwnFrom.and (own_cells (f := fun _ => #[.int .i64 1])) (OwnFrom.and (own_pure _) (KT.own (Nat.le_refl _) hbb.size))) ⟨hcb, heb, hnb, rfl, KT.refl _⟩ ?hround ?hdone ?hstop
  case hround =>
    rintro m l pre z V _ ⟨hc1, he1, hn1, ha1, hk⟩
    have hVn : w.heap.size ≤ V.heap.size := Nat.le_trans hbb.size hk.below.size
    have hVb : wb.heap.size ≤ V.heap.size := hk.below.size
    obtain ⟨⟨⟨za, zb, zc, zl⟩, zA, zcap⟩, hz⟩ := z
    simp only [Nd.enc]
    gi_wp2
    refine ⟨(KT.refl V).alloc hVn _, ⟨alloc_lt (by omega) hc1, alloc_lt (by omega) he1, alloc_lt (by omega) hn1, ha1, hk.alloc hVn _⟩, ?_⟩
    rintro V2 hsz hcells hbel ⟨hc2, he2, hn2, ha2, hk2⟩
    have hZ2 := hcells _ _ (World.alloc_heap_new V _) rfl
    have eZ0 : V2.cell? ⟨V.heap.size, 0, none⟩ = some (.int .i64 za) := blk_cell hZ2 0
    have eZ1 : V2.cell? ⟨V.heap.size, 1, none⟩ = some (.int .i64 zb) := blk_cell hZ2 1
    have eZ2 : V2.cell? ⟨V.heap.size, 2, none⟩ = some (.int .i64 zc) := blk_cell hZ2 2
    have eZ3 : V2.cell? ⟨V.heap.size, 3, none⟩ = some (.slice zA zl.length zcap) := blk_cell hZ2 3
    have eN : V2.cell? ⟨w.heap.size + 1, 0, none⟩ = some (.int .i64 n) := blk_cell hn2 0
    have hbw : Below w.heap.size w V2 := hbb.trans hk2.below
    have hform := formed_calls ⟨za, zb, zc, zl⟩ n zA zcap V2 (Kd.C_below hz.2 hbw) hz.1
    have hsV : w.heap.size + 5 ≤ V2.heap.size := by rw [hsz]; simp; omega
    clear hcells hbel hsz hZ2
    gi_wp2
    refine ⟨trivial, fun h => (by cases h), CallsIn.inRound l ((callsIn_wide.2 hform).mono ?_)⟩
    rintro e V3 ⟨rfl, hb3⟩
    have hc3 := (hb3.block _ (by omega)).trans hc2
    have he3 := (hb3.block _ (by omega)).trans he2
    have hn3 := (hb3.block _ (by omega)).trans hn2
    have hk3 : KT 24 30 w.heap.size V2 V3 := KT.of_below hb3 hbw.size
    have eC : V3.cell? ⟨w.heap.size + 3, 0, none⟩ = some (.int .i64 (cntW pre.length)) := blk_cell hc3 0
    have fC : V3.frozen? ⟨w.heap.size + 3, 0, none⟩ = false := blk_frozen hc3 0
    have eE : V3.cell? ⟨w.heap.size + 2, 0, none⟩ = some (.int .i64 0) := blk_cell he3 0
    have fE : V3.frozen? ⟨w.heap.size + 2, 0, none⟩ = false := blk_frozen he3 0
    clear eZ0 eZ1 eZ2 eZ3 eN hform hb3
    cases hf : formedB n ⟨za, zb, zc, zl⟩ with
    | true =>
      have HF := Lib.hid hf
      clear hf
      gi_wp2
      exact ⟨hk3.setCell hc3 (by decide) (by decide) (by omega) _, by rw [List.length_append]; exact blk_put hc3 0 _ rfl, (Below.heap_setCell V3 _ _ _ (by simp)).trans he3, (Below.heap_setCell V3 _ _ _ (by simp)).trans hn3, by rw [List.map_append, List.all_append, ha2]; show (true && (formedB n ⟨za, zb, zc, zl⟩ && true)) = true; rw [HF.out]; rfl, (hk2.trans hk3).setCell hc3 (by decide) (by decide) (by omega) _⟩
    | false =>
      have HF := Lib.hid hf
      clear hf
      gi_wp2
      exact ⟨(hk3.setCell he3 (by decide) (by decide) (by omega) _).ka _, blk_put he3 0 _ rfl, by rw [List.map_append, List.all_append, ha2]; show (true && (formedB n ⟨za, zb, zc, zl⟩ && true)) = false; rw [HF.out]; rfl, (hk2.trans hk3).setCell he3 (by decide) (by decide) (by omega) _⟩
  case hdone =>
    rintro D zs V hD hzs ⟨hc1, he1, hn1, ha1, hk⟩ hK
    have hl : zs.length = (nodesT t).length := by rw [← hzs, List.length_map]
    have hr := HRr.out
    rw [hzs] at ha1
    rw [if_pos ha1] at hr
    rw [hl] at hc1
    clear hl hzs ha1
    generalize cntW (nodesT t).length = k at hc1 hr
    have e0 : V.cell? ⟨w.heap.size + 3, 0, none⟩ = some (.int .i64 k) := blk_cell hc1 0
    have eE : V.cell? ⟨w.heap.size + 2, 0, none⟩ = some (.int .i64 0) := blk_cell he1 0
    have fE : V.frozen? ⟨w.heap.size + 2, 0, none⟩ = false := blk_frozen he1 0
    by_cases h3 : 65536 < k
    · rw [if_pos h3] at hr
      have HR2 := Lib.hid hr
      clear hr
      have hez := blk_put (cs' := #[.int .i64 2]) he1 0 (.int .i64 2) rfl
      have hkz := hk.setCell (j := 0) he1 (by decide) (by decide) (by omega) (.int .i64 2)
      have hDz : (V.setCell ⟨w.heap.size + 2, 0, none⟩ (.int .i64 2)).heap[D]? = some (.deferred (some [])) := (Below.heap_setCell V _ _ _ (by simp; omega)).trans hK
      gi_wp2
      refine leaves_marks (B := w.heap.size + 5) (J := fun X => X.heap[w.heap.size + 2]? = some (.cells #[.int .i64 2] 31 (0, 0)) ∧ KT 24 30 w.heap.size wb X) (OwnFrom.and (own_cells (f := fun _ => #[.int .i64 2])) (KT.own (by omega) hbb.size)) (fun X hX => ?_) [D] _ (fun D' hD' => by rw [List.mem_singleton.1 hD']; exact ⟨by omega, hDz⟩) (by simp) ⟨hez, hkz⟩
      refine ⟨.int .i64 2, ?_, by rw [← HR2.out], hbb.trans hX.2.below⟩
      have e1 : X.cell? ⟨w.heap.size + 2, 0, none⟩ = some (.int .i64 2) := blk_cell hX.1 0
      simp [results, Tryd.func17, go_sem, e1]
    · rw [if_neg h3] at hr
      have HR2 := Lib.hid hr
      clear hr
      have hez := blk_put (cs' := #[.int .i64 0]) he1 0 (.int .i64 0) rfl
      have hkz := hk.setCell (j := 0) he1 (by decide) (by decide) (by omega) (.int .i64 0)
      have hDz : (V.setCell ⟨w.heap.size + 2, 0, none⟩ (.int .i64 0)).heap[D]? = some (.deferred (some [])) := (Below.heap_setCell V _ _ _ (by simp; omega)).trans hK
      gi_wp2
      refine leaves_marks (B := w.heap.size + 5) (J := fun X => X.heap[w.heap.size + 2]? = some (.cells #[.int .i64 0] 31 (0, 0)) ∧ KT 24 30 w.heap.size wb X) (OwnFrom.and (own_cells (f := fun _ => #[.int .i64 0])) (KT.own (by omega) hbb.size)) (fun X hX => ?_) [D] _ (fun D' hD' => by rw [List.mem_singleton.1 hD']; exact ⟨by omega, hDz⟩) (by simp) ⟨hez, hkz⟩
      refine ⟨.int .i64 0, ?_, by rw [← HR2.out], hbb.trans hX.2.below⟩
      have e1 : X.cell? ⟨w.heap.size + 2, 0, none⟩ = some (.int .i64 0) := blk_cell hX.1 0
      simp [results, Tryd.func17, go_sem, e1]
  case hstop =>
    rintro D pre V hD hp ⟨he1, ha1, hk⟩ hK
    have hall : ¬ (nodesT t).all (formedB n) = true := by
      obtain ⟨rest, hrest⟩ := hp
      rw [← hrest, List.all_append, ha1]
      simp
    have hr := HRr.out
    rw [if_neg hall] at hr
    clear hall ha1
    gi_wp2
    refine leaves_marks (B := w.heap.size + 5) (J := fun X => X.heap[w.heap.size + 2]? = some (.cells #[.int .i64 1] 31 (0, 0)) ∧ KT 24 30 w.heap.size wb X) (OwnFrom.and (own_cells (f := fun _ => #[.int .i64 1])) (KT.own (by omega) hbb.size)) (fun X hX => ?_) [D] _ (fun D' hD' => by rw [List.mem_singleton.1 hD']; exact ⟨by omega, hK⟩) (by simp) ⟨he1, hk⟩
    refine ⟨.int .i64 1, ?_, by rw [← hr], hbb.trans hX.2.below⟩
    have e1 : X.cell? ⟨w.heap.size + 2, 0, none⟩ = some (.int .i64 1) := blk_cell hX.1 0
    simp [results, Tryd.func17, go_sem, e1]

end Go.Proofs.YtphegiohkggddaaDoor.PF
