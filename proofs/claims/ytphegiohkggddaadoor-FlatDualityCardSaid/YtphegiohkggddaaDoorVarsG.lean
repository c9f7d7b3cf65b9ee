/- flat.Vars answers what 'vars_val' says. -/
import Derived.Test.YtphegiohkggddaaDoorSortG
import Derived.Test.YtphegiohkggddaaDoorCheckG
import Derived.RangeFuncBox
import Derived.Maps.AppendAt
namespace Go.Proofs.YtphegiohkggddaaDoor.PF
open Go.RowKit Go.Shelf Go.Proofs.YtphegiohkggddaaDoorW.PrintWords Go.Proofs.YtphegiohkggddaaDoorW.PrintLast Go.Proofs.YtphegiohkggddaaDoorW.PrintMore
set_option linter.unusedVariables false
set_option linter.unusedSimpArgs false
attribute [local go_sem] Oper.semAt_some

/-- The variables of a list of nodes, in their order. -/
def varsL (l : List S24) : List Int := (l.filter fun x => x.f0 == 2).map S24.f1
theorem varsL_append (l l' : List S24) : varsL (l ++ l') = varsL l ++ varsL l' := by simp [varsL]
theorem varsL_one (x : S24) : varsL [x] = if (x.f0 == 2) = true then [x.f1] else [] := by
  unfold varsL
  rw [List.filter_cons]
  split <;> rfl
theorem varsL_le (l : List S24) : (varsL l).length ≤ l.length := by unfold varsL; rw [List.length_map]; exact List.length_filter_le _ _
/-- What flat.Vars answers. -/
def vars_val (t : S24) : List Int := Lib.compact ((varsL (nodesT t)).mergeSort fun x y => decide (x ≤ y))

theorem info3 : (Tryd.prog.info? 3).map (fun i => (i.zero, i.size, i.bytes)) = some (some (.int .i64 0), 1, 8) := by kernel_rfl

/-- The row of the names that have come, in the result's box. -/
def VRow (n0 B : Nat) (zs : List Int) (W : World) : Prop := ∃ v, Boxed W B 36 v ∧ W.ownsRow n0 3 1 v zs.length (zs.map (Value.int .i64)) ∧ True
theorem VRow.own {β : Type} {n0 B K : Nat} {f : β → List Int} : OwnFrom K (fun (s : β) W => VRow n0 B (f s) W) :=
  (holdsRow_own n0 B 36 3 1 (fun s : β => (f s).length) (fun s => (f s).map (Value.int .i64)) (fun _ _ => True)).from K

theorem VRow.alloc_ {n0 B : Nat} {zs : List Int} {W : World} (h : VRow n0 B zs W) (o : Obj) : VRow n0 B zs (W.alloc o) := (VRow.own (β := Unit) (K := 0) (f := fun _ => zs)).alloc (s := ()) o h
theorem row_keep {n0 k : Nat} {W : World} {v : Value} {n : Nat} {xs : List Value} (h : W.ownsRow n0 3 1 v n xs) (hk : v.ownBlock = some k) : n0 ≤ k ∧ ∀ o, W.heap[k]? = some o → ¬ Keepable 24 30 o := by
  rcases h.2 with ⟨rfl, _⟩ | ⟨g, cap, cur, rfl, hb, hg, _⟩
  · simp [Value.ownBlock] at hk
  · obtain rfl : g = k := by simpa [Value.ownBlock] using hk
    refine ⟨hb, fun o ho => ?_⟩
    rw [hg] at ho
    obtain rfl := Option.some.inj ho
    rintro (e | e) <;> cases e
theorem row_def {n0 D : Nat} {W W' : World} {v : Value} {n : Nat} {xs : List Value} (h : W.ownsRow n0 3 1 v n xs) (hg : W.grownBy W' v.ownBlock) {o : Obj} (hD : W.heap[D]? = some o) (ho : o.isCells = false) : W'.heap[D]? = some o := by
  refine (hg.block D (Array.getElem?_eq_some_iff.1 hD).1 (fun e => ?_)).trans hD
  rcases h.2 with ⟨rfl, _⟩ | ⟨g, cap, cur, rfl, hb, hgb, _⟩
  · simp [Value.ownBlock] at e
  · obtain rfl : D = g := by simpa [Value.ownBlock] using e
    rw [hgb] at hD
    obtain rfl := Option.some.inj hD
    cases ho
theorem owns_slice {n0 : Nat} {W : World} {v : Value} {n : Nat} {xs : List Value} (h : W.ownsRow n0 3 1 v n xs) : ∃ A c, v = .slice A n c := by
  rcases h.2 with ⟨rfl, h0⟩ | ⟨g, cap, cur, rfl, _⟩
  · exact ⟨none, 0, by rw [h0]⟩
  · exact ⟨_, _, rfl⟩

set_option maxHeartbeats 4000000 in
theorem Vars_calls (t : S24) (A : Option Addr) (c : Nat) (w : World) (hC : Kd.C k24 w A t.f3.length t.f3) (hc : t.f3.length ≤ c) (hlen : (nodesT t).length < 1099511627776) :
    Calls Tryd.prog 23 #[.agg #[.int .i64 t.f0, .int .i64 t.f1, .int .i64 t.f2, .slice A t.f3.length c]] w fun e w' => ∃ A2 c2, e = .returned (.slice A2 (vars_val t).length c2) ∧ (vars_val t).length ≤ c2 ∧ Kd.C (Kd.int .i64) w' A2 (vars_val t).length (vars_val t) ∧ Below w.heap.size w w' := by
  have hu24 := Tryd.underlying24
  refine (callsIn_wide (n := 3)).1 ?_
  refine callsIn_of_wp_marks Tryd.func23 rfl trivial ?_
  simp only [Tryd.ntmps23, List.size_toArray, List.length_cons, List.length_nil, Nat.reduceAdd, Nat.reduceSub, Array.replicate_succ, Array.replicate_zero, List.push_toArray, List.append_toArray, List.nil_append, List.cons_append]
  gi_wp2
  refine ⟨trivial, (parts_in _ t A c _).mono ?_⟩
  rintro e w3 ⟨rfl, rfl⟩
  gi_wp2
  obtain ⟨wa, hwa⟩ : ∃ wa, (w.alloc (.cells #[.int .i64 t.f0, .int .i64 t.f1, .int .i64 t.f2, .slice A t.f3.length c] 24)).alloc (.cells #[.slice none 0 0] 36) = wa := ⟨_, rfl⟩
  have hsa : wa.heap.size = w.heap.size + 2 := by rw [← hwa]; simp
  have hba : Below w.heap.size w wa := by rw [← hwa]; exact ((Below.refl _ w).alloc (Nat.le_refl _) _).alloc (by simp) _
  have hca : wa.heap[w.heap.size + 1]? = some (.cells #[.slice none 0 0] 36 (0, 0)) := by
    rw [← hwa]
    exact alloc_at (by simp)
  try simp only [hwa]
  clear hwa
  obtain ⟨wb, hwb⟩ : ∃ wb, wa.alloc (.cells #[.int .i64 t.f0, .int .i64 t.f1, .int .i64 t.f2, .slice A t.f3.length c] 24) = wb := ⟨_, rfl⟩
  have hyb : wb.heap[wa.heap.size]? = some (.cells #[.int .i64 t.f0, .int .i64 t.f1, .int .i64 t.f2, .slice A t.f3.length c] 24 (0, 0)) := by rw [← hwb]; exact World.alloc_heap_new wa _
  have hbb : Below w.heap.size w wb := by rw [← hwb]; exact hba.alloc hba.size _
  have hcb : wb.heap[w.heap.size + 1]? = some (.cells #[.slice none 0 0] 36 (0, 0)) := by rw [← hwb]; exact (Below.heap_alloc wa _ _ (by omega)).trans hca
  have hsb : wb.heap.size = w.heap.size + 3 := by rw [← hwb]; simp [hsa]
  try simp only [hwb]
  clear hwb hca hba
  have hseq := parts_at w t A c wa.heap.size wb hbb hc hC hyb
  have hrow0 : VRow w.heap.size (w.heap.size + 1) [] wb := ⟨_, hcb, World.ownsRow_nil _ _ _ _, trivial⟩
  refine wp_rangeD (t1 := 24) (t2 := 30) (n0 := w.heap.size) (gf := 51) (lb := #[.pointer (some ⟨wa.heap.size, 0, none⟩)]) (by first | rfl | (rw [hsa]; rfl)) (enters_of Tryd.func51 (by kernel_rfl) rfl) hseq (Below.refl _ _) hbb.size (fun _ => rfl)
    (fun pre V => VRow w.heap.size (w.heap.size + 1) (varsL (pre.map Nd.t)) V ∧ KT 24 30 w.heap.size wb V) (fun _ _ => False)
    (OwnFrom.and VRow.own (KT.own (Nat.le_refl _) hbb.size)) (fun _ _ _ _ hs _ _ => hs) ⟨hrow0, KT.refl _⟩ ?hround ?hdone ?hstop
  case hround =>
    rintro m l pre z V hsp ⟨hr1, hk⟩
    have hVn : w.heap.size ≤ V.heap.size := Nat.le_trans hbb.size hk.below.size
    have hVb : wb.heap.size ≤ V.heap.size := hk.below.size
    have hsl : (pre ++ [z]).length ≤ (nodesT t).length := by
      have := hsp.length_le
      rwa [List.length_map] at this
    have hvl : (varsL (pre.map Nd.t)).length < 1099511627776 := by
      have h1 := varsL_le (pre.map Nd.t)
      rw [List.length_map] at h1
      rw [List.length_append] at hsl
      omega
    clear hsp hsl
    have hfin : ∀ X, VRow w.heap.size (w.heap.size + 1) (varsL (pre.map Nd.t) ++ (if (z.t.f0 == 2) = true then [z.t.f1] else [])) X → VRow w.heap.size (w.heap.size + 1) (varsL ((pre ++ [z]).map Nd.t)) X := by
      intro X h
      rw [List.map_append, varsL_append, List.map_cons, List.map_nil, varsL_one]
      exact h
    obtain ⟨⟨⟨za, zb, zc, zl⟩, zA, zcap⟩, hz⟩ := z
    simp only [Nd.enc]
    gi_wp2
    refine ⟨(KT.refl V).alloc hVn _, ⟨hr1.alloc_ _, hk.alloc hVn _⟩, ?_⟩
    rintro V2 hsz hcells hbel ⟨⟨v, hv, hrow, _⟩, hk2⟩
    have hZ2 := hcells _ _ (World.alloc_heap_new V _) rfl
    have eZ0 : V2.cell? ⟨V.heap.size, 0, none⟩ = some (.int .i64 za) := blk_cell hZ2 0
    have eZ1 : V2.cell? ⟨V.heap.size, 1, none⟩ = some (.int .i64 zb) := blk_cell hZ2 1
    have eV : V2.cell? ⟨w.heap.size + 1, 0, none⟩ = some v := hv.cell
    have fV := hv.frozen
    have hsV : w.heap.size + 5 ≤ V2.heap.size + 1 := by rw [hsz]; simp; omega
    obtain ⟨i0, hi, hz0, hz1, hz2⟩ := info_parts info3
    clear hcells hbel hsz hZ2 hr1
    have HFIN := Lib.hid hfin
    clear hfin
    generalize varsL (pre.map Nd.t) = zs at hvl hrow HFIN
    cases hq : (za == 2) with
    | true =>
      have HQ := Lib.hid hq
      gi_wp2_with (first | (gi_at_builtin; refine wpListIn_append_own _ rfl _ _ 36 rfl w.heap.size 3 i0 (.int .i64 0) 1 8 Tryd.underlying36 hi hz0 hz1 hz2 rfl (by decide) _ _ _ rfl (hrow.alloc _) ⟨V2.heap.size, 0, none⟩ 1 1 [.int .i64 zb] rfl rfl (cell_one_new _ _ _) (by simp [Value.oneCell']) (by first | omega | (simp [maxLen]; omega)) (by omega) (by simp; omega) ?_; intro v' w1 hown' hgrow _; obtain ⟨g', cap', rfl⟩ := ownsRow_succ hown'; obtain ⟨hv1, hv2, hr2, _, hb2⟩ := hv.appended (by decide) hrow (by omega) (by omega) hown' hgrow; have hc1 := hv1.cell; have hf1 := hv1.frozen))
      have hkt : KT 24 30 w.heap.size V2 w1 := ((KT.refl V2).alloc (by omega) _).grown hgrow (by simp; omega) (fun k hk => row_keep (hrow.alloc _) hk)
      have hks := hkt.setCell (j := 0) hv1 (by decide) (by decide) (by omega) (.slice (some ⟨g', 0, none⟩) (zs.length + 1) cap')
      refine ⟨hks, HFIN.out _ (show VRow w.heap.size (w.heap.size + 1) (zs ++ (if (za == 2) = true then [zb] else [])) _ from ⟨_, hv2, ?_, trivial⟩), hk2.trans hks⟩
      rw [if_pos HQ.out, List.length_append, List.map_append]
      exact hr2
    | false =>
      have HQ := Lib.hid hq
      gi_wp2
      exact ⟨KT.refl _, HFIN.out _ (show VRow w.heap.size (w.heap.size + 1) (zs ++ (if (za == 2) = true then [zb] else [])) _ from by rw [if_neg (by rw [HQ.out]; simp), List.append_nil]; exact ⟨v, hv, hrow, trivial⟩), hk2⟩
  case hdone =>
    rintro D zs V hD hzs ⟨⟨v, hv, hrow, _⟩, hk⟩ hK
    have hvl : (varsL (nodesT t)).length < 1099511627776 := Nat.lt_of_le_of_lt (varsL_le _) hlen
    rw [hzs] at hrow
    have hvv : Lib.compact ((varsL (nodesT t)).mergeSort fun x y => decide (x ≤ y)) = vars_val t := rfl
    generalize varsL (nodesT t) = ys at hrow hvl hvv
    have hks := sort_calls w.heap.size v ys V hrow (by omega)
    have eV : V.cell? ⟨w.heap.size + 1, 0, none⟩ = some v := hv.cell
    gi_wp2
    refine ⟨trivial, (callsIn_wide.2 hks).mono ?_⟩
    rintro e V1 ⟨rfl, hrow1, hg1⟩
    have hv1 := hv.kept hg1 (hv.not_row (by decide) hrow)
    have hk1 : KT 24 30 w.heap.size V V1 := (KT.refl V).grown hg1 (Nat.le_trans hbb.size hk.below.size) (fun k hk => row_keep hrow hk)
    have hK1 := row_def hrow hg1 hK rfl
    have hl1 : (ys.mergeSort fun x y => decide (x ≤ y)).length = ys.length := List.length_mergeSort ys
    have hVs : w.heap.size + 3 ≤ V1.heap.size := by have := hk.below.size; have := hk1.below.size; omega
    generalize (ys.mergeSort fun x y => decide (x ≤ y)) = ss at hrow1 hl1 hvv
    rw [← hl1] at hrow1
    have hkc := compact_calls w.heap.size v ss V1 hrow1 (by omega)
    rw [hvv] at hkc
    have eV1 : V1.cell? ⟨w.heap.size + 1, 0, none⟩ = some v := hv1.cell
    clear hks eV hg1 hrow hv hK
    gi_wp2
    refine ⟨trivial, (callsIn_wide.2 hkc).mono ?_⟩
    rintro e V2 ⟨v', rfl, hrow2, hg2, ho2, A2, c2, rfl⟩
    have hv2 := hv1.kept hg2 (hv1.not_row (by decide) hrow1)
    have hk2 : KT 24 30 w.heap.size V1 V2 := (KT.refl V1).grown hg2 (by omega) (fun k hk => row_keep hrow1 hk)
    have hK2 := row_def hrow1 hg2 hK1 rfl
    have eV2 := hv2.cell
    have fV2 := hv2.frozen
    clear hkc eV1 hg2 hrow1 hv1 hK1 ho2 hvv
    have hks := ((hk.trans hk1).trans hk2).setCell (j := 0) hv2 (by decide) (by decide) (by omega) (.slice A2 (vars_val t).length c2)
    have hrs : VRow w.heap.size (w.heap.size + 1) (vars_val t) (V2.setCell ⟨w.heap.size + 1, 0, none⟩ (.slice A2 (vars_val t).length c2)) := ⟨_, hv2.set _, hrow2.kept (grownBy_setCell' V2 _ _) (.inr (hv2.not_row (by decide) hrow2).symm), trivial⟩
    have hDz : (V2.setCell ⟨w.heap.size + 1, 0, none⟩ (.slice A2 (vars_val t).length c2)).heap[D]? = some (.deferred (some [])) := (Below.heap_setCell V2 _ _ _ (by simp; omega)).trans hK2
    gi_wp2
    refine leaves_marks (B := w.heap.size + 3) (J := fun X => VRow w.heap.size (w.heap.size + 1) (vars_val t) X ∧ KT 24 30 w.heap.size wb X) (OwnFrom.and VRow.own (KT.own (by omega) hbb.size)) (fun X hX => ?_) [D] _ (fun D' hD' => by rw [List.mem_singleton.1 hD']; exact ⟨by omega, hDz⟩) (by simp) ⟨hrs, hks⟩
    obtain ⟨⟨v, hv, hrow, _⟩, hkX⟩ := hX
    obtain ⟨A3, c3, rfl⟩ := owns_slice hrow
    obtain ⟨_, hc3, hC3⟩ := C_of_owns hrow
    refine ⟨.slice A3 (vars_val t).length c3, ?_, A3, c3, rfl, hc3, hC3, hbb.trans hkX.below⟩
    have e1 : X.cell? ⟨w.heap.size + 1, 0, none⟩ = some (.slice A3 (vars_val t).length c3) := hv.cell
    simp [results, Tryd.func23, go_sem, e1]
  case hstop =>
    rintro D pre V _ _ h _
    exact h.elim

end Go.Proofs.YtphegiohkggddaaDoor.PF
