/- flat.parts: the iterator over a tree's nodes in preorder keeps the promise SeqD. -/
import Derived.Test.YtphegiohkggddaaDoorPredG
import Derived.Test.YtphegiohkggddaaDoorRangeD
import Derived.RangeFuncBound
import Derived.RangeFuncCalls
import Derived.RangeFuncLeaves
import Derived.Shelf.RegionOpen
import Derived.WalkKit
import Derived.OwnWalkIn
import Derived.TacticsInMore
import Derived.LoopNIn
import Derived.LoopIn
import Derived.Sort.LoopGhostIn
namespace Go.Proofs.YtphegiohkggddaaDoor.PF
open Go.RowKit Go.Shelf Go.Proofs.YtphegiohkggddaaDoorW.PrintWords Go.Proofs.YtphegiohkggddaaDoorW.PrintLast Go.Proofs.YtphegiohkggddaaDoorW.PrintMore
set_option linter.unusedVariables false
set_option linter.unusedSimpArgs false
attribute [local go_sem] Oper.semAt_some

mutual
/-- All nodes of a tree, in preorder. -/
def nodesT : S24 → List S24
  | ⟨a, b, c, l⟩ => ⟨a, b, c, l⟩ :: nodesL l
def nodesL : List S24 → List S24
  | [] => []
  | x :: l => nodesT x ++ nodesL l
end
theorem nodesL_append : ∀ l l', nodesL (l ++ l') = nodesL l ++ nodesL l'
  | [], l' => by simp [nodesL]
  | x :: l, l' => by simp [nodesL, nodesL_append l l', List.append_assoc]

/-- A tree as it is handed over, which reads in the world W0. -/
def Nd (W0 : World) : Type := { p : S24 × Option Addr × Nat // p.1.f3.length ≤ p.2.2 ∧ Kd.C k24 W0 p.2.1 p.1.f3.length p.1.f3 }
def Nd.t {W0 : World} (x : Nd W0) : S24 := x.1.1
def cellsT (t : S24) (A : Option Addr) (c : Nat) : Array Value := #[.int .i64 t.f0, .int .i64 t.f1, .int .i64 t.f2, .slice A t.f3.length c]
def Nd.enc {W0 : World} (x : Nd W0) : Array Value := #[.agg #[.int .i64 x.1.1.f0, .int .i64 x.1.1.f1, .int .i64 x.1.1.f2, .slice x.1.2.1 x.1.1.f3.length x.1.2.2]]

/-- flat.parts: the tree is boxed; the function value captures the box. -/
theorem parts_in (n : Nat) (t : S24) (A : Option Addr) (c : Nat) (w : World) :
    CallsIn Fence.wide n Tryd.prog 34 #[.agg #[.int .i64 t.f0, .int .i64 t.f1, .int .i64 t.f2, .slice A t.f3.length c]] w fun e w' => e = .returned (.func (.func 51) #[] #[.pointer (some ⟨w.heap.size, 0, none⟩)]) ∧ w' = w.alloc (.cells #[.int .i64 t.f0, .int .i64 t.f1, .int .i64 t.f2, .slice A t.f3.length c] 24) := by
  have hu24 := Tryd.underlying24
  refine callsIn_wide.2 ?_
  go_enter Tryd.func34, Tryd.ntmps34
  go_wp2
  go_ret
  exact ⟨rfl, rfl⟩

/-- The marks that the loops of a call leave among its deferred calls. -/
def marks (Ds : List Nat) : List Deferred := Ds.map fun D => { target := .collected D, args := #[] }
/-- A call that leaves with such marks: each block is shut, in turn. -/
theorem leaves_marks {n : Nat} {fn : Func} {tmps : Array Value} {R : Ending → World → Prop} {B : Nat} {J : World → Prop} (hJ : OwnFrom B (fun (_ : Unit) W => J W)) (hfin : ∀ w, J w → LeavesIn Fence.wide n Tryd.prog fn tmps R [] .returning w) :
    ∀ (Ds : List Nat) (w : World), (∀ D ∈ Ds, B ≤ D ∧ w.heap[D]? = some (.deferred (some []))) → Ds.Nodup → J w → LeavesInM Fence.wide n Tryd.prog fn tmps R (marks Ds) .returning w
  | [], w, _, _, hj => hfin w hj
  | D :: Ds, w, h, hnd, hj => by
    have hD := h D (List.mem_cons_self ..)
    refine ⟨by simp, .inl ⟨D, _, rfl, run_takeDeferred hD.2, leaves_marks hJ hfin Ds _ ?_ (List.nodup_cons.1 hnd).2 (hJ.putObj (s := ()) _ hj hD.1 hD.2 rfl)⟩⟩
    intro D' hD'
    have h2 := h D' (List.mem_cons_of_mem _ hD')
    exact ⟨h2.1, (World.putObj_heap_other (fun e => (List.nodup_cons.1 hnd).1 (by rw [← e]; exact hD'))).trans h2.2⟩

/-- The claim, at one tree. -/
def PartsAt (W0 : World) (t : S24) : Prop :=
  ∀ (A : Option Addr) (c Bt : Nat) (w : World), Below W0.heap.size W0 w → t.f3.length ≤ c → Kd.C k24 W0 A t.f3.length t.f3 → w.heap[Bt]? = some (.cells #[.int .i64 t.f0, .int .i64 t.f1, .int .i64 t.f2, .slice A t.f3.length c] 24 (0, 0)) →
    SeqD 24 30 W0.heap.size Tryd.prog 51 #[.pointer (some ⟨Bt, 0, none⟩)] (Nd.enc (W0 := W0)) (fun ys => ys.map Nd.t = nodesT t) (fun pre => pre.map Nd.t <+: nodesT t) w

set_option maxHeartbeats 4000000 in
theorem parts_at (W0 : World) : ∀ t, PartsAt W0 t := by
  refine S24_ind fun a b c0 l ih => ?_
  intro A c Bt w hb0 hc hC hB n lr J Jx W hW hlr hJ hJx hY h0
  have hBW : W.heap[Bt]? = _ := (hW.block Bt (Array.getElem?_eq_some_iff.1 hB).1).trans hB
  have hBlt : Bt < W.heap.size := (Array.getElem?_eq_some_iff.1 hBW).1
  replace hBW : W.heap[Bt]? = some (.cells #[.int .i64 a, .int .i64 b, .int .i64 c0, .slice A l.length c] 24 (0, 0)) := hBW
  have hb1 : Below W0.heap.size W0 W := hb0.trans (hW.mono hb0.size)
  replace hC : Kd.C k24 W0 A l.length l := hC
  replace hc : l.length ≤ c := hc
  have hlen := hC.2.1
  have hJ1 : J [] (W.alloc (.cells #[.func (.yield lr) #[] #[]] 30)) := hJ.alloc _ h0
  obtain ⟨x0, hx0⟩ : ∃ x0 : Nd W0, x0.1 = (⟨a, b, c0, l⟩, A, c) := ⟨⟨(⟨a, b, c0, l⟩, A, c), hc, hC⟩, rfl⟩
  have ht0 : x0.t = ⟨a, b, c0, l⟩ := by unfold Nd.t; rw [hx0]
  obtain ⟨fn, tmps, assign, body, hy, hR⟩ := hY (n - 1) [] x0 _ (show ([] ++ [x0]).map Nd.t <+: nodesT ⟨a, b, c0, l⟩ from ⟨nodesL l, by simp [nodesT, ht0]⟩) hJ1
  have hu24 := Tryd.underlying24
  show CallsIn Fence.wide n Tryd.prog 51 #[.func (.yield lr) #[] #[], .pointer (some ⟨Bt, 0, none⟩)] W _
  have e0 : (W.alloc (.cells #[.func (.yield lr) #[] #[]] 30)).cell? ⟨Bt, 0, none⟩ = some (.int .i64 a) := by rw [World.cell?_alloc_lt _ _ _ hBlt]; exact blk_cell hBW 0
  have e1 : (W.alloc (.cells #[.func (.yield lr) #[] #[]] 30)).cell? ⟨Bt, 1, none⟩ = some (.int .i64 b) := by rw [World.cell?_alloc_lt _ _ _ hBlt]; exact blk_cell hBW 1
  have e2 : (W.alloc (.cells #[.func (.yield lr) #[] #[]] 30)).cell? ⟨Bt, 2, none⟩ = some (.int .i64 c0) := by rw [World.cell?_alloc_lt _ _ _ hBlt]; exact blk_cell hBW 2
  have e3 : (W.alloc (.cells #[.func (.yield lr) #[] #[]] 30)).cell? ⟨Bt, 3, none⟩ = some (.slice A l.length c) := by rw [World.cell?_alloc_lt _ _ _ hBlt]; exact blk_cell hBW 3
  refine callsIn_of_wp_marks Tryd.func51 rfl trivial ?_
  simp only [Tryd.ntmps51, List.size_toArray, List.length_cons, List.length_nil, Nat.reduceAdd, Nat.reduceSub, Array.replicate_succ, Array.replicate_zero, List.push_toArray, List.append_toArray, List.nil_append, List.cons_append]
  simp only [Nd.enc, hx0] at hy
  have HT := Lib.hid ht0
  have HJ := Lib.hid hJ
  have HX := Lib.hid hJx
  have HY := Lib.hid hY
  have HI := Lib.hid ih
  have HC := Lib.hid hC
  clear hJ hJx hY ih hC h0 hJ1 hx0 ht0
  gi_wp2
  refine ⟨fun h => (by cases h), hR.mono ?_⟩
  rintro e W2 (⟨rfl, hJ2, hk2⟩ | ⟨rfl, hx2, _⟩)
  · obtain ⟨W1, hW1⟩ : ∃ W1, W.alloc (.cells #[.func (.yield lr) #[] #[]] 30) = W1 := ⟨_, rfl⟩
    have hs1 : W1.heap.size = W.heap.size + 1 := by rw [← hW1]; simp
    have hg1 : W1.heap[W.heap.size]? = some (.cells #[.func (.yield lr) #[] #[]] 30 (0, 0)) := by rw [← hW1]; exact World.alloc_heap_new W _
    have hB1 : W1.heap[Bt]? = some (.cells #[.int .i64 a, .int .i64 b, .int .i64 c0, .slice A l.length c] 24 (0, 0)) := by rw [← hW1]; exact (Below.heap_alloc W _ _ hBlt).trans hBW
    rw [hW1] at hk2
    have hb2 : Below W0.heap.size W0 W1 := by rw [← hW1]; exact hb1.alloc hb1.size _
    clear hR hy e0 e1 e2 e3 hW1
    have hB2 := hk2.same _ _ hB1 (.inl rfl)
    have e3 : W2.cell? ⟨Bt, 3, none⟩ = some (.slice A l.length c) := blk_cell hB2 3
    have HK := Lib.hid hk2
    have HB := Lib.hid hB1
    have HG := Lib.hid hg1
    have H2 := Lib.hid hb2
    have HS := Lib.hid hs1
    have HJ2 := Lib.hid hJ2
    clear hk2 hB1 hg1 hb2 hs1 hJ2 hB2
    gi_wp2
    refine wpIn_loop_ghost (fun m a' w' => ∃ (kk : Nat) (ys : List (Nd W0)) (Ds : List Nat) (u4 u5 u14 u15 u16 u17 u18 u19 u20 u21 u22 u23 u24 : Value), kk ≤ l.length ∧ l.length - kk ≤ m ∧ Aside0 (J (x0 :: ys) w') ∧ Aside0 (ys.map Nd.t = nodesL (l.take kk)) ∧ Aside0 (KT 24 30 W0.heap.size W1 w') ∧ Aside0 ((∀ D ∈ Ds, W1.heap.size ≤ D ∧ w'.heap[D]? = some (.deferred (some []))) ∧ Ds.Nodup) ∧
      a' = { tmps := #[.func (.yield lr) #[] #[], .pointer (some ⟨Bt, 0, none⟩), .pointer (some ⟨W.heap.size, 0, none⟩), undef, u4, u5, .func (.yield lr) #[] #[], .agg #[.int .i64 a, .int .i64 b, .int .i64 c0, .slice A l.length c], .bool true, .bool false, .pointer (some ⟨Bt, 3, none⟩), .slice A l.length c, .int .i64 l.length, .int .i64 kk, u14, u15, u16, u17, u18, u19, u20, u21, u22, u23, u24], defers := marks Ds }) l.length ?start ?round
    case start =>
      exact ⟨0, [], [], _, _, _, _, _, _, _, _, _, _, _, _, _, Nat.zero_le _, by omega, ⟨HJ2.out⟩, ⟨rfl⟩, ⟨HK.out⟩, ⟨by simp, List.nodup_nil⟩, rfl⟩
    case round =>
      rintro m a' w' ⟨kk, ys, Ds, u4, u5, u14, u15, u16, u17, u18, u19, u20, u21, u22, u23, u24, hkk, hm, HJw, HYs, HKw, HDs, rfl⟩
      by_cases hlt : kk < l.length
      · have hltz : (kk : Int) < (l.length : Int) := by omega
        have hd : nodesL (l.take (kk + 1)) = nodesL (l.take kk) ++ nodesT (rd_T24 l (kk : Int)) := by
          rw [List.take_succ_eq_append_getElem hlt, nodesL_append]
          have : rd_T24 l (kk : Int) = l[kk] := by simp [rd_T24, hlt]
          rw [this]
          simp [nodesL]
        have hm := rd_mem hlt
        have hbw : Below W0.heap.size W0 w' := H2.out.trans HKw.out.below
        obtain ⟨ad, A3, c3, rfl, hy0, hy1, hy2, hy3, hl3, hi3⟩ := at_T24 HC.out (kk : Int) (by omega) hltz
        have f0 := (Below.cell hbw (World.block_lt_of_cell? W0 _ hy0)).trans hy0
        have f1 := (Below.cell hbw (World.block_lt_of_cell? W0 _ hy1)).trans hy1
        have f2 := (Below.cell hbw (World.block_lt_of_cell? W0 _ hy2)).trans hy2
        have f3 := (Below.cell hbw (World.block_lt_of_cell? W0 _ hy3)).trans hy3
        rw [Int.toNat_natCast] at f0 f1 f2 f3
        clear hy0 hy1 hy2 hy3
        generalize rd_T24 l (kk : Int) = y at f0 f1 f2 f3 hd hm hl3 hi3
        have HD := Lib.hid hd
        have hy := HI.out y hm
        have HL := Lib.hid hl3
        have HR := Lib.hid hi3
        have HW := Lib.hid hbw
        clear hd hm hl3 hi3 hbw
        gi_wp2
        refine ⟨trivial, fun h => (by cases h), (parts_in _ y A3 c3 _).mono ?_⟩
        rintro e w3 ⟨rfl, rfl⟩
        gi_wp2
        obtain ⟨wa, hwa⟩ : ∃ wa, w'.alloc (.cells #[.int .i64 y.f0, .int .i64 y.f1, .int .i64 y.f2, .slice A3 y.f3.length c3] 24) = wa := ⟨_, rfl⟩
        have hsa : wa.heap.size = w'.heap.size + 1 := by rw [← hwa]; simp
        have hta : KT 24 30 W0.heap.size w' wa := by rw [← hwa]; exact (KT.refl w').alloc HW.out.size _
        have hja : J (x0 :: ys) wa := by rw [← hwa]; exact HJ.out.alloc _ HJw.out
        try simp only [hwa]
        try rw [World.size_alloc]
        clear hwa
        obtain ⟨wb, hwb⟩ : ∃ wb, wa.alloc (.cells #[.int .i64 y.f0, .int .i64 y.f1, .int .i64 y.f2, .slice A3 y.f3.length c3] 24) = wb := ⟨_, rfl⟩
        have hsb : wb.heap.size = w'.heap.size + 2 := by rw [← hwb]; simp [hsa]
        have htb : KT 24 30 W0.heap.size w' wb := by rw [← hwb]; exact hta.alloc (by have := HW.out.size; omega) _
        have hjb : J (x0 :: ys) wb := by rw [← hwb]; exact HJ.out.alloc _ hja
        have hyb : wb.heap[wa.heap.size]? = some (.cells #[.int .i64 y.f0, .int .i64 y.f1, .int .i64 y.f2, .slice A3 y.f3.length c3] 24 (0, 0)) := by rw [← hwb]; exact World.alloc_heap_new wa _
        try simp only [hwb]
        clear hwb
        have hbb : Below W0.heap.size W0 wb := HW.out.trans htb.below
        have hWb : W.heap.size ≤ wb.heap.size := by have := HS.out; have := HKw.out.below.size; omega
        have hseq := hy A3 c3 wa.heap.size wb hbb HL.out HR.out hyb
        clear hy hja hta
        refine wp_rangeD (t1 := 24) (t2 := 30) (n0 := W0.heap.size) (gf := 51) (lb := #[.pointer (some ⟨wa.heap.size, 0, none⟩)]) (by first | rfl | (rw [hsa]; rfl)) (enters_of Tryd.func51 (by kernel_rfl) rfl) hseq (Below.refl _ _) hbb.size (fun _ => rfl)
          (fun pre' V => J (x0 :: ys ++ pre') V ∧ KT 24 30 W0.heap.size wb V) (fun pre' V => Jx (x0 :: ys ++ pre') V ∧ ∀ D ∈ Ds, V.heap[D]? = some (.deferred (some [])))
          ?hI ?hIx ?h0 ?hround ?hdone ?hstop
        case hI => exact OwnFrom.and (fun s X Y row hs hg hr => HJ.out _ X Y row hs hg (fun r e => ⟨Nat.le_trans hWb (hr r e).1, (hr r e).2⟩)) (KT.own (Nat.le_refl _) hbb.size)
        case hIx =>
          intro s X Y row hs hg hr
          refine ⟨HX.out _ X Y row hs.1 hg (fun r e => ⟨Nat.le_trans hWb (hr r e).1, (hr r e).2⟩), fun D hD => ?_⟩
          refine (hg.block D (Array.getElem?_eq_some_iff.1 (hs.2 D hD)).1 (fun e => ?_)).trans (hs.2 D hD)
          have h1 := (hr D e.symm).1
          have h2 := (Array.getElem?_eq_some_iff.1 (HDs.out.1 D hD).2).1
          omega
        case h0 => exact ⟨by rw [List.append_nil]; exact hjb, KT.refl _⟩
        case hround =>
          rintro m' l2 pre' z V hsp ⟨hj, hk⟩
          have hsp2 : ((x0 :: ys ++ pre') ++ [z]).map Nd.t <+: nodesT ⟨a, b, c0, l⟩ := by
            obtain ⟨rest, hrest⟩ := hsp
            refine ⟨rest ++ nodesL (l.drop (kk + 1)), ?_⟩
            have h1 : nodesL l = nodesL (l.take (kk + 1)) ++ nodesL (l.drop (kk + 1)) := by rw [← nodesL_append, List.take_append_drop]
            rw [List.append_assoc, List.map_append, List.map_cons, HYs.out, HT.out, nodesT, h1, HD.out, ← hrest]
            simp [List.append_assoc]
          have hVn : W0.heap.size ≤ V.heap.size := Nat.le_trans hbb.size hk.below.size
          have HYz := Lib.hid fun V3 h3 => HY.out (m' - 1) (x0 :: ys ++ pre') z V3 hsp2 h3
          clear hsp2 hsp
          obtain ⟨⟨⟨za, zb, zc, zl⟩, zA, zcap⟩, hz⟩ := z
          simp only [Nd.enc]
          gi_wp2
          refine ⟨(KT.refl V).alloc hVn _, ⟨HJ.out.alloc _ hj, hk.alloc hVn _⟩, ?_⟩
          intro V3 hsz hcells hbel hI3
          have hG3 := (HKw.out.trans (htb.trans hI3.2)).same _ _ HG.out (.inr rfl)
          have hZ3 := hcells _ _ (World.alloc_heap_new V _) rfl
          have eG : V3.cell? ⟨W.heap.size, 0, none⟩ = some (.func (.yield lr) #[] #[]) := blk_cell hG3 0
          have eZ0 : V3.cell? ⟨V.heap.size, 0, none⟩ = some (.int .i64 za) := blk_cell hZ3 0
          have eZ1 : V3.cell? ⟨V.heap.size, 1, none⟩ = some (.int .i64 zb) := blk_cell hZ3 1
          have eZ2 : V3.cell? ⟨V.heap.size, 2, none⟩ = some (.int .i64 zc) := blk_cell hZ3 2
          have eZ3 : V3.cell? ⟨V.heap.size, 3, none⟩ = some (.slice zA zl.length zcap) := blk_cell hZ3 3
          obtain ⟨fn', tmps', assign', body', hyz, hRz⟩ := HYz.out V3 hI3.1
          simp only [Nd.enc] at hyz
          have HI3 := Lib.hid hI3
          clear hcells hbel hI3 hG3 hZ3 hsz
          gi_wp2
          refine ⟨fun h => (by cases h), (show RoundIn (Fence.wide.inRound l2) (m' - 1) Tryd.prog lr fn' tmps' assign' body' V3 _ from hRz).mono ?_⟩
          rintro e V4 (⟨rfl, hj4, hk4⟩ | ⟨rfl, hx4, hk4⟩)
          · gi_wp2
            exact ⟨hk4, by rw [← List.append_assoc]; exact hj4, HI3.out.2.trans hk4⟩
          · gi_wp2
            rw [List.append_assoc] at hx4
            refine ⟨hk4.mono (by have := hlr; omega), hx4, fun D hD => ?_⟩
            have h1 := (HDs.out.1 D hD)
            exact hk4.same _ _ (by have := HS.out; omega) ((htb.trans HI3.out.2).same _ _ h1.2 trivial) trivial
        case hdone =>
          rintro D zs V hD hzs ⟨hj, hk⟩ hK
          gi_wp2
          refine ⟨l.length - (kk + 1), by omega, kk + 1, ys ++ zs, D :: Ds, _, _, _, _, _, _, _, _, _, _, _, _, _, by omega, Nat.le_refl _, ⟨hj⟩, ⟨by rw [List.map_append, HYs.out, hzs, HD.out]⟩, ⟨HKw.out.trans (htb.trans hk)⟩, ⟨?_, ?_⟩, rfl⟩
          · intro D' hD'
            rcases List.mem_cons.1 hD' with rfl | hD'
            · exact ⟨by have := HKw.out.below.size; omega, hK⟩
            · exact ⟨(HDs.out.1 D' hD').1, (htb.trans hk).same _ _ (HDs.out.1 D' hD').2 trivial⟩
          · refine List.nodup_cons.2 ⟨fun h => ?_, HDs.out.2⟩
            have h2 := (Array.getElem?_eq_some_iff.1 (HDs.out.1 D h).2).1
            omega
        case hstop =>
          rintro D pre' V hD hp ⟨hx, hds⟩ hK
          gi_wp2
          refine leaves_marks (B := W.heap.size) (J := fun V => Jx (x0 :: ys ++ pre') V) (fun s X Y row hs hg hr => HX.out _ X Y row hs hg hr) (fun V hV => ⟨_, results_none rfl _ _ _, ⟨_, rfl⟩, .inr ⟨x0 :: ys ++ pre', ?_, hV⟩⟩) (D :: Ds) V ?_ ?_ hx
          · intro D' hD'
            rcases List.mem_cons.1 hD' with rfl | hD'
            · exact ⟨by omega, hK⟩
            · exact ⟨by have := (HDs.out.1 D' hD').1; have := HS.out; omega, hds D' hD'⟩
          · refine List.nodup_cons.2 ⟨fun h => ?_, HDs.out.2⟩
            have h2 := (Array.getElem?_eq_some_iff.1 (HDs.out.1 D h).2).1
            omega
          · obtain ⟨rest, hrest⟩ := hp
            refine ⟨rest ++ nodesL (l.drop (kk + 1)), ?_⟩
            have h1 : nodesL l = nodesL (l.take (kk + 1)) ++ nodesL (l.drop (kk + 1)) := by rw [← nodesL_append, List.take_append_drop]
            rw [List.map_append, List.map_cons, HYs.out, HT.out, nodesT, h1, HD.out, ← hrest]
            simp [List.append_assoc]
      · have hkk2 : kk = l.length := by omega
        subst hkk2
        have hltz : ¬ ((l.length : Nat) : Int) < (l.length : Int) := by omega
        gi_wp2
        refine leaves_marks (B := W.heap.size) (J := fun V => J (x0 :: ys) V) (fun s X Y row hs hg hr => HJ.out _ X Y row hs hg hr) (fun V hV => ⟨_, results_none rfl _ _ _, ⟨_, rfl⟩, .inl ⟨x0 :: ys, ?_, hV⟩⟩) Ds w' (fun D hD => ⟨by have := (HDs.out.1 D hD).1; have := HS.out; omega, (HDs.out.1 D hD).2⟩) HDs.out.2 HJw.out
        have h2 := HYs.out
        rw [List.take_length] at h2
        rw [List.map_cons, h2, HT.out, nodesT]
  · gi_wp2
    exact ⟨_, results_none rfl _ _ _, ⟨_, rfl⟩, .inr ⟨_, ⟨nodesL l, by simp [nodesT, HT.out]⟩, hx2⟩⟩

end Go.Proofs.YtphegiohkggddaaDoor.PF
