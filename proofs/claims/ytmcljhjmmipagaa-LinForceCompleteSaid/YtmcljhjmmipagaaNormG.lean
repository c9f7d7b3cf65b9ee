/- lin.Norm answers what 'lin_Norm.val' says, for slices that read as lists; the conditions stand in each statement. -/
import Derived.Test.YtmcljhjmmipagaaNormP
import Derived.Test.YtmcljhjmmipagaaKeysG
import Derived.Test.YtmcljhjmmipagaaEachG
import Derived.Test.YtmcljhjmmipagaaAllG
import Derived.Deep.RegionHeld3
namespace Go.Proofs.Ytmcljhjmmipagaa.PL
open Go.RowKit Go.Proofs.YtmcljhjmmipagaaW.PrintWords Go.Proofs.YtmcljhjmmipagaaW.PrintLast Go.Proofs.YtmcljhjmmipagaaW.PrintMore
attribute [local go_sem] max2_int min2_int max_two min_two max_three min_three max_four min_four   -- for this text's walks alone
set_option linter.unusedVariables false
set_option linter.unusedSimpArgs false

/-- The keys that slices.Sorted gives are the variables. -/
theorem keys_sorted {m n : Nat} {D : DataW Unit} {C L ss : List Int} {w : World} (hown : w.ownsMap Try.prog 3 pairR m n D) (hS : Sums D C L) (hp : ss.Perm (intKeys D)) : ss.mergeSort (fun x y => decide (x ≤ y)) = varsOf L := by
 have hc : CollectedI D (fun _ => false) (varsOf L) := by
  refine ⟨(varsOf_lt L).imp (fun {a b} h => by omega), fun x => ?_⟩
  rw [mem_varsOf, hS.2.1 x, List.any_eq_true]
  simp
 have hperm := hp.trans (hc.perm hown law3 Try.underlying3 (fun _ => rfl)).symm
 have h1 : ss.mergeSort leI = (varsOf L).mergeSort leI := mergeSort_of_perm_i hperm
 refine h1.trans (List.mergeSort_of_pairwise ?_)
 exact (varsOf_lt L).imp (fun {a b} h => by simp [leI]; omega)

/-- The struct under construction and all that the loop reads. -/
structure NormF (w : World) (base Bo m n : Nat) (D : DataW Unit) (vv : Value) (vs : List Int) (rb : Nat) (W : World) (vC vL : Value) (C L : List Int) (b : Int) : Prop where
 blk : W.heap[Bo]? = some (.cells #[vC, vL, .int .i64 b] 52 (0, 0))
 ownC : W.ownsRow base 3 1 vC C.length (C.map (Value.int .i64))
 ownL : W.ownsRow base 3 1 vL L.length (L.map (Value.int .i64))
 ne : ∀ k, vC.ownBlock = some k → vL.ownBlock ≠ some k
 below : Below base w W
 size : base ≤ W.heap.size
 baseBo : base ≤ Bo
 vown : W.ownsRow base 3 1 vv vs.length (vs.map (Value.int .i64))
 neC : ∀ k, vv.ownBlock = some k → vC.ownBlock ≠ some k
 neL : ∀ k, vv.ownBlock = some k → vL.ownBlock ≠ some k
 map : W.ownsMap Try.prog 3 pairR m n D
 mBo : m ≠ Bo
 res : W.heap[rb]? = some (.cells #[.slice none 0 0, .slice none 0 0, .int .i64 0] 24 (0, 0))

namespace NormF
variable {w : World} {base Bo m n : Nat} {D : DataW Unit} {vv : Value} {vs : List Int} {rb : Nat} {W : World} {vC vL : Value} {C L : List Int} {b : Int}
theorem move {W1 : World} (h : NormF w base Bo m n D vv vs rb W vC vL C L b) (hm : W1.heap = W.heap) (hb : Below base w W1) : NormF w base Bo m n D vv vs rb W1 vC vL C L b where
 blk := hm ▸ h.blk
 ownC := own_move h.ownC (fun k hk => by rw [hm])
 ownL := own_move h.ownL (fun k hk => by rw [hm])
 ne := h.ne
 below := hb
 size := hm ▸ h.size
 baseBo := h.baseBo
 vown := own_move h.vown (fun k hk => by rw [hm])
 neC := h.neC
 neL := h.neL
 map := by obtain ⟨es, cl, h1, h2⟩ := h.map; exact ⟨es, cl, hm ▸ h1, h2⟩
 mBo := h.mBo
 res := hm ▸ h.res
theorem drew (h : NormF w base Bo m n D vv vs rb W vC vL C L b) : NormF w base Bo m n D vv vs rb W.drew vC vL C L b := h.move rfl h.below.drew
theorem putF (h : NormF w base Bo m n D vv vs rb W vC vL C L b) : PutF W base Bo vC vL b W vC vL vC vL (C.map (Value.int .i64)) (L.map (Value.int .i64)) where
 blk := h.blk
 ownC := by rw [List.length_map]; exact h.ownC
 ownL := by rw [List.length_map]; exact h.ownL
 ne := h.ne
 oldC := fun k hk => .inl hk
 oldL := fun k hk => .inl hk
 below := Below.refl _ _
 big := Nat.le_refl _
 size := h.size
 baseBo := h.baseBo
 frame := fun _ _ _ _ _ => rfl
theorem put {W1 : World} {vC' vL' : Value} {c l : Int} (h : NormF w base Bo m n D vv vs rb W vC vL C L b) (hp : PutF W base Bo vC vL b W1 vC' vL' vC' vL' (C.map (Value.int .i64) ++ [.int .i64 c]) (L.map (Value.int .i64) ++ [.int .i64 l])) :
  NormF w base Bo m n D vv vs rb W1 vC' vL' (C ++ [c]) (L ++ [l]) b where
 blk := hp.blk
 ownC := by have := hp.ownC; simp only [List.length_append, List.length_map, List.length_singleton, List.map_append, List.map_cons, List.map_nil] at this ⊢; exact this
 ownL := by have := hp.ownL; simp only [List.length_append, List.length_map, List.length_singleton, List.map_append, List.map_cons, List.map_nil] at this ⊢; exact this
 ne := hp.ne
 below := h.below.trans hp.below
 size := hp.size
 baseBo := h.baseBo
 vown := own_move h.vown (fun k hk => hp.frame k (ownBlock_lt h.vown k hk) (ne_blk h.vown h.blk k hk) (h.neC k hk) (h.neL k hk))
 neC := fun k hk hc => by
  rcases hp.oldC k hc with e | e
  ·
   exact h.neC k hk e
  ·
   have := ownBlock_lt h.vown k hk; omega
 neL := fun k hk hc => by
  rcases hp.oldL k hc with e | e
  ·
   exact h.neL k hk e
  ·
   have := ownBlock_lt h.vown k hk; omega
 map := by
  obtain ⟨es, cl, h1, h2⟩ := h.map
  refine ⟨es, cl, (hp.frame m (blk_lt h1) h.mBo (fun e => ?_) (fun e => ?_)).trans h1, h2⟩
  ·
   obtain ⟨cells, hc⟩ := own_typed h.ownC m e; rw [hc] at h1; cases h1
  ·
   obtain ⟨cells, hc⟩ := own_typed h.ownL m e; rw [hc] at h1; cases h1
 mBo := h.mBo
 res := by
  refine (hp.frame rb (blk_lt h.res) (fun e => ?_) (fun e => ?_) (fun e => ?_)).trans h.res
  ·
   have h1 := h.res; rw [e, h.blk] at h1; cases h1
  ·
   obtain ⟨cells, hc⟩ := own_typed h.ownC rb e; have h1 := h.res; rw [hc] at h1; cases h1
  ·
   obtain ⟨cells, hc⟩ := own_typed h.ownL rb e; have h1 := h.res; rw [hc] at h1; cases h1
theorem setLeast (h : NormF w base Bo m n D vv vs rb W vC vL C L b) (x : Int) : NormF w base Bo m n D vv vs rb (W.setCell ⟨Bo, 2, none⟩ (.int .i64 x)) vC vL C L x where
 blk := blk_set h.blk 2 _
 ownC := own_move h.ownC (fun k hk => Below.heap_setCell W ⟨Bo, 2, none⟩ _ k (ne_blk h.ownC h.blk k hk))
 ownL := own_move h.ownL (fun k hk => Below.heap_setCell W ⟨Bo, 2, none⟩ _ k (ne_blk h.ownL h.blk k hk))
 ne := h.ne
 below := h.below.setCell (p := ⟨Bo, 2, none⟩) h.baseBo _
 size := by simpa using h.size
 baseBo := h.baseBo
 vown := own_move h.vown (fun k hk => Below.heap_setCell W ⟨Bo, 2, none⟩ _ k (ne_blk h.vown h.blk k hk))
 neC := h.neC
 neL := h.neL
 map := by
  obtain ⟨es, cl, h1, h2⟩ := h.map
  exact ⟨es, cl, (Below.heap_setCell W ⟨Bo, 2, none⟩ _ m h.mBo).trans h1, h2⟩
 mBo := h.mBo
 res := (Below.heap_setCell W ⟨Bo, 2, none⟩ _ rb (fun e => by have h1 := h.res; rw [e, h.blk] at h1; cases h1)).trans h.res
theorem keepF {W1 : World} (h : NormF w base Bo m n D vv vs rb W vC vL C L b) (hf : ∀ k, k < W.heap.size → W1.heap[k]? = W.heap[k]?) (hb : Below base w W1) (hs : W.heap.size ≤ W1.heap.size) : NormF w base Bo m n D vv vs rb W1 vC vL C L b where
 blk := (hf _ (blk_lt h.blk)).trans h.blk
 ownC := own_move h.ownC (fun k hk => hf k (ownBlock_lt h.ownC k hk))
 ownL := own_move h.ownL (fun k hk => hf k (ownBlock_lt h.ownL k hk))
 ne := h.ne
 below := hb
 size := Nat.le_trans h.size hs
 baseBo := h.baseBo
 vown := own_move h.vown (fun k hk => hf k (ownBlock_lt h.vown k hk))
 neC := h.neC
 neL := h.neL
 map := by obtain ⟨es, cl, h1, h2⟩ := h.map; exact ⟨es, cl, (hf _ (blk_lt h1)).trans h1, h2⟩
 mBo := h.mBo
 res := (hf _ (blk_lt h.res)).trans h.res
theorem box (h : NormF w base Bo m n D vv vs rb W vC vL C L b) (x : Int) : NormF w base Bo m n D vv vs rb (W.alloc (.cells #[.int .i64 x] 3)) vC vL C L b :=
 h.keepF (fun k hk => ((Below.refl W.heap.size W).alloc (Nat.le_refl _) _).block k hk) (h.below.alloc h.size _) (by simp)
end NormF


theorem idx0 (p q : Int) (w' : World) : (Instr.index 57 (.agg #[.int .i64 p, .int .i64 q]) (.int .i64 0)).run Try.prog w' = .ok (.int .i64 p) w' := by kernel_rfl
theorem idx1 (p q : Int) (w' : World) : (Instr.index 57 (.agg #[.int .i64 p, .int .i64 q]) (.int .i64 1)).run Try.prog w' = .ok (.int .i64 q) w' := by kernel_rfl

theorem norm2_calls {g : Nat} (x b : Int) (W : World) (h : W.cell? ⟨g, 0, none⟩ = some (.int .i64 b)) : Calls Try.prog 50 #[.int .i64 x, .pointer (some ⟨g, 0, none⟩)] W fun e W' => e = .returned (.int .i64 (min x b)) ∧ ∃ q, W' = W.drewN q := by
 go_enter Try.func50, Try.ntmps50
 go_wp2
 all_goals
  go_ret
  refine ⟨?_, 0, rfl⟩
  show Ending.returned (.int .i64 _) = .returned (.int .i64 _)
  congr 2
  omega

set_option maxRecDepth 100000 in
set_option maxHeartbeats 40000000 in
theorem norm_bad (A0_0 : Option Addr) (c0_0 : Nat) (l0_0 : List Int) (A0_1 : Option Addr) (c0_1 : Nat) (l0_1 : List Int) (a0_2 : Int) (w : World) (hr0_0 : Kd.C (Kd.int .i64) w A0_0 l0_0.length l0_0) (hc0_0 : l0_0.length ≤ c0_0) (hr0_1 : Kd.C (Kd.int .i64) w A0_1 l0_1.length l0_1) (hc0_1 : l0_1.length ≤ c0_1) (h1 : lin_Check.val l0_0 l0_1 a0_2 65536 ≠ 0) :
  Calls Try.prog 17 #[.agg #[.slice A0_0 l0_0.length c0_0, .slice A0_1 l0_1.length c0_1, .int .i64 a0_2]] w fun e w' => e = .returned (.agg #[.slice none 0 0, .slice none 0 0, .int .i64 0]) ∧ Below w.heap.size w w' := by
 have hu24 := Try.underlying24
 have hb := ((Below.refl w.heap.size w).alloc (Nat.le_refl _) (.cells #[.slice A0_0 l0_0.length c0_0, .slice A0_1 l0_1.length c0_1, .int .i64 a0_2] 24)).alloc (by simp) (.cells #[.slice none 0 0, .slice none 0 0, .int .i64 0] 24)
 have k1 := lin_right.calls A0_0 c0_0 l0_0 A0_1 c0_1 l0_1 a0_2 _ (Kd.C_below hr0_0 hb) hc0_0 (Kd.C_below hr0_1 hb) hc0_1
 have e1 : (lin_Check.val l0_0 l0_1 a0_2 65536 != 0) = true := bne_iff_ne.2 h1
 generalize lin_Check.val l0_0 l0_1 a0_2 65536 = v at k1 e1
 have HB := Lib.hid hb
 clear hb hr0_0 hr0_1 h1
 go_enter Try.func17, Try.ntmps17
 go_wp2_with (go_at_call 38; refine k1.mono ?_; rintro e w1 ⟨rfl, hb1⟩; have q0 := hb1.cell (p := ⟨w.heap.size + 1, 0, none⟩) (by simp); have q1 := hb1.cell (p := ⟨w.heap.size + 1, 1, none⟩) (by simp); have q2 := hb1.cell (p := ⟨w.heap.size + 1, 2, none⟩) (by simp); have f0 := hb1.frozen (p := ⟨w.heap.size + 1, 0, none⟩) (by simp); have f1 := hb1.frozen (p := ⟨w.heap.size + 1, 1, none⟩) (by simp); have f2 := hb1.frozen (p := ⟨w.heap.size + 1, 2, none⟩) (by simp); simp at q0 q1 q2 f0 f1 f2; have HB1 := Lib.hid hb1; clear hb1)
 have hblk : w1.heap[w.heap.size + 1]? = some (.cells #[.slice none 0 0, .slice none 0 0, .int .i64 0] 24 (0, 0)) := (HB1.out.block (w.heap.size + 1) (by simp)).trans (by simpa using blk_new (w.alloc (.cells #[.slice A0_0 l0_0.length c0_0, .slice A0_1 l0_1.length c0_1, .int .i64 a0_2] 24)) (.cells #[.slice none 0 0, .slice none 0 0, .int .i64 0] 24))
 have h3 := blk_set (blk_set (blk_set hblk 0 (.slice none 0 0)) 1 (.slice none 0 0)) 2 (.int .i64 0)
 refine bodyPost_ret (results_cell_row rfl _ _ (w.heap.size + 1) 24 #[.slice none 0 0, .slice none 0 0, .int .i64 0] (0, 0) _ rfl h3 hu24 rfl (by kernel_rfl)) rfl ⟨rfl, ?_⟩
 exact (((HB.out.trans (HB1.out.mono (by simp; omega))).setCell (p := ⟨w.heap.size + 1, 0, none⟩) (by simp) _).setCell (p := ⟨w.heap.size + 1, 1, none⟩) (by simp) _).setCell (p := ⟨w.heap.size + 1, 2, none⟩) (by simp) _


set_option maxRecDepth 100000 in
set_option maxHeartbeats 40000000 in
theorem norm_good (A0_0 : Option Addr) (c0_0 : Nat) (l0_0 : List Int) (A0_1 : Option Addr) (c0_1 : Nat) (l0_1 : List Int) (a0_2 : Int) (w : World) (hr0_0 : Kd.C (Kd.int .i64) w A0_0 l0_0.length l0_0) (hc0_0 : l0_0.length ≤ c0_0) (hr0_1 : Kd.C (Kd.int .i64) w A0_1 l0_1.length l0_1) (hc0_1 : l0_1.length ≤ c0_1) (h1 : lin_Check.val l0_0 l0_1 a0_2 65536 = 0) (hl : l0_1.length ≤ 1000) (r : List Int × List Int × Int) (hr : ncut (nraw l0_0 l0_1 a0_2) = r) :
  Calls Try.prog 17 #[.agg #[.slice A0_0 l0_0.length c0_0, .slice A0_1 l0_1.length c0_1, .int .i64 a0_2]] w fun e w' => ∃ v0_ v1_ : Value, e = .returned (.agg #[v0_, v1_, .int .i64 r.2.2]) ∧ w'.ownsRow w.heap.size 3 1 v0_ r.1.length (r.1.map (Value.int .i64)) ∧ w'.ownsRow w.heap.size 3 1 v1_ r.2.1.length (r.2.1.map (Value.int .i64)) ∧ (∀ k, v0_.ownBlock = some k → v1_.ownBlock ≠ some k) ∧ Below w.heap.size w w' := by
 have hu24 := Try.underlying24
 have hu52 := Try.underlying52
 have hu50 := Try.underlying50
 have hu22 := Try.underlying22
 have hmm := @run_makeMap Try.prog
 have hb := ((Below.refl w.heap.size w).alloc (Nat.le_refl _) (.cells #[.slice A0_0 l0_0.length c0_0, .slice A0_1 l0_1.length c0_1, .int .i64 a0_2] 24)).alloc (by simp) (.cells #[.slice none 0 0, .slice none 0 0, .int .i64 0] 24)
 have k1 := lin_right.calls A0_0 c0_0 l0_0 A0_1 c0_1 l0_1 a0_2 _ (Kd.C_below hr0_0 hb) hc0_0 (Kd.C_below hr0_1 hb) hc0_1
 rw [h1] at k1
 obtain ⟨hlen, hw, oc, ol, hm⟩ := val_zero h1
 have HB := Lib.hid hb
 have H0 := Lib.hid hr0_0
 have H1 := Lib.hid hr0_1
 have HL := Lib.hid hlen
 have HR := Lib.hid hr
 clear hb hr0_0 hr0_1 h1 hlen hr
 go_enter Try.func17, Try.ntmps17
 go_wp2_with fail
 refine k1.mono ?_
 rintro e w1 ⟨rfl, hb1⟩
 clear k1
 have hblk : w1.heap[w.heap.size + 1]? = some (.cells #[.slice none 0 0, .slice none 0 0, .int .i64 0] 24 (0, 0)) := (hb1.block (w.heap.size + 1) (by simp)).trans (by simpa using blk_new (w.alloc (.cells #[.slice A0_0 l0_0.length c0_0, .slice A0_1 l0_1.length c0_1, .int .i64 a0_2] 24)) (.cells #[.slice none 0 0, .slice none 0 0, .int .i64 0] 24))
 have hbox : w1.heap[w.heap.size]? = some (.cells #[.slice A0_0 l0_0.length c0_0, .slice A0_1 l0_1.length c0_1, .int .i64 a0_2] 24 (0, 0)) := (hb1.block w.heap.size (by simp; omega)).trans (blk_alloc (blk_new w _) _)
 have hbT := HB.out.trans (hb1.mono (by simp; omega))
 have hC1 := Kd.C_below H0.out hbT
 have hL1 := Kd.C_below H1.out hbT
 clear hb1 HB H0 H1
 have q0 : w1.cell? ⟨w.heap.size, 0, none⟩ = some (.slice A0_0 l0_0.length c0_0) := (blk_cell hbox 0).trans rfl
 have q1 : w1.cell? ⟨w.heap.size, 1, none⟩ = some (.slice A0_1 l0_1.length c0_1) := (blk_cell hbox 1).trans rfl
 have q2 : w1.cell? ⟨w.heap.size, 2, none⟩ = some (.int .i64 a0_2) := (blk_cell hbox 2).trans rfl
 have hsz := blk_lt hblk
 have hmap := World.ownsMap_made w1 Try.prog 3 pairR
 have hgm := World.grownBy_alloc w1 (.map #[] 0) none
 have hbm := hbT.alloc (by omega) (.map #[] 0)
 have hfold := foldNorm_calls w1.heap.size A0_0 c0_0 l0_0 A0_1 c0_1 l0_1 a0_2 (w1.alloc (.map #[] 0)) hmap (Kd.C_below hC1 ((Below.refl _ _).alloc (Nat.le_refl _) _)) (Kd.C_below hL1 ((Below.refl _ _).alloc (Nat.le_refl _) _)) HL.out oc ol hm
 have HK := Lib.hid (And.intro (blk_alloc hblk (.map #[] 0)) (blk_alloc hbox (.map #[] 0)))
 have HBM := Lib.hid hbm
 have hsz1 : (w1.alloc (.map #[] 0)).heap.size = w1.heap.size + 1 := by simp
 have HS1 := Lib.hid hsz1
 clear hblk hbox hC1 hL1 hmap hgm hbm hbT hsz1
 go_wp2_with fail
 refine hfold.mono ?_
 rintro e w2 ⟨rfl, D, hD, hSm, hg⟩
 clear hfold q0 q1 q2
 have hm0 : w.heap.size ≤ w1.heap.size := by omega
 have hB2 := HBM.out.grown hg (by have := HBM.out.size; exact this) (fun k e => by injection e with e; omega)
 have hres2 := (hg.block (w.heap.size + 1) (by rw [HS1.out]; omega) (by simp; omega)).trans HK.out.1
 have hbox2 := (hg.block w.heap.size (by rw [HS1.out]; omega) (by simp; omega)).trans HK.out.2
 have q2 : w2.cell? ⟨w.heap.size, 2, none⟩ = some (.int .i64 a0_2) := (blk_cell hbox2 2).trans rfl
 have hsz2 : w1.heap.size < w2.heap.size := by have := hg.size; rw [HS1.out] at this; omega
 clear hg HBM HK HS1 hbox2
 have hD3 := (hD.alloc (.cells #[.slice none 0 0, .slice none 0 0, .int .i64 a0_2] 52)).alloc (.cells #[.map (some w1.heap.size)] 55)
 have hres3 := blk_alloc (blk_alloc hres2 (.cells #[.slice none 0 0, .slice none 0 0, .int .i64 a0_2] 52)) (.cells #[.map (some w1.heap.size)] 55)
 have hout3 := blk_alloc (blk_new w2 (.cells #[.slice none 0 0, .slice none 0 0, .int .i64 a0_2] 52)) (.cells #[.map (some w1.heap.size)] 55)
 have hB3 := (hB2.alloc (by omega) (.cells #[.slice none 0 0, .slice none 0 0, .int .i64 a0_2] 52)).alloc (by simp; omega) (.cells #[.map (some w1.heap.size)] 55)
 have hkeys := keys_calls (some w1.heap.size) (w2.alloc (.cells #[.slice none 0 0, .slice none 0 0, .int .i64 a0_2] 52))
 have hsorted := sorted_calls w1.heap.size l0_1.length (w2.heap.size + 1) D _ (by simp) (by simp) hD3 (by have := hD3.size_le; omega)
 have HD := Lib.hid (And.intro hD3 (And.intro hres3 (And.intro hout3 hB3)))
 clear hD hD3 hres3 hout3 hB3 hres2 hB2
 go_wp2_with fail
 refine hkeys.mono ?_
 rintro e w3 ⟨rfl, rfl⟩
 clear hkeys
 go_wp2_with fail
 simp only [World.size_alloc] at hsorted
 refine hsorted.mono ?_
 rintro e w4 ⟨vv, ss, rfl, hperm, hrow, hb4⟩
 clear hsorted
 have hvs := keys_sorted HD.out.1 hSm hperm
 rw [hvs] at hrow
 have hlen : ss.length = (varsOf l0_1).length := by rw [← hvs, List.length_mergeSort]
 rw [hlen] at hrow
 clear hperm hvs hlen
 have hnorm : NormF w w.heap.size w2.heap.size w1.heap.size l0_1.length D vv (varsOf l0_1) (w.heap.size + 1) w4 (.slice none 0 0) (.slice none 0 0) [] [] a0_2 := by
  obtain ⟨hD3, hres3, hout3, hB3⟩ := HD.out
  refine ⟨(hb4.block _ (by first | omega | (simp; omega))).trans hout3, own_nil _ _ _ _, own_nil _ _ _ _, fun k hk => by simp [Value.ownBlock] at hk, hB3.trans (hb4.mono (by first | omega | (simp; omega))), ?_, by omega, own_weaken hrow (by first | omega | (simp; omega)), fun k _ hk => by simp [Value.ownBlock] at hk, fun k _ hk => by simp [Value.ownBlock] at hk, ?_, by omega, (hb4.block _ (by first | omega | (simp; omega))).trans hres3⟩
  ·
   have := hb4.size; simp only [World.size_alloc] at this; omega
  ·
   obtain ⟨es, cl, e1, e2⟩ := hD3
   exact ⟨es, cl, (hb4.block _ (by first | omega | (simp; omega))).trans e1, e2⟩
 have hSm2 : ∀ x, 0 < x → D.atKey (.int .i64 x) (pairD 0 0) = pairD (posS l0_0 l0_1 x) (negS l0_0 l0_1 x) := hSm.2.2
 have hvl := varsOf_length l0_1
 clear hb4 HD hrow hSm
 obtain ⟨A, cap, rfl⟩ : ∃ A cap, vv = .slice A (varsOf l0_1).length cap := by
  rcases hnorm.vown.2 with ⟨hv, h0⟩ | ⟨gg, cap, c2, hv, _⟩
  ·
   exact ⟨none, 0, by rw [hv, h0]⟩
  ·
   exact ⟨_, cap, hv⟩
 have HN := Aside0.mk hnorm
 have HM := Lib.hid hSm2
 have HNS := Aside0.mk (NS.start l0_0 l0_1 hw)
 clear hnorm hSm2
 have hnr : nraw l0_0 l0_1 a0_2 = (varsOf l0_1).foldl (nstep (posS l0_0 l0_1) (negS l0_0 l0_1)) ([], [], a0_2) := rfl
 have HV := Lib.hid (And.intro (fun x (hx : x ∈ varsOf l0_1) => varsOf_range ol hx) hnr)
 clear hnr
 generalize varsOf l0_1 = vs at HN HV hvl ⊢
 generalize nraw l0_0 l0_1 a0_2 = nr at HR HV
 clear ol
 go_wp2
 go_loopg [6, 7, 8, 26, 53, 61] vs.length (fun gg _ _ _ v26 _ _ W => ∃ (k : Nat) (s : List Int × List Int × Int) (vC vL : Value), k ≤ vs.length ∧ vs.length - k ≤ gg ∧ v26 = .int .i64 k ∧ Aside0 (s = (vs.take k).foldl (nstep (posS l0_0 l0_1) (negS l0_0 l0_1)) ([], [], a0_2)) ∧ Aside0 (NS l0_0 l0_1 a0_2 k s) ∧ Aside0 (NormF w w.heap.size w2.heap.size w1.heap.size l0_1.length D (.slice A vs.length cap) vs (w.heap.size + 1) W vC vL s.1 s.2.1 s.2.2))
 case atStart => exact ⟨0, ([], [], a0_2), _, _, Nat.zero_le _, by omega, rfl, ⟨rfl⟩, HNS, HN⟩
 case round =>
  obtain ⟨k, ⟨C, L, b⟩, vC, vL, hk, hg, rfl, HE, HS, HF⟩ := hrel
  clear HN HNS
  by_cases hlt : k < vs.length
  ·
   have hltz : (k : Int) < (vs.length : Int) := by omega
   have hx := HV.out.1 _ (rd_mem hlt)
   have hbd := NS.bound HS.out
   have hNS2 := HS.out.step oc (by have := HL.out; omega) (rd vs (k : Int))
   have hE2 : Aside0 (nstep (posS l0_0 l0_1) (negS l0_0 l0_1) (C, L, b) (rd vs (k : Int)) = (vs.take (k + 1)).foldl (nstep (posS l0_0 l0_1) (negS l0_0 l0_1)) ([], [], a0_2)) := ⟨by rw [take_rd hlt, List.foldl_append, ← HE.out]; rfl⟩
   have hat : Hid (D.atKey (.int .i64 (rd vs (k : Int))) (pairD 0 0) = pairD (posS l0_0 l0_1 (rd vs (k : Int))) (negS l0_0 l0_1 (rd vs (k : Int)))) := Lib.hid (HM.out _ (by omega))
   have hp := posS_bound (L := l0_1) oc (by have := HL.out; omega) (rd vs (k : Int))
   have hq := negS_bound (L := l0_1) oc (by have := HL.out; omega) (rd vs (k : Int))
   have hlC : C.length ≤ k := HS.out.le
   have hlL : L.length ≤ k := by have := HS.out.len; have := HS.out.le; simp only [] at *; omega
   clear HE HS
   obtain ⟨g0, cap0, hform, _⟩ := HF.out.vown.form (by omega)
   simp only [Value.slice.injEq] at hform
   obtain ⟨rfl, hj1, hj2⟩ := hform
   clear hj1 hj2
   have hc0 := (HF.out.vown.cellAt k (by omega)).trans (show _ = some (.int .i64 (rd vs (k : Int))) by rw [List.getElem?_map]; simp [rd, hlt])
   unfold nstep at hE2 hNS2
   generalize posS l0_0 l0_1 (rd vs (k : Int)) = p at hE2 hNS2 hat hp
   generalize negS l0_0 l0_1 (rd vs (k : Int)) = q at hE2 hNS2 hat hq
   generalize rd vs (k : Int) = v at hx hE2 hNS2 hat hc0
   have hwf := wf_of (x := v) (by omega) (by omega)
   have HE := Aside0.mk hE2.out
   have HS := Aside0.mk hNS2
   clear hE2 hNS2
   simp only [] at hbd
   go_wp2
   refine start_ (n := 10) (S := fun w' => w'.ownsMap Try.prog 3 pairR w1.heap.size l0_1.length D) (ds := []) #[false, false, false, false, false, false, false, false, false, false] (by kernel_rfl) rfl rfl HF.out.drew.map (fun hHeld => ?_)
   have HF2 := Aside0.mk HF.out.drew
   clear HF hc0
   generalize wr.drew = w5 at HF2 hHeld ⊢
   refine pure_ (i := 0) (N := some 30) (v := ?_) (a' := ?_) (bl 10 1) rfl rfl (by kernel_rfl) (fun _ _ _ h => h) (Or.inl ⟨by rfl, ?_⟩) ?_ ?_; rotate_left; · (intro w'; go_simp; with_reducible rfl)
   rotate_left; · (simp only [Act.put, List.setIfInBounds_toArray, List.set_cons_zero, List.set_cons_succ, i64_w, i32_w]; rfl)
   refine pure_ (i := 1) (N := some 31) (v := ?_) (a' := ?_) (bl 10 3) rfl rfl (by kernel_rfl) (fun _ _ _ h => h) (Or.inl ⟨by rfl, ?_⟩) ?_ ?_; rotate_left; · (intro w'; go_simp; with_reducible rfl)
   rotate_left; · (simp only [Act.put, List.setIfInBounds_toArray, List.set_cons_zero, List.set_cons_succ, i64_w, i32_w]; rfl)
   refine pure_ (i := 4) (N := some 34) (v := ?_) (a' := ?_) (bl 10 19) rfl rfl (by kernel_rfl) (fun _ _ _ h => h) (Or.inl ⟨by rfl, ?_⟩) ?_ ?_; rotate_left; · (intro w'; go_simp; with_reducible rfl)
   rotate_left; · (simp only [Act.put, List.setIfInBounds_toArray, List.set_cons_zero, List.set_cons_succ, i64_w, i32_w]; rfl)
   refine pure_ (i := 5) (N := some 35) (v := ?_) (a' := ?_) (bl 10 51) rfl rfl (by kernel_rfl) (fun _ _ _ h => h) (Or.inl ⟨by rfl, ?_⟩) ?_ ?_; rotate_left; · (intro w'; go_simp; with_reducible rfl)
   rotate_left; · (simp only [Act.put, List.setIfInBounds_toArray, List.set_cons_zero, List.set_cons_succ, i64_w, i32_w]; rfl)
   refine take_ (i := 2) (N := some 32) (v := ?_) (a' := ?_) (bl 10 55) rfl rfl (by kernel_rfl) (fun _ _ _ h => h) (Or.inl ⟨by rfl, ?_⟩) hHeld ?_ ?_
   rotate_left
   ·
    intro w' s0
    obtain ⟨v_, ps_, hrun, hR⟩ := s0.lookup law3 Try.underlying55 (zero57 w') (pairR_mk 0 0) (key_of hwf)
    rw [hat.out] at hR
    obtain rfl := pairR_inv hR
    simp [execOp, Act.eval, hrun, Result.andThen]
    with_reducible rfl
   rotate_left
   ·
    simp only [Act.put, List.setIfInBounds_toArray, List.set_cons_zero, List.set_cons_succ, i64_w, i32_w]
    rfl
   refine take_ (i := 6) (N := some 36) (v := ?_) (a' := ?_) (bl 10 119) rfl rfl (by kernel_rfl) (fun _ _ _ h => h) (Or.inl ⟨by rfl, ?_⟩) hHeld ?_ ?_
   rotate_left
   ·
    intro w' s0
    obtain ⟨v_, ps_, hrun, hR⟩ := s0.lookup law3 Try.underlying55 (zero57 w') (pairR_mk 0 0) (key_of hwf)
    rw [hat.out] at hR
    obtain rfl := pairR_inv hR
    simp [execOp, Act.eval, hrun, Result.andThen]
    with_reducible rfl
   rotate_left
   ·
    simp only [Act.put, List.setIfInBounds_toArray, List.set_cons_zero, List.set_cons_succ, i64_w, i32_w]
    rfl
   refine pure_ (i := 3) (N := some 33) (v := ?_) (a' := ?_) (bl 10 127) rfl rfl (by kernel_rfl) (fun _ _ _ h => h) (Or.inl ⟨by rfl, ?_⟩) ?_ ?_
   rotate_left
   ·
    intro w'
    simp [execOp, Act.eval, idx0, idx1, Result.andThen]
    with_reducible rfl
   rotate_left
   ·
    simp only [Act.put, List.setIfInBounds_toArray, List.set_cons_zero, List.set_cons_succ, i64_w, i32_w]
    rfl
   refine pure_ (i := 7) (N := some 37) (v := ?_) (a' := ?_) (bl 10 255) rfl rfl (by kernel_rfl) (fun _ _ _ h => h) (Or.inl ⟨by rfl, ?_⟩) ?_ ?_
   rotate_left
   ·
    intro w'
    simp [execOp, Act.eval, idx0, idx1, Result.andThen]
    with_reducible rfl
   rotate_left
   ·
    simp only [Act.put, List.setIfInBounds_toArray, List.set_cons_zero, List.set_cons_succ, i64_w, i32_w]
    rfl
   refine pure_ (i := 8) (N := some 7) (v := ?_) (a' := ?_) (bl 10 511) rfl rfl (by kernel_rfl) (fun _ _ _ h => h) (Or.inl ⟨by rfl, ?_⟩) ?_ ?_; rotate_left; · (intro w'; go_simp; with_reducible rfl)
   rotate_left; · (simp only [Act.put, List.setIfInBounds_toArray, List.set_cons_zero, List.set_cons_succ, i64_w, i32_w]; rfl)
   refine pure_ (i := 9) (N := some 8) (v := ?_) (a' := ?_) (bl 10 1023) rfl rfl (by kernel_rfl) (fun _ _ _ h => h) (Or.inl ⟨by rfl, ?_⟩) ?_ ?_; rotate_left; · (intro w'; go_simp; with_reducible rfl)
   rotate_left; · (simp only [Act.put, List.setIfInBounds_toArray, List.set_cons_zero, List.set_cons_succ, i64_w, i32_w]; rfl)
   refine done_ (by kernel_rfl) ?_
   have hb2 : w5.cell? ⟨w2.heap.size, 2, none⟩ = some (.int .i64 b) := (blk_cell HF2.out.blk 2).trans rfl
   have hf2 := blk_frozen HF2.out.blk 2
   have hcmp := fun W => Try.cmp_Compare_int p q W
   rcases Int.lt_trichotomy p q with h | h | h
   ·
    -- the negative literal is left
    have e1 : Lib.compareInt p q = -1 := by unfold Lib.compareInt; rw [if_pos (by omega)]
    have hF3 := Aside0.mk (HF2.out.setLeast (b - p))
    have hput := put_calls w2.heap.size vC vL (C.map (Value.int .i64)) (L.map (Value.int .i64)) (b - p) (q - p) (-v) _ w.heap.size hF3.out.putF (by rw [List.length_map]; omega) (by rw [List.length_map]; omega)
    rw [e1] at hcmp
    clear e1
    have hmin1 : (q < p) = False := by simp; omega
    have HF4 := Lib.hid (And.intro hF3.out hf2)
    clear HF2 hHeld
    go_wp2_with fail
    refine (hcmp _).mono ?_
    rintro e w6 ⟨rfl, rfl⟩
    clear hcmp
    go_wp2_with fail
    refine hput.mono ?_
    rintro e w6 ⟨⟨_, rfl⟩, vC', vL', hP⟩
    have HP := Lib.hid hP
    clear hP hput
    go_wp2_with fail
    go_roundg (vs.length - (k + 1))
    case measure => omega
    case rel => exact ⟨k + 1, (C ++ [q - p], L ++ [-v], b - p), vC', vL', by omega, by omega, by go_num, ⟨by have h0 := HE.out; rw [if_neg (by omega), if_pos (by omega)] at h0; exact h0⟩, ⟨by have := HS.out; rw [if_neg (by omega), if_pos (by omega)] at this; exact this⟩, ⟨hF3.out.put HP.out⟩⟩
   ·
    -- none is left
    subst h
    have e1 : Lib.compareInt p p = 0 := by unfold Lib.compareInt; rw [if_neg (by omega), if_neg (by omega)]
    have hF3 := Aside0.mk (HF2.out.setLeast (b - p))
    rw [e1] at hcmp
    clear e1
    have hmin1 : (p < p) = False := by simp
    have HF4 := Lib.hid (And.intro hF3.out hf2)
    clear HF2 hHeld
    go_wp2_with fail
    refine (hcmp _).mono ?_
    rintro e w6 ⟨rfl, rfl⟩
    clear hcmp
    go_wp2_with fail
    go_roundg (vs.length - (k + 1))
    case measure => omega
    case rel => exact ⟨k + 1, (C, L, b - p), vC, vL, by omega, by omega, by go_num, ⟨by have h0 := HE.out; rw [if_neg (by omega), if_neg (by omega)] at h0; exact h0⟩, ⟨by have := HS.out; rw [if_neg (by omega), if_neg (by omega)] at this; exact this⟩, hF3⟩
   ·
    -- the positive literal is left
    have e1 : Lib.compareInt p q = 1 := by unfold Lib.compareInt; rw [if_neg (by omega), if_pos (by omega)]
    have hF3 := Aside0.mk (HF2.out.setLeast (b - q))
    have hput := put_calls w2.heap.size vC vL (C.map (Value.int .i64)) (L.map (Value.int .i64)) (b - q) (p - q) v _ w.heap.size hF3.out.putF (by rw [List.length_map]; omega) (by rw [List.length_map]; omega)
    rw [e1] at hcmp
    clear e1
    have hmin1 : (q < p) = True := by simp; omega
    have HF4 := Lib.hid (And.intro hF3.out hf2)
    clear HF2 hHeld
    go_wp2_with fail
    refine (hcmp _).mono ?_
    rintro e w6 ⟨rfl, rfl⟩
    clear hcmp
    go_wp2_with fail
    refine hput.mono ?_
    rintro e w6 ⟨⟨_, rfl⟩, vC', vL', hP⟩
    have HP := Lib.hid hP
    clear hP hput
    go_wp2_with fail
    go_roundg (vs.length - (k + 1))
    case measure => omega
    case rel => exact ⟨k + 1, (C ++ [p - q], L ++ [v], b - q), vC', vL', by omega, by omega, by go_num, ⟨by have h0 := HE.out; rw [if_pos (by omega)] at h0; exact h0⟩, ⟨by have := HS.out; rw [if_pos (by omega)] at this; exact this⟩, ⟨hF3.out.put HP.out⟩⟩
  ·
   have hltz : ¬ (k : Int) < (vs.length : Int) := by omega
   obtain rfl : k = vs.length := by omega
   have hE2 : (C, L, b) = nr := by rw [HE.out, List.take_of_length_le (Nat.le_refl _), ← HV.out.2]
   have HR2 := HR.out
   rw [← hE2] at HR2
   have hbd := NS.bound HS.out
   have hcf := NS.coef HS.out
   have hlC : C.length ≤ 1000 := by have := HS.out.le; have := HL.out; simp only [] at *; omega
   have hlL : C.length = L.length := HS.out.len
   simp only [] at hbd hcf
   clear HE HS hE2 HV HM HR
   have HR := Lib.hid HR2
   have HP := Lib.hid (And.intro hcf (And.intro hlC hlL))
   clear HR2 hcf hlC hlL
   have hb2 : wr.cell? ⟨w2.heap.size, 2, none⟩ = some (.int .i64 b) := (blk_cell HF.out.blk 2).trans rfl
   have hX := Aside0.mk (HF.out.box b)
   have hmB : wr.heap.size ≠ w2.heap.size := by have := blk_lt HF.out.blk; omega
   have hmC : vC.ownBlock ≠ some wr.heap.size := fun e => by have := ownBlock_lt HF.out.ownC _ e; omega
   have HM2 := Lib.hid (And.intro hmB hmC)
   clear HF hmB hmC
   have q0 := (blk_cell hX.out.res 0).trans rfl
   have q1 := (blk_cell hX.out.res 1).trans rfl
   have q2 := (blk_cell hX.out.res 2).trans rfl
   have f0 := blk_frozen hX.out.res 0
   have f1 := blk_frozen hX.out.res 1
   have f2 := blk_frozen hX.out.res 2
   by_cases hle : b ≤ 0
   ·
    have hle' : decide (b ≤ 0) = true := by simpa using hle
    obtain rfl : ([], [], 0) = r := by rw [← HR.out]; simp [ncut, hle]
    go_wp2
    have h3 := blk_set (blk_set (blk_set hX.out.res 0 (.slice none 0 0)) 1 (.slice none 0 0)) 2 (.int .i64 0)
    have hBl := hX.out.below
    generalize World.alloc wr _ = w5 at h3 hBl ⊢
    refine bodyPost_ret (results_cell_row rfl _ _ (w.heap.size + 1) 24 #[.slice none 0 0, .slice none 0 0, .int .i64 0] (0, 0) _ rfl h3 hu24 rfl (by kernel_rfl)) rfl ⟨.slice none 0 0, .slice none 0 0, rfl, own_nil _ _ _ _, own_nil _ _ _ _, fun k hk => by simp [Value.ownBlock] at hk, ?_⟩
    exact ((hBl.setCell (p := ⟨w.heap.size + 1, 0, none⟩) (by simp) _).setCell (p := ⟨w.heap.size + 1, 1, none⟩) (by simp) _).setCell (p := ⟨w.heap.size + 1, 2, none⟩) (by simp) _
   ·
    have hle' : decide (b ≤ 0) = false := by simpa using hle
    have hm9 : (wr.alloc (.cells #[.int .i64 b] 3)).cell? ⟨wr.heap.size, 0, none⟩ = some (.int .i64 b) := (blk_cell (blk_new wr (.cells #[.int .i64 b] 3)) 0).trans rfl
    have hBl : wr.heap.size < (wr.alloc (.cells #[.int .i64 b] 3)).heap.size := by simp
    go_wp2
    have hX0 := Aside0.mk hX.out.drew
    clear hX q0 q1 q2 f0 f1 f2
    have H9 := Lib.hid (show (wr.alloc (.cells #[.int .i64 b] 3)).drew.cell? ⟨wr.heap.size, 0, none⟩ = some (.int .i64 b) from hm9)
    have hBl : wr.heap.size < (wr.alloc (.cells #[.int .i64 b] 3)).drew.heap.size := by simp
    clear hm9
    refine start_ (n := 5) (S := fun w' => w'.cell? ⟨wr.heap.size, 0, none⟩ = some (.int .i64 b)) (ds := [4]) #[false, false, false, false, false] (by kernel_rfl) rfl rfl H9.out (fun hHeld => ?_)
    generalize (World.alloc wr _).drew = w5 at hX0 H9 hBl hHeld ⊢
    obtain ⟨A0, c0, rfl, _, hCC⟩ := Kd.R_reads (Kd.R_of_own (enc := Value.int .i64) (h1 := fun _ => rfl) (ok := fun _ => True) hX0.out.ownC (fun _ _ => trivial))
    obtain ⟨A1, c1, rfl, _, hCL⟩ := Kd.R_reads (Kd.R_of_own (enc := Value.int .i64) (h1 := fun _ => rfl) (ok := fun _ => True) hX0.out.ownL (fun _ _ => trivial))
    have hall := all_calls w2.heap.size A0 c0 C A1 c1 L b _ hX0.out.blk hCC hCL HP.out.2.2 (fun c hc => by have := HP.out.1 c hc; omega) (by have := HP.out.2; omega)
    rw [dot_true C L HP.out.2.2] at hall
    clear hCC hCL
    refine pure_ (i := 0) (N := some 84) (v := ?_) (a' := ?_) (bl 5 1) rfl rfl (by kernel_rfl) (fun _ _ _ h => h) (Or.inl ⟨by rfl, ?_⟩) ?_ ?_; rotate_left; · (intro w'; go_simp; with_reducible rfl)
    rotate_left; · (simp only [Act.put, List.setIfInBounds_toArray, List.set_cons_zero, List.set_cons_succ, i64_w, i32_w]; rfl)
    refine take_ (i := 2) (N := some 86) (v := ?_) (a' := ?_) (bl 5 5) rfl rfl (by kernel_rfl) (fun _ _ _ h => h) (Or.inl ⟨by rfl, ?_⟩) hHeld ?_ ?_
    rotate_left
    ·
     intro w' s0
     go_simp
     with_reducible rfl
    rotate_left
    ·
     simp only [Act.put, List.setIfInBounds_toArray, List.set_cons_zero, List.set_cons_succ, i64_w, i32_w]
     rfl
    refine one_ (i := 1) (N := some 85) (bl 5 7) rfl rfl (by kernel_rfl) (by decide) (fun K hK => ?_)
    refine call_ 49 #[.pointer (some ⟨w2.heap.size, 0, none⟩)] (by rfl) rfl (by simp [execOp, resolve, Deferred.ofValue, invoke, Act.eval, enters_of Try.func49 (by kernel_rfl) rfl]) ?_
    refine hall.mono ?_
    rintro e w6 ⟨rfl, hb6⟩
    refine ⟨_, rfl, hK.out _ _ (by first | exact (hb6.cell (by simpa using hBl)).trans H9.out) (fun hHeld => ?_)⟩
    clear hK K hall
    refine norm_ (a' := ?_) ?_ ?_
    rotate_left
    ·
     show Act.put _ (some 85) _ = _
     simp only [Act.put, List.setIfInBounds_toArray, List.set_cons_zero, List.set_cons_succ, i64_w, i32_w]
     rfl
    refine pure_ (i := 3) (N := some 87) (v := ?_) (a' := ?_) (bl 5 15) rfl rfl (by kernel_rfl) (fun _ _ _ h => h) (Or.inl ⟨by rfl, ?_⟩) ?_ ?_; rotate_left; · (intro w'; go_simp; with_reducible rfl)
    rotate_left; · (simp only [Act.put, List.setIfInBounds_toArray, List.set_cons_zero, List.set_cons_succ, i64_w, i32_w]; rfl)
    refine pure_ (i := 4) (N := some 83) (v := ?_) (a' := ?_) (bl 5 31) rfl rfl (by kernel_rfl) (fun _ _ _ h => h) (Or.inl ⟨by rfl, ?_⟩) ?_ ?_; rotate_left; · (intro w'; go_simp; with_reducible rfl)
    rotate_left; · (simp only [Act.put, List.setIfInBounds_toArray, List.set_cons_zero, List.set_cons_succ, i64_w, i32_w]; rfl)
    refine done_ (by kernel_rfl) ?_
    have hX1 := Aside0.mk (hX0.out.keepF (fun k hk => hb6.block k hk) (hX0.out.below.trans (hb6.mono hX0.out.size)) hb6.size)
    clear hX0 hb6 H9
    have q0 := (blk_cell hX1.out.res 0).trans rfl
    have q1 := (blk_cell hX1.out.res 1).trans rfl
    have q2 := (blk_cell hX1.out.res 2).trans rfl
    have f0 := blk_frozen hX1.out.res 0
    have f1 := blk_frozen hX1.out.res 1
    have f2 := blk_frozen hX1.out.res 2
    by_cases hs : sumL C < b
    ·
     have hs' : decide (sumL C < b) = true := by simpa using hs
     obtain rfl : ([], [], 1) = r := by rw [← HR.out]; simp only [ncut]; rw [if_neg (by omega), if_pos hs]
     generalize sumL C = sc at hs hs'
     go_wp2
     have h3 := blk_set (blk_set (blk_set hX1.out.res 0 (.slice none 0 0)) 1 (.slice none 0 0)) 2 (.int .i64 1)
     have hBl := hX1.out.below
     refine bodyPost_ret (results_cell_row rfl _ _ (w.heap.size + 1) 24 #[.slice none 0 0, .slice none 0 0, .int .i64 1] (0, 0) _ rfl h3 hu24 rfl (by kernel_rfl)) rfl ⟨.slice none 0 0, .slice none 0 0, rfl, own_nil _ _ _ _, own_nil _ _ _ _, fun k hk => by simp [Value.ownBlock] at hk, ?_⟩
     exact ((hBl.setCell (p := ⟨w.heap.size + 1, 0, none⟩) (by simp) _).setCell (p := ⟨w.heap.size + 1, 1, none⟩) (by simp) _).setCell (p := ⟨w.heap.size + 1, 2, none⟩) (by simp) _
    ·
     have hs' : decide (sumL C < b) = false := by simpa using hs
     obtain rfl : (C.map (fun c => min c b), L, b) = r := by rw [← HR.out]; simp only [ncut]; rw [if_neg (by omega), if_neg hs]
     generalize sumL C = sc at hs hs'
     have hlL := HP.out.2
     have heach := each_calls w2.heap.size 50 wr.heap.size b _ _ C (L.map (Value.int .i64)) b (fun x => min x b) w6 w.heap.size ⟨hX1.out.blk, hX1.out.ownC, by rw [List.length_map]; exact hX1.out.ownL, hX1.out.ne, Below.refl _ _, hX1.out.size, hX1.out.baseBo, Nat.le_refl _, fun _ _ _ _ => rfl⟩ (by omega) hHeld HM2.out.1 HM2.out.2 (enters_of Try.func50 (by kernel_rfl) rfl) (fun W x hW _ => norm2_calls x b W hW)
     have HE := Lib.hid hlL
     clear hlL q0 q1 q2 f0 f1 f2
     go_wp2_with fail
     refine heach.mono ?_
     rintro e w7 ⟨⟨_, rfl⟩, h7⟩
     clear heach
     simp only [Int.min_self] at h7
     have hres : w7.heap[w.heap.size + 1]? = some (.cells #[.slice none 0 0, .slice none 0 0, .int .i64 0] 24 (0, 0)) := by
      refine (h7.frame (w.heap.size + 1) (blk_lt hX1.out.res) (fun e => ?_) (fun e => ?_)).trans hX1.out.res
      ·
       have h1 := hX1.out.res; rw [e, hX1.out.blk] at h1; simp at h1
      ·
       obtain ⟨cells, hc⟩ := own_typed hX1.out.ownC _ e; have h1 := hX1.out.res; rw [hc] at h1; simp at h1
     have H7 := Aside0.mk (And.intro h7 (And.intro hres (hX1.out.below.trans h7.below)))
     have q0 := (blk_cell h7.blk 0).trans rfl
     have q1 := (blk_cell h7.blk 1).trans rfl
     have q2 := (blk_cell h7.blk 2).trans rfl
     have r0 := (blk_cell hres 0).trans rfl
     have r1 := (blk_cell hres 1).trans rfl
     have r2 := (blk_cell hres 2).trans rfl
     have g0 := blk_frozen hres 0
     have g1 := blk_frozen hres 1
     have g2 := blk_frozen hres 2
     clear h7 hres hX1 HM2 hHeld
     go_wp2
     have h3 := blk_set (blk_set (blk_set H7.out.2.1 0 (.slice A0 C.length c0)) 1 (.slice A1 L.length c1)) 2 (.int .i64 b)
     have hne : ∀ k, (Value.slice A0 C.length c0).ownBlock = some k → (Value.slice A1 L.length c1).ownBlock ≠ some k := H7.out.1.ne
     have hn : ∀ {v : Value} {xs : List Value} {n : Nat}, w7.ownsRow w.heap.size 3 1 v n xs → ∀ k, v.ownBlock = some k → (((w7.setCell ⟨w.heap.size + 1, 0, none⟩ (.slice A0 C.length c0)).setCell ⟨w.heap.size + 1, 1, none⟩ (.slice A1 L.length c1)).setCell ⟨w.heap.size + 1, 2, none⟩ (.int .i64 b)).heap[k]? = w7.heap[k]? := fun h k hk => by
      have hkn : k ≠ w.heap.size + 1 := fun e => by obtain ⟨cells, hc⟩ := own_typed h k hk; rw [e, H7.out.2.1] at hc; simp at hc
      exact ((Below.heap_setCell _ ⟨w.heap.size + 1, 2, none⟩ _ k hkn).trans (Below.heap_setCell _ ⟨w.heap.size + 1, 1, none⟩ _ k hkn)).trans (Below.heap_setCell _ ⟨w.heap.size + 1, 0, none⟩ _ k hkn)
     have hBl := H7.out.2.2
     refine bodyPost_ret (results_cell_row rfl _ _ (w.heap.size + 1) 24 #[.slice A0 C.length c0, .slice A1 L.length c1, .int .i64 b] (0, 0) _ rfl h3 hu24 rfl (by kernel_rfl)) rfl ⟨.slice A0 C.length c0, .slice A1 L.length c1, rfl, ?_, ?_, hne, ?_⟩
     ·
      simpa only [List.length_map, List.map_map] using own_move H7.out.1.ownC (hn H7.out.1.ownC)
     ·
      simpa only [List.length_map, List.map_map] using own_move H7.out.1.ownL (hn H7.out.1.ownL)
     ·
      exact ((hBl.setCell (p := ⟨w.heap.size + 1, 0, none⟩) (by simp) _).setCell (p := ⟨w.heap.size + 1, 1, none⟩) (by simp) _).setCell (p := ⟨w.heap.size + 1, 2, none⟩) (by simp) _

end Go.Proofs.Ytmcljhjmmipagaa.PL
