/- (*lin.build).each applies a function of numbers to each coefficient and to the bound of the struct behind the pointer; the conditions stand in each statement. -/
import Derived.Test.YtmcljhjmmipagaaPutG
import Derived.Test.YtmcljhjmmipagaaValueG
namespace Go.Proofs.Ytmcljhjmmipagaa.PL
open Go.RowKit Go.Proofs.YtmcljhjmmipagaaW.PrintWords Go.Proofs.YtmcljhjmmipagaaW.PrintLast Go.Proofs.YtmcljhjmmipagaaW.PrintMore
set_option linter.unusedVariables false
set_option linter.unusedSimpArgs false

/-- The struct's block and its two rows, the coefficients as numbers; below base all is as it was in w. -/
structure EachF (w : World) (base Bo : Nat) (vC vL : Value) (W : World) (least : Int) (Cs : List Int) (Ls : List Value) : Prop where
 blk : W.heap[Bo]? = some (.cells #[vC, vL, .int .i64 least] 52 (0, 0))
 ownC : W.ownsRow base 3 1 vC Cs.length (Cs.map (Value.int .i64))
 ownL : W.ownsRow base 3 1 vL Ls.length Ls
 ne : ∀ k, vC.ownBlock = some k → vL.ownBlock ≠ some k
 below : Below base w W
 size : base ≤ W.heap.size
 baseBo : base ≤ Bo
 big : w.heap.size ≤ W.heap.size
 frame : ∀ k, k < w.heap.size → k ≠ Bo → vC.ownBlock ≠ some k → W.heap[k]? = w.heap[k]?

namespace EachF
variable {w : World} {base Bo : Nat} {vC vL : Value} {W : World} {least : Int} {Cs : List Int} {Ls : List Value}
theorem held (h : EachF w base Bo vC vL W least Cs Ls) : W.cell? ⟨Bo, 0, none⟩ = some vC := (blk_cell h.blk 0).trans rfl
theorem move {W1 : World} (h : EachF w base Bo vC vL W least Cs Ls) (hm : W1.heap = W.heap) (hb : Below base w W1) : EachF w base Bo vC vL W1 least Cs Ls where
 blk := hm ▸ h.blk
 ownC := own_move h.ownC (fun k hk => by rw [hm])
 ownL := own_move h.ownL (fun k hk => by rw [hm])
 ne := h.ne
 below := hb
 size := hm ▸ h.size
 baseBo := h.baseBo
 big := hm ▸ h.big
 frame := fun k a b c => by rw [hm]; exact h.frame k a b c
theorem drewN (h : EachF w base Bo vC vL W least Cs Ls) (q : Nat) : EachF w base Bo vC vL (W.drewN q) least Cs Ls := h.move rfl ⟨h.below.os, h.below.tape, h.below.output, h.below.size, h.below.block⟩
theorem setLeast (h : EachF w base Bo vC vL W least Cs Ls) (n : Int) : EachF w base Bo vC vL (W.setCell ⟨Bo, 2, none⟩ (.int .i64 n)) n Cs Ls where
 blk := blk_set h.blk 2 _
 ownC := own_move h.ownC (fun k hk => Below.heap_setCell W ⟨Bo, 2, none⟩ _ k (ne_blk h.ownC h.blk k hk))
 ownL := own_move h.ownL (fun k hk => Below.heap_setCell W ⟨Bo, 2, none⟩ _ k (ne_blk h.ownL h.blk k hk))
 ne := h.ne
 below := h.below.setCell (p := ⟨Bo, 2, none⟩) h.baseBo _
 size := by simpa using h.size
 baseBo := h.baseBo
 big := by simpa using h.big
 frame := fun k a b c => (Below.heap_setCell W ⟨Bo, 2, none⟩ _ k b).trans (h.frame k a b c)
theorem store {g cap : Nat} (h : EachF w base Bo (.slice (some ⟨g, 0, none⟩) Cs.length cap) vL W least Cs Ls) (j : Nat) (n : Int) : EachF w base Bo (.slice (some ⟨g, 0, none⟩) Cs.length cap) vL (W.setCell ⟨g, j, none⟩ (.int .i64 n)) least (Cs.set j n) Ls where
 blk := (Below.heap_setCell W ⟨g, j, none⟩ _ Bo (fun e => ne_blk h.ownC h.blk Bo (by rw [e]; simp [Value.ownBlock]) rfl)).trans h.blk
 ownC := by
  have := (h.ownC.stored j (.int .i64 n)).1
  rw [List.map_set, List.length_set]
  exact this
 ownL := own_move h.ownL (fun k hk => Below.heap_setCell W ⟨g, j, none⟩ _ k (fun e => h.ne g (by simp [Value.ownBlock]) (by rw [hk, e])))
 ne := h.ne
 below := h.below.setCell (p := ⟨g, j, none⟩) (own_base h.ownC g (by simp [Value.ownBlock])) _
 size := by simpa using h.size
 baseBo := h.baseBo
 big := by simpa using h.big
 frame := fun k a b c => (Below.heap_setCell W ⟨g, j, none⟩ _ k (fun e => c (by rw [e]; simp [Value.ownBlock]))).trans (h.frame k a b c)
end EachF

/-- The row behind k rounds. -/
def cur (f : Int → Int) (Cs : List Int) (k : Nat) : List Int := (Cs.take k).map f ++ Cs.drop k
theorem cur_length (f : Int → Int) (Cs : List Int) (k : Nat) : (cur f Cs k).length = Cs.length := by unfold cur; simp; omega
theorem cur_get (f : Int → Int) {Cs : List Int} {k : Nat} (h : k < Cs.length) : (cur f Cs k)[k]? = some (rd Cs (k : Int)) := by
 unfold cur
 rw [List.getElem?_append_right (by simp; omega)]
 simp [rd, h, Nat.min_eq_left (Nat.le_of_lt h)]
theorem cur_set (f : Int → Int) {Cs : List Int} {k : Nat} (h : k < Cs.length) : (cur f Cs k).set k (f (rd Cs (k : Int))) = cur f Cs (k + 1) := by
 unfold cur
 rw [List.set_append_right (h := by simp; omega), take_rd h, drop_rd h]
 simp [Nat.min_eq_left (Nat.le_of_lt h)]

/-- A row's first cell's address is its block's head. -/
theorem add_mk (g k : Nat) : (⟨g, 0, none⟩ : Addr).add k = ⟨g, k, none⟩ := by unfold Addr.add; split <;> simp_all

set_option maxRecDepth 100000 in
set_option maxHeartbeats 8000000 in
theorem each_calls (Bo g Bm : Nat) (x0 : Int) (vC vL : Value) (Cs : List Int) (Ls : List Value) (least : Int) (f : Int → Int) (w : World) (base : Nat) (h : EachF w base Bo vC vL w least Cs Ls) (hlC : Cs.length ≤ 1000000)
  (hm : w.cell? ⟨Bm, 0, none⟩ = some (.int .i64 x0)) (hmB : Bm ≠ Bo) (hmC : vC.ownBlock ≠ some Bm) (eg : ∀ args w, (callFunc g args).run Try.prog w = .ok (.enter g args) w)
  (hf : ∀ (W : World) (x : Int), W.cell? ⟨Bm, 0, none⟩ = some (.int .i64 x0) → x ∈ Cs ∨ x = least → Calls Try.prog g #[.int .i64 x, .pointer (some ⟨Bm, 0, none⟩)] W fun e W' => e = .returned (.int .i64 (f x)) ∧ ∃ q, W' = W.drewN q) :
  Calls Try.prog 39 #[.pointer (some ⟨Bo, 0, none⟩), .func (.func g) #[] #[.pointer (some ⟨Bm, 0, none⟩)]] w fun e w' => (∃ v, e = .returned v) ∧ EachF w base Bo vC vL w' (f least) (Cs.map f) Ls := by
 have hu24 := Try.underlying24
 have hu52 := Try.underlying52
 have hu22 := Try.underlying22
 have hu50 := Try.underlying50
 have hBmlt := World.block_lt_of_cell? w _ hm
 have hcellm : ∀ (W : World) (l : Int) (C' : List Int), EachF w base Bo vC vL W l C' Ls → W.cell? ⟨Bm, 0, none⟩ = some (.int .i64 x0) := fun W l C' hh => (World.cell?_of_block (a := ⟨Bm, 0, none⟩) (hh.frame Bm hBmlt hmB hmC)).trans hm
 obtain ⟨A, cap, rfl⟩ : ∃ A cap, vC = .slice A Cs.length cap := by
  rcases h.ownC.2 with ⟨hv, h0⟩ | ⟨gg, cap, c2, hv, _⟩
  ·
   exact ⟨none, 0, by rw [hv, h0]⟩
  ·
   exact ⟨_, cap, hv⟩
 have HM := Lib.hid hcellm
 have HF := Lib.hid hf
 clear hf hm hcellm hmB hmC hBmlt
 have hq0 := h.held
 have H0 := Aside0.mk h
 clear h
 go_enter Try.func39, Try.ntmps39
 go_wp2
 go_loopg [4, 5, 12] Cs.length (fun gg _ _ v12 W => ∃ k : Nat, k ≤ Cs.length ∧ Cs.length - k ≤ gg ∧ v12 = .int .i64 k ∧ Aside0 (EachF w base Bo (.slice A Cs.length cap) vL W least (cur f Cs k) Ls))
 case atStart => exact ⟨0, Nat.zero_le _, by omega, rfl, by simpa [cur] using H0⟩
 case round =>
  obtain ⟨k, hk, hg, rfl, HA⟩ := hrel
  by_cases hlt : k < Cs.length
  ·
   have hltz : (k : Int) < (Cs.length : Int) := by omega
   have hlc := cur_length f Cs k
   obtain ⟨g0, cap0, hform, _⟩ := HA.out.ownC.form (by omega)
   simp only [Value.slice.injEq] at hform
   obtain ⟨rfl, hj1, hj2⟩ := hform
   clear hj1 hj2
   have HA2 : Aside0 (EachF w base Bo (.slice (some ⟨g0, 0, none⟩) (cur f Cs k).length cap) vL wr least (cur f Cs k) Ls) := by rw [hlc]; exact HA
   have hx := (HA2.out.ownC.cellAt k (by omega)).trans (by rw [List.getElem?_map, cur_get f hlt])
   have hfr := HA2.out.ownC.frozenAt k
   have hcall := fun W hW => HF.out W (rd Cs (k : Int)) hW (.inl (rd_mem hlt))
   have hst := Lib.hid (fun (W : World) (hW : EachF w base Bo (.slice (some ⟨g0, 0, none⟩) (cur f Cs k).length cap) vL W least (cur f Cs k) Ls) => (cur_set f hlt) ▸ hW.store k (f (rd Cs (k : Int))))
   generalize rd Cs (k : Int) = x at hx hcall hst
   have HC := Lib.hid hcall
   clear hcall
   have HL := Lib.hid hlc
   clear hlc
   go_wp2
   have hS : wr.drew.cell? ⟨Bo, 0, none⟩ = some (.slice (some ⟨g0, 0, none⟩) Cs.length cap) := HA.out.held
   have hD := Aside0.mk (show EachF w base Bo (.slice (some ⟨g0, 0, none⟩) (cur f Cs k).length cap) vL wr.drew least (cur f Cs k) Ls from HA2.out.drewN 1)
   clear HA HA2 hfr
   refine start_ (n := 11) (S := fun w' => w'.cell? ⟨Bo, 0, none⟩ = some (.slice (some ⟨g0, 0, none⟩) Cs.length cap)) (ds := [10]) #[false, false, false, false, false, false, false, false, false, false, false] (by kernel_rfl) rfl rfl hS (fun hHeld => ?_)
   generalize wr.drew = w1 at hD hHeld ⊢
   clear hS
   refine pure_ (i := 0) (N := some 17) (v := ?_) (a' := ?_) (bl 11 1) rfl rfl (by kernel_rfl) (fun _ _ _ h => h) (Or.inl ⟨by rfl, ?_⟩) ?_ ?_; rotate_left; · (intro w'; go_simp; with_reducible rfl)
   rotate_left; · (simp only [Act.put, List.setIfInBounds_toArray, List.set_cons_zero, List.set_cons_succ, i64_w, i32_w]; rfl)
   refine pure_ (i := 1) (N := some 18) (v := ?_) (a' := ?_) (bl 11 3) rfl rfl (by kernel_rfl) (fun _ _ _ h => h) (Or.inl ⟨by rfl, ?_⟩) ?_ ?_; rotate_left; · (intro w'; go_simp; with_reducible rfl)
   rotate_left; · (simp only [Act.put, List.setIfInBounds_toArray, List.set_cons_zero, List.set_cons_succ, i64_w, i32_w]; rfl)
   refine pure_ (i := 2) (N := some 19) (v := ?_) (a' := ?_) (bl 11 7) rfl rfl (by kernel_rfl) (fun _ _ _ h => h) (Or.inl ⟨by rfl, ?_⟩) ?_ ?_; rotate_left; · (intro w'; go_simp; with_reducible rfl)
   rotate_left; · (simp only [Act.put, List.setIfInBounds_toArray, List.set_cons_zero, List.set_cons_succ, i64_w, i32_w]; rfl)
   refine pure_ (i := 3) (N := some 20) (v := ?_) (a' := ?_) (bl 11 15) rfl rfl (by kernel_rfl) (fun _ _ _ h => h) (Or.inl ⟨by rfl, ?_⟩) ?_ ?_; rotate_left; · (intro w'; go_simp; with_reducible rfl)
   rotate_left; · (simp only [Act.put, List.setIfInBounds_toArray, List.set_cons_zero, List.set_cons_succ, i64_w, i32_w]; rfl)
   refine pure_ (i := 5) (N := some 22) (v := ?_) (a' := ?_) (bl 11 47) rfl rfl (by kernel_rfl) (fun _ _ _ h => h) (Or.inl ⟨by rfl, ?_⟩) ?_ ?_; rotate_left; · (intro w'; go_simp; with_reducible rfl)
   rotate_left; · (simp only [Act.put, List.setIfInBounds_toArray, List.set_cons_zero, List.set_cons_succ, i64_w, i32_w]; rfl)
   refine pure_ (i := 6) (N := some 23) (v := ?_) (a' := ?_) (bl 11 111) rfl rfl (by kernel_rfl) (fun _ _ _ h => h) (Or.inl ⟨by rfl, ?_⟩) ?_ ?_; rotate_left; · (intro w'; go_simp; with_reducible rfl)
   rotate_left; · (simp only [Act.put, List.setIfInBounds_toArray, List.set_cons_zero, List.set_cons_succ, i64_w, i32_w]; rfl)
   refine pure_ (i := 7) (N := some 24) (v := ?_) (a' := ?_) (bl 11 239) rfl rfl (by kernel_rfl) (fun _ _ _ h => h) (Or.inl ⟨by rfl, ?_⟩) ?_ ?_; rotate_left; · (intro w'; go_simp; with_reducible rfl)
   rotate_left; · (simp only [Act.put, List.setIfInBounds_toArray, List.set_cons_zero, List.set_cons_succ, i64_w, i32_w]; rfl)
   refine take_ (i := 4) (N := some 21) (v := ?_) (a' := ?_) (bl 11 255) rfl rfl (by kernel_rfl) (fun _ _ _ h => h) (Or.inl ⟨by rfl, ?_⟩) hHeld ?_ ?_; rotate_left; · (rintro w' s0; go_simp; with_reducible rfl)
   rotate_left; · (simp only [Act.put, List.setIfInBounds_toArray, List.set_cons_zero, List.set_cons_succ, i64_w, i32_w]; rfl)
   refine one_ (i := 8) (N := some 25) (bl 11 511) rfl rfl (by kernel_rfl) (by decide) (fun K hK => ?_)
   refine call_ g #[.int .i64 x, .pointer (some ⟨Bm, 0, none⟩)] (by rfl) rfl (by simp [execOp, resolve, Deferred.ofValue, invoke, Act.eval, eg]) ?_
   refine (HC.out _ (HM.out _ _ _ (by rw [← HL.out]; exact hD.out))).mono ?_
   rintro e w2 ⟨rfl, q, rfl⟩
   refine ⟨_, rfl, hK.out _ _ hHeld (fun hHeld => ?_)⟩
   have hD2 := Aside0.mk (hD.out.drewN q)
   clear hK K hD
   refine norm_ (a' := ?_) ?_ ?_
   rotate_left
   ·
    show Act.put _ (some 25) _ = _
    simp only [Act.put, List.setIfInBounds_toArray, List.set_cons_zero, List.set_cons_succ, i64_w, i32_w]
    rfl
   refine pure_ (i := 9) (N := some 26) (v := ?_) (a' := ?_) (bl 11 1023) rfl rfl (by kernel_rfl) (fun _ _ _ h => h) (Or.inl ⟨by rfl, ?_⟩) ?_ ?_; rotate_left; · (intro w'; go_simp; with_reducible rfl)
   rotate_left; · (simp only [Act.put, List.setIfInBounds_toArray, List.set_cons_zero, List.set_cons_succ, i64_w, i32_w]; rfl)
   refine last_ (i := 10) (N := none) (bl 11 2047) rfl rfl (by kernel_rfl) (by decide) (fun K hK => ?_)
   have hx2 := (hD2.out.ownC.cellAt k (by rw [HL.out]; omega)).trans (by rw [List.getElem?_map, cur_get f hlt])
   have hfr2 := hD2.out.ownC.frozenAt k
   generalize w1.drewN q = w3 at hD2 hHeld hx2 hfr2 ⊢
   refine skip_ (w1 := ?_) (by rfl) rfl ?_ ?_
   rotate_left
   ·
    go_simp
    rfl
   refine hK.out _ _ ?_
   clear hK K
   have hE := Aside0.mk (hst.out _ hD2.out)
   clear hD2 hHeld hx2 hfr2 hst
   refine done_ (by kernel_rfl) ?_
   generalize World.setCell _ _ _ = w4 at hE ⊢
   go_wp2
   go_roundg (Cs.length - (k + 1))
   case measure => omega
   case rel => exact ⟨k + 1, by omega, by omega, by go_num, by rw [HL.out] at hE; exact hE⟩
  ·
   have hltz : ¬ (k : Int) < (Cs.length : Int) := by omega
   obtain rfl : k = Cs.length := by omega
   have hE : EachF w base Bo (.slice A Cs.length cap) vL wr least (Cs.map f) Ls := by have := HA.out; simpa [cur] using this
   have hb2 : wr.cell? ⟨Bo, 2, none⟩ = some (.int .i64 least) := (blk_cell hE.blk 2).trans rfl
   have hf2 := blk_frozen hE.blk 2
   have hcall := HF.out wr least (HM.out _ _ _ hE) (.inr rfl)
   have HE := Aside0.mk hE
   clear hE HA
   go_wp2_with (go_at_fn g; refine hcall.mono ?_; rintro e w' ⟨rfl, q, rfl⟩)
   go_end0
   exact ⟨⟨_, rfl⟩, (HE.out.drewN q).setLeast (f least)⟩

end Go.Proofs.Ytmcljhjmmipagaa.PL
