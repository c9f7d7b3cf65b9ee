/- (*lin.build).put appends a coefficient and a literal to the two rows of the struct behind the pointer; the conditions stand in the statement. -/
import Derived.Test.YtmcljhjmmipagaaPLx0
import Derived.Lib.Hide
import Derived.Deep.AppendLies
namespace Go.Proofs.Ytmcljhjmmipagaa.PL
open Go.RowKit Go.Proofs.YtmcljhjmmipagaaW.PrintWords Go.Proofs.YtmcljhjmmipagaaW.PrintLast Go.Proofs.YtmcljhjmmipagaaW.PrintMore
set_option linter.unusedVariables false
set_option linter.unusedSimpArgs false

/-- The struct's block, its two rows, and what else has stayed. -/
structure PutF (w : World) (base Bo : Nat) (vC0 vL0 : Value) (least : Int) (W : World) (c0 c1 vC vL : Value) (Cs Ls : List Value) : Prop where
 blk : W.heap[Bo]? = some (.cells #[c0, c1, .int .i64 least] 52 (0, 0))
 ownC : W.ownsRow base 3 1 vC Cs.length Cs
 ownL : W.ownsRow base 3 1 vL Ls.length Ls
 ne : ∀ k, vC.ownBlock = some k → vL.ownBlock ≠ some k
 oldC : ∀ k, vC.ownBlock = some k → vC0.ownBlock = some k ∨ w.heap.size ≤ k
 oldL : ∀ k, vL.ownBlock = some k → vL0.ownBlock = some k ∨ w.heap.size ≤ k
 below : Below base w W
 big : w.heap.size ≤ W.heap.size
 size : base ≤ W.heap.size
 baseBo : base ≤ Bo
 frame : ∀ k, k < w.heap.size → k ≠ Bo → vC0.ownBlock ≠ some k → vL0.ownBlock ≠ some k → W.heap[k]? = w.heap[k]?

theorem ownBlock_lt {W : World} {base : Nat} {e : TypeId} {n : Nat} {v : Value} {xs : List Value} (h : W.ownsRow base e 1 v n xs) (k : Nat) (hk : v.ownBlock = some k) : k < W.heap.size := by
 obtain ⟨cells, hc⟩ := own_typed h k hk
 exact blk_lt hc

theorem ne_blk {W : World} {base Bo : Nat} {n : Nat} {v : Value} {xs : List Value} {cs : Array Value} (h : W.ownsRow base 3 1 v n xs) (hb : W.heap[Bo]? = some (.cells cs 52 (0, 0))) (k : Nat) (hk : v.ownBlock = some k) : k ≠ Bo := by
 rintro rfl
 obtain ⟨cells, hc⟩ := own_typed h k hk
 rw [hc] at hb
 injection hb with hb
 injection hb with _ hb
 exact absurd hb (by decide)

theorem blk_new (w : World) (o : Obj) : (w.alloc o).heap[w.heap.size]? = some o := (MapKept.heap_alloc w o).1

namespace PutF
variable {w : World} {base Bo : Nat} {vC0 vL0 : Value} {least : Int} {W : World} {c0 c1 vC vL : Value} {Cs Ls : List Value}
theorem held (h : PutF w base Bo vC0 vL0 least W c0 c1 vC vL Cs Ls) : W.cell? ⟨Bo, 0, none⟩ = some c0 ∧ W.cell? ⟨Bo, 1, none⟩ = some c1 := ⟨(blk_cell h.blk 0).trans rfl, (blk_cell h.blk 1).trans rfl⟩
theorem move {W1 : World} (h : PutF w base Bo vC0 vL0 least W c0 c1 vC vL Cs Ls) (hm : ∀ k, k < W.heap.size → W1.heap[k]? = W.heap[k]?) (hs : W.heap.size ≤ W1.heap.size) (hb : Below base w W1) : PutF w base Bo vC0 vL0 least W1 c0 c1 vC vL Cs Ls where
 blk := (hm Bo (blk_lt h.blk)).trans h.blk
 ownC := own_move h.ownC (fun k hk => hm k (ownBlock_lt h.ownC k hk))
 ownL := own_move h.ownL (fun k hk => hm k (ownBlock_lt h.ownL k hk))
 ne := h.ne
 oldC := h.oldC
 oldL := h.oldL
 below := hb
 big := Nat.le_trans h.big hs
 size := Nat.le_trans h.size hs
 baseBo := h.baseBo
 frame := fun k a b c d => (hm k (Nat.lt_of_lt_of_le a h.big)).trans (h.frame k a b c d)
theorem alloc (h : PutF w base Bo vC0 vL0 least W c0 c1 vC vL Cs Ls) (o : Obj) : PutF w base Bo vC0 vL0 least (W.alloc o) c0 c1 vC vL Cs Ls :=
 h.move (fun k hk => Below.heap_alloc W o k hk) (by simp) (h.below.alloc h.size o)
theorem drew (h : PutF w base Bo vC0 vL0 least W c0 c1 vC vL Cs Ls) : PutF w base Bo vC0 vL0 least W.drew c0 c1 vC vL Cs Ls :=
 h.move (fun k hk => rfl) (Nat.le_refl _) h.below.drew
theorem far_C {W1 : World} {B : Nat} {cs : Array Value} (h : PutF w base Bo vC0 vL0 least W c0 c1 vC vL Cs Ls) (hb : W.heap[B]? = some (.cells cs 3 (0, 0))) (hg : W.grownBy W1 vC.ownBlock) (hne : vC.ownBlock ≠ some B) : W1.heap[B]? = some (.cells cs 3 (0, 0)) := (hg.block B (blk_lt hb) (Ne.symm hne)).trans hb
theorem appC {W1 : World} {g cap : Nat} {x : Value} (h : PutF w base Bo vC0 vL0 least W c0 c1 vC0 vL Cs Ls) (hown : W1.ownsRow base 3 1 (.slice (some ⟨g, 0, none⟩) (Cs.length + 1) cap) (Cs.length + 1) (Cs ++ [x])) (hg : W.grownBy W1 vC0.ownBlock) (hat : vC0.ownBlock = some g ∨ g = W.heap.size) :
  PutF w base Bo vC0 vL0 least W1 c0 c1 (.slice (some ⟨g, 0, none⟩) (Cs.length + 1) cap) vL (Cs ++ [x]) Ls where
 blk := (hg.block Bo (blk_lt h.blk) (fun e => ne_blk h.ownC h.blk Bo e.symm rfl)).trans h.blk
 ownC := by rw [List.length_append]; exact hown
 ownL := own_move h.ownL (fun k hk => hg.block k (ownBlock_lt h.ownL k hk) (fun e => h.ne k e.symm hk))
 ne := fun k hk hl => by
  have hk : g = k := by simpa [Value.ownBlock] using hk
  subst hk
  rcases hat with e | e
  ·
   exact h.ne g e hl
  ·
   have := ownBlock_lt h.ownL g hl; omega
 oldC := fun k hk => by
  have hk : g = k := by simpa [Value.ownBlock] using hk
  subst hk
  rcases hat with e | e
  ·
   exact .inl e
  ·
   right; have := h.big; omega
 oldL := h.oldL
 below := h.below.grown hg h.size (fun k hk => own_base h.ownC k hk)
 big := Nat.le_trans h.big hg.size
 size := Nat.le_trans h.size hg.size
 baseBo := h.baseBo
 frame := fun k a b c d => (hg.block k (Nat.lt_of_lt_of_le a h.big) (Ne.symm c)).trans (h.frame k a b c d)
theorem appL {W1 : World} {g cap : Nat} {x : Value} (h : PutF w base Bo vC0 vL0 least W c0 c1 vC vL0 Cs Ls) (hown : W1.ownsRow base 3 1 (.slice (some ⟨g, 0, none⟩) (Ls.length + 1) cap) (Ls.length + 1) (Ls ++ [x])) (hg : W.grownBy W1 vL0.ownBlock) (hat : vL0.ownBlock = some g ∨ g = W.heap.size) :
  PutF w base Bo vC0 vL0 least W1 c0 c1 vC (.slice (some ⟨g, 0, none⟩) (Ls.length + 1) cap) Cs (Ls ++ [x]) where
 blk := (hg.block Bo (blk_lt h.blk) (fun e => ne_blk h.ownL h.blk Bo e.symm rfl)).trans h.blk
 ownL := by rw [List.length_append]; exact hown
 ownC := own_move h.ownC (fun k hk => hg.block k (ownBlock_lt h.ownC k hk) (fun e => h.ne k hk e.symm))
 ne := fun k hk hl => by
  have hl : g = k := by simpa [Value.ownBlock] using hl
  subst hl
  rcases hat with e | e
  ·
   exact h.ne g hk e
  ·
   have := ownBlock_lt h.ownC g hk; omega
 oldL := fun k hk => by
  have hk : g = k := by simpa [Value.ownBlock] using hk
  subst hk
  rcases hat with e | e
  ·
   exact .inl e
  ·
   right; have := h.big; omega
 oldC := h.oldC
 below := h.below.grown hg h.size (fun k hk => own_base h.ownL k hk)
 big := Nat.le_trans h.big hg.size
 size := Nat.le_trans h.size hg.size
 baseBo := h.baseBo
 frame := fun k a b c d => (hg.block k (Nat.lt_of_lt_of_le a h.big) (Ne.symm d)).trans (h.frame k a b c d)
theorem setW (h : PutF w base Bo vC0 vL0 least W c0 c1 vC vL Cs Ls) (j : Nat) (u : Value) {d0 d1 : Value} (hj : (#[c0, c1, Value.int .i64 least] : Array Value).setIfInBounds j u = #[d0, d1, .int .i64 least]) : PutF w base Bo vC0 vL0 least (W.setCell ⟨Bo, j, none⟩ u) d0 d1 vC vL Cs Ls where
 blk := by rw [← hj]; exact blk_set h.blk j u
 ownC := own_move h.ownC (fun k hk => Below.heap_setCell W ⟨Bo, j, none⟩ u k (ne_blk h.ownC h.blk k hk))
 ownL := own_move h.ownL (fun k hk => Below.heap_setCell W ⟨Bo, j, none⟩ u k (ne_blk h.ownL h.blk k hk))
 ne := h.ne
 oldC := h.oldC
 oldL := h.oldL
 below := h.below.setCell (p := ⟨Bo, j, none⟩) h.baseBo u
 big := by simpa using h.big
 size := by simpa using h.size
 baseBo := h.baseBo
 frame := fun k a b c d => (Below.heap_setCell W ⟨Bo, j, none⟩ u k b).trans (h.frame k a b c d)
end PutF
set_option maxRecDepth 100000 in
set_option maxHeartbeats 8000000 in
theorem put_calls (Bo : Nat) (vC vL : Value) (C L : List Value) (least c lit : Int) (w : World) (base : Nat) (h : PutF w base Bo vC vL least w vC vL vC vL C L) (hlC : C.length ≤ 1000000) (hlL : L.length ≤ 1000000) :
  Calls Try.prog 48 #[.pointer (some ⟨Bo, 0, none⟩), .int .i64 c, .int .i64 lit] w fun e w' => (∃ v, e = .returned v) ∧ ∃ vC' vL', PutF w base Bo vC vL least w' vC' vL' vC' vL' (C ++ [.int .i64 c]) (L ++ [.int .i64 lit]) := by
 have hu24 := Try.underlying24
 have hu52 := Try.underlying52
 have hu22 := Try.underlying22
 have hu50 := Try.underlying50
 obtain ⟨i0, hi0, hz0, hz1, hz2⟩ := info_parts (show (Try.prog.info? 3).map (fun i => (i.zero, i.size, i.bytes)) = some (some (.int .i64 0), 1, 8) by kernel_rfl)
 have HP := Aside0.mk h.drew
 have hH := h.drew.held
 clear h
 go_enter Try.func48, Try.ntmps48
 refine start_ (n := 26) (S := fun w' => w'.cell? ⟨Bo, 0, none⟩ = some vC ∧ w'.cell? ⟨Bo, 1, none⟩ = some vL) (ds := [21, 25]) #[false, false, false, false, false, false, false, false, false, false, false, false, false, false, false, false, false, false, false, false, false, false, false, false, false, false] (by kernel_rfl) rfl rfl hH (fun hHeld => ?_)
 clear hH
 generalize w.drew = w1 at HP hHeld ⊢
 refine pure_ (i := 0) (N := some 6) (v := ?_) (a' := ?_) (bl 26 1) rfl rfl (by kernel_rfl) (fun _ _ _ h => h) (Or.inl ⟨by rfl, ?_⟩) ?_ ?_; rotate_left; · (intro w'; go_simp; with_reducible rfl)
 rotate_left; · (simp only [Act.put, List.setIfInBounds_toArray, List.set_cons_zero, List.set_cons_succ, i64_w, i32_w]; rfl)
 refine pure_ (i := 1) (N := some 7) (v := ?_) (a' := ?_) (bl 26 3) rfl rfl (by kernel_rfl) (fun _ _ _ h => h) (Or.inl ⟨by rfl, ?_⟩) ?_ ?_; rotate_left; · (intro w'; go_simp; with_reducible rfl)
 rotate_left; · (simp only [Act.put, List.setIfInBounds_toArray, List.set_cons_zero, List.set_cons_succ, i64_w, i32_w]; rfl)
 refine pure_ (i := 2) (N := some 8) (v := ?_) (a' := ?_) (bl 26 7) rfl rfl (by kernel_rfl) (fun _ _ _ h => h) (Or.inl ⟨by rfl, ?_⟩) ?_ ?_; rotate_left; · (intro w'; go_simp; with_reducible rfl)
 rotate_left; · (simp only [Act.put, List.setIfInBounds_toArray, List.set_cons_zero, List.set_cons_succ, i64_w, i32_w]; rfl)
 refine pure_ (i := 3) (N := some 9) (v := ?_) (a' := ?_) (bl 26 15) rfl rfl (by kernel_rfl) (fun _ _ _ h => h) (Or.inl ⟨by rfl, ?_⟩) ?_ ?_; rotate_left; · (intro w'; go_simp; with_reducible rfl)
 rotate_left; · (simp only [Act.put, List.setIfInBounds_toArray, List.set_cons_zero, List.set_cons_succ, i64_w, i32_w]; rfl)
 refine pure_ (i := 4) (N := some 10) (v := ?_) (a' := ?_) (bl 26 31) rfl rfl (by kernel_rfl) (fun _ _ _ h => h) (Or.inl ⟨by rfl, ?_⟩) ?_ ?_; rotate_left; · (intro w'; go_simp; with_reducible rfl)
 rotate_left; · (simp only [Act.put, List.setIfInBounds_toArray, List.set_cons_zero, List.set_cons_succ, i64_w, i32_w]; rfl)
 refine pure_ (i := 5) (N := some 11) (v := ?_) (a' := ?_) (bl 26 63) rfl rfl (by kernel_rfl) (fun _ _ _ h => h) (Or.inl ⟨by rfl, ?_⟩) ?_ ?_; rotate_left; · (intro w'; go_simp; with_reducible rfl)
 rotate_left; · (simp only [Act.put, List.setIfInBounds_toArray, List.set_cons_zero, List.set_cons_succ, i64_w, i32_w]; rfl)
 refine pure_ (i := 7) (N := some 13) (v := ?_) (a' := ?_) (bl 26 191) rfl rfl (by kernel_rfl) (fun _ _ _ h => h) (Or.inl ⟨by rfl, ?_⟩) ?_ ?_; rotate_left; · (intro w'; go_simp; with_reducible rfl)
 rotate_left; · (simp only [Act.put, List.setIfInBounds_toArray, List.set_cons_zero, List.set_cons_succ, i64_w, i32_w]; rfl)
 refine pure_ (i := 10) (N := some 16) (v := ?_) (a' := ?_) (bl 26 1215) rfl rfl (by kernel_rfl) (fun _ _ _ h => h) (Or.inl ⟨by rfl, ?_⟩) ?_ ?_; rotate_left; · (intro w'; go_simp; with_reducible rfl)
 rotate_left; · (simp only [Act.put, List.setIfInBounds_toArray, List.set_cons_zero, List.set_cons_succ, i64_w, i32_w]; rfl)
 refine pure_ (i := 11) (N := some 17) (v := ?_) (a' := ?_) (bl 26 3263) rfl rfl (by kernel_rfl) (fun _ _ _ h => h) (Or.inl ⟨by rfl, ?_⟩) ?_ ?_; rotate_left; · (intro w'; go_simp; with_reducible rfl)
 rotate_left; · (simp only [Act.put, List.setIfInBounds_toArray, List.set_cons_zero, List.set_cons_succ, i64_w, i32_w]; rfl)
 refine pure_ (i := 12) (N := some 18) (v := ?_) (a' := ?_) (bl 26 7359) rfl rfl (by kernel_rfl) (fun _ _ _ h => h) (Or.inl ⟨by rfl, ?_⟩) ?_ ?_; rotate_left; · (intro w'; go_simp; with_reducible rfl)
 rotate_left; · (simp only [Act.put, List.setIfInBounds_toArray, List.set_cons_zero, List.set_cons_succ, i64_w, i32_w]; rfl)
 refine pure_ (i := 13) (N := some 19) (v := ?_) (a' := ?_) (bl 26 15551) rfl rfl (by kernel_rfl) (fun _ _ _ h => h) (Or.inl ⟨by rfl, ?_⟩) ?_ ?_; rotate_left; · (intro w'; go_simp; with_reducible rfl)
 rotate_left; · (simp only [Act.put, List.setIfInBounds_toArray, List.set_cons_zero, List.set_cons_succ, i64_w, i32_w]; rfl)
 refine pure_ (i := 15) (N := some 21) (v := ?_) (a' := ?_) (bl 26 48319) rfl rfl (by kernel_rfl) (fun _ _ _ h => h) (Or.inl ⟨by rfl, ?_⟩) ?_ ?_; rotate_left; · (intro w'; go_simp; with_reducible rfl)
 rotate_left; · (simp only [Act.put, List.setIfInBounds_toArray, List.set_cons_zero, List.set_cons_succ, i64_w, i32_w]; rfl)
 refine take_ (i := 6) (N := some 12) (v := ?_) (a' := ?_) (bl 26 48383) rfl rfl (by kernel_rfl) (fun _ _ _ h => h) (Or.inl ⟨by rfl, ?_⟩) hHeld ?_ ?_; rotate_left; · (rintro w' ⟨s0, s1⟩; go_simp; with_reducible rfl)
 rotate_left; · (simp only [Act.put, List.setIfInBounds_toArray, List.set_cons_zero, List.set_cons_succ, i64_w, i32_w]; rfl)
 refine take_ (i := 14) (N := some 20) (v := ?_) (a' := ?_) (bl 26 64767) rfl rfl (by kernel_rfl) (fun _ _ _ h => h) (Or.inl ⟨by rfl, ?_⟩) hHeld ?_ ?_; rotate_left; · (rintro w' ⟨s0, s1⟩; go_simp; with_reducible rfl)
 rotate_left; · (simp only [Act.put, List.setIfInBounds_toArray, List.set_cons_zero, List.set_cons_succ, i64_w, i32_w]; rfl)
 refine join_ (σ := Value × Value × (Nat × Nat) × (Nat × Nat)) 8 (bl 26 262143) (fun s => [(14, s.1), (22, s.2.1), (15, .slice (some ⟨s.2.2.1.1, 0, none⟩) (C.length + 1) s.2.2.1.2), (23, .slice (some ⟨s.2.2.2.1, 0, none⟩) (L.length + 1) s.2.2.2.2)]) (fun s W => PutF w base Bo vC vL least W vC vL (.slice (some ⟨s.2.2.1.1, 0, none⟩) (C.length + 1) s.2.2.1.2) (.slice (some ⟨s.2.2.2.1, 0, none⟩) (L.length + 1) s.2.2.2.2) (C ++ [.int .i64 c]) (L ++ [.int .i64 lit])) ?cont (fun hJ => ?_)
 case cont =>
  rintro ⟨v14, v22, ⟨g1, cap1⟩, ⟨g2, cap2⟩⟩ W hF
  simp only [putAll, Act.put, List.setIfInBounds_toArray, List.set_cons_zero, List.set_cons_succ]
  have HF : Aside0 (PutF w base Bo vC vL least W vC vL (.slice (some ⟨g1, 0, none⟩) (C.length + 1) cap1) (.slice (some ⟨g2, 0, none⟩) (L.length + 1) cap2) (C ++ [.int .i64 c]) (L ++ [.int .i64 lit])) := Aside0.mk hF
  clear hF HP hHeld
  refine pure_ (i := 18) (N := some 24) (v := ?_) (a' := ?_) (bl 26 524287) rfl rfl (by kernel_rfl) (fun _ _ _ h => h) (Or.inl ⟨by rfl, ?_⟩) ?_ ?_; rotate_left; · (intro w'; go_simp; with_reducible rfl)
  rotate_left; · (simp only [Act.put, List.setIfInBounds_toArray, List.set_cons_zero, List.set_cons_succ, i64_w, i32_w]; rfl)
  refine pure_ (i := 19) (N := some 25) (v := ?_) (a' := ?_) (bl 26 1048575) rfl rfl (by kernel_rfl) (fun _ _ _ h => h) (Or.inl ⟨by rfl, ?_⟩) ?_ ?_; rotate_left; · (intro w'; go_simp; with_reducible rfl)
  rotate_left; · (simp only [Act.put, List.setIfInBounds_toArray, List.set_cons_zero, List.set_cons_succ, i64_w, i32_w]; rfl)
  refine pure_ (i := 20) (N := some 26) (v := ?_) (a' := ?_) (bl 26 2097151) rfl rfl (by kernel_rfl) (fun _ _ _ h => h) (Or.inl ⟨by rfl, ?_⟩) ?_ ?_; rotate_left; · (intro w'; go_simp; with_reducible rfl)
  rotate_left; · (simp only [Act.put, List.setIfInBounds_toArray, List.set_cons_zero, List.set_cons_succ, i64_w, i32_w]; rfl)
  refine last_ (i := 21) (N := none) (bl 26 4194303) rfl rfl (by kernel_rfl) (by decide) (fun K hK => ?_)
  have hs := (blk_cell HF.out.blk 0).trans (rfl : _ = some (vC))
  have hfs := blk_frozen HF.out.blk 0
  refine skip_ (w1 := ?_) (by rfl) rfl ?_ ?_
  rotate_left
  ·
   go_simp
   rfl
  refine hK.out _ _ ?_
  clear hK K hs hfs
  have HF1 := Aside0.mk (HF.out.setW 0 (.slice (some ⟨g1, 0, none⟩) (C.length + 1) cap1) (d0 := .slice (some ⟨g1, 0, none⟩) (C.length + 1) cap1) (d1 := vL) rfl)
  clear HF
  generalize World.setCell W _ _ = W1 at HF1 ⊢
  refine pure_ (i := 22) (N := some 27) (v := ?_) (a' := ?_) (bl 26 8388607) rfl rfl (by kernel_rfl) (fun _ _ _ h => h) (Or.inl ⟨by rfl, ?_⟩) ?_ ?_; rotate_left; · (intro w'; go_simp; with_reducible rfl)
  rotate_left; · (simp only [Act.put, List.setIfInBounds_toArray, List.set_cons_zero, List.set_cons_succ, i64_w, i32_w]; rfl)
  refine pure_ (i := 23) (N := some 28) (v := ?_) (a' := ?_) (bl 26 16777215) rfl rfl (by kernel_rfl) (fun _ _ _ h => h) (Or.inl ⟨by rfl, ?_⟩) ?_ ?_; rotate_left; · (intro w'; go_simp; with_reducible rfl)
  rotate_left; · (simp only [Act.put, List.setIfInBounds_toArray, List.set_cons_zero, List.set_cons_succ, i64_w, i32_w]; rfl)
  refine pure_ (i := 24) (N := some 29) (v := ?_) (a' := ?_) (bl 26 33554431) rfl rfl (by kernel_rfl) (fun _ _ _ h => h) (Or.inl ⟨by rfl, ?_⟩) ?_ ?_; rotate_left; · (intro w'; go_simp; with_reducible rfl)
  rotate_left; · (simp only [Act.put, List.setIfInBounds_toArray, List.set_cons_zero, List.set_cons_succ, i64_w, i32_w]; rfl)
  refine last_ (i := 25) (N := none) (bl 26 67108863) rfl rfl (by kernel_rfl) (by decide) (fun K hK => ?_)
  have hs := (blk_cell HF1.out.blk 1).trans (rfl : _ = some (vL))
  have hfs := blk_frozen HF1.out.blk 1
  refine skip_ (w1 := ?_) (by rfl) rfl ?_ ?_
  rotate_left
  ·
   go_simp
   rfl
  refine hK.out _ _ ?_
  clear hK K hs hfs
  have HF2 := Aside0.mk (HF1.out.setW 1 (.slice (some ⟨g2, 0, none⟩) (L.length + 1) cap2) (d0 := .slice (some ⟨g1, 0, none⟩) (C.length + 1) cap1) (d1 := .slice (some ⟨g2, 0, none⟩) (L.length + 1) cap2) rfl)
  clear HF1
  generalize World.setCell W1 _ _ = W2 at HF2 ⊢
  refine done_ (by kernel_rfl) ?_
  go_end0
  exact ⟨⟨_, rfl⟩, _, _, HF2.out⟩
 have HJ := Lib.hid hJ
 clear hJ
 refine two_ (i := 8) (j := 16) (Ni := some 14) (Nj := some 22) (bl 26 65023) (bl 26 130303) rfl rfl rfl rfl (by kernel_rfl) (by decide) (by decide) (fun K hK => ?_) (fun K hK => ?_)
 ·
  -- the first literal is built first
  refine value_ (w1 := ?_) (v := ?_) (by rfl) rfl ?_ ?_
  rotate_left 2
  ·
   go_simp
   constructor
   ·
    rfl
   ·
    rfl
  have HP2 := Aside0.mk (HP.out.alloc (.cells #[.int .i64 c] 3))
  have N1 := Aside0.mk (blk_new w1 (.cells #[.int .i64 c] 3))
  refine hK.out _ _ HP2.out.held (fun hHeld => ?_)
  clear hK K HP
  generalize World.alloc w1 (.cells #[.int .i64 c] 3) = w2 at HP2 N1 hHeld ⊢
  refine norm_ (a' := ?_) ?_ ?_
  rotate_left
  ·
   show Act.put _ (some 14) _ = _
   simp only [Act.put, List.setIfInBounds_toArray, List.set_cons_zero, List.set_cons_succ, i64_w, i32_w]
   rfl
  refine two_ (i := 9) (j := 16) (Ni := some 15) (Nj := some 22) (bl 26 65535) (bl 26 130559) rfl rfl rfl rfl (by kernel_rfl) (by decide) (by decide) (fun K hK => ?_) (fun K hK => ?_)
  ·
   -- then the first append
   refine step_append_lies w2 (by rfl) (.tmp 12) (.tmp 14) 22 rfl base 3 i0 (.int .i64 0) 1 8 Try.underlying22 hi0 hz0 hz1 hz2 rfl (by omega) vC C.length C (by rfl) HP2.out.ownC ⟨w1.heap.size, 0, none⟩ 1 1 [.int .i64 c] (by rfl) (by rfl) (World.news_of_block N1.out) (by simp [Value.oneCell']) (by omega) (by unfold maxLen; omega) (by omega) HP2.out.size w2.heap.size rfl ?_
   intro g1 cap1 w3 hown hgrow hat hlt
   have HP3 := Aside0.mk (HP2.out.appC hown hgrow hat)
   clear hown hgrow hat hlt N1
   refine hK.out _ _ HP3.out.held (fun hHeld => ?_)
   clear hK K HP2
   refine norm_ (a' := ?_) ?_ ?_
   rotate_left
   ·
    show Act.put _ (some 15) _ = _
    simp only [Act.put, List.setIfInBounds_toArray, List.set_cons_zero, List.set_cons_succ, i64_w, i32_w]
    rfl
   refine one_ (i := 16) (N := some 22) (bl 26 131071) rfl rfl (by kernel_rfl) (by decide) (fun K hK => ?_)
   refine value_ (w1 := ?_) (v := ?_) (by rfl) rfl ?_ ?_
   rotate_left 2
   ·
    go_simp
    constructor
    ·
     rfl
    ·
     rfl
   have HP4 := Aside0.mk (HP3.out.alloc (.cells #[.int .i64 lit] 3))
   have N2 := Aside0.mk (blk_new w3 (.cells #[.int .i64 lit] 3))
   refine hK.out _ _ HP4.out.held (fun hHeld => ?_)
   clear hK K HP3
   generalize World.alloc w3 (.cells #[.int .i64 lit] 3) = w4 at HP4 N2 hHeld ⊢
   refine norm_ (a' := ?_) ?_ ?_
   rotate_left
   ·
    show Act.put _ (some 22) _ = _
    simp only [Act.put, List.setIfInBounds_toArray, List.set_cons_zero, List.set_cons_succ, i64_w, i32_w]
    rfl
   refine one_ (i := 17) (N := some 23) (bl 26 262143) rfl rfl (by kernel_rfl) (by decide) (fun K hK => ?_)
   refine step_append_lies w4 (by rfl) (.tmp 20) (.tmp 22) 22 rfl base 3 i0 (.int .i64 0) 1 8 Try.underlying22 hi0 hz0 hz1 hz2 rfl (by omega) vL L.length L (by rfl) HP4.out.ownL ⟨w3.heap.size, 0, none⟩ 1 1 [.int .i64 lit] (by rfl) (by rfl) (World.news_of_block N2.out) (by simp [Value.oneCell']) (by omega) (by unfold maxLen; omega) (by omega) HP4.out.size w4.heap.size rfl ?_
   intro g2 cap2 w5 hown hgrow hat hlt
   have HP5 := Aside0.mk (HP4.out.appL hown hgrow hat)
   clear hown hgrow hat hlt N2
   refine hK.out _ _ HP5.out.held (fun hHeld => ?_)
   clear hK K HP4
   refine norm_ (a' := ?_) ?_ ?_
   rotate_left
   ·
    show Act.put _ (some 23) _ = _
    simp only [Act.put, List.setIfInBounds_toArray, List.set_cons_zero, List.set_cons_succ, i64_w, i32_w]
    rfl
   have hh := HJ.out (.slice (some ⟨w1.heap.size, 0, none⟩) 1 1, .slice (some ⟨w3.heap.size, 0, none⟩) 1 1, (g1, cap1), (g2, cap2)) _ HP5.out
   simp only [putAll, Act.put, List.setIfInBounds_toArray, List.set_cons_zero, List.set_cons_succ] at hh
   exact hh
  ·
   -- then the second literal
   refine value_ (w1 := ?_) (v := ?_) (by rfl) rfl ?_ ?_
   rotate_left 2
   ·
    go_simp
    constructor
    ·
     rfl
    ·
     rfl
   have HP3 := Aside0.mk (HP2.out.alloc (.cells #[.int .i64 lit] 3))
   have N2 := Aside0.mk (blk_new w2 (.cells #[.int .i64 lit] 3))
   have N2ne : Aside0 (vC.ownBlock ≠ some w2.heap.size) := ⟨fun e => absurd (ownBlock_lt HP2.out.ownC _ e) (by omega)⟩
   have M1 := Aside0.mk (blk_alloc N1.out (.cells #[.int .i64 lit] 3))
   clear N1
   have N1 := M1
   clear M1
   refine hK.out _ _ HP3.out.held (fun hHeld => ?_)
   clear hK K HP2
   generalize World.alloc w2 (.cells #[.int .i64 lit] 3) = w3 at HP3 N2 N1 hHeld ⊢
   refine norm_ (a' := ?_) ?_ ?_
   rotate_left
   ·
    show Act.put _ (some 22) _ = _
    simp only [Act.put, List.setIfInBounds_toArray, List.set_cons_zero, List.set_cons_succ, i64_w, i32_w]
    rfl
   refine one_ (i := 9) (N := some 15) (bl 26 131071) rfl rfl (by kernel_rfl) (by decide) (fun K hK => ?_)
   refine step_append_lies w3 (by rfl) (.tmp 12) (.tmp 14) 22 rfl base 3 i0 (.int .i64 0) 1 8 Try.underlying22 hi0 hz0 hz1 hz2 rfl (by omega) vC C.length C (by rfl) HP3.out.ownC ⟨w1.heap.size, 0, none⟩ 1 1 [.int .i64 c] (by rfl) (by rfl) (World.news_of_block N1.out) (by simp [Value.oneCell']) (by omega) (by unfold maxLen; omega) (by omega) HP3.out.size w3.heap.size rfl ?_
   intro g1 cap1 w4 hown hgrow hat hlt
   have HP4 := Aside0.mk (HP3.out.appC hown hgrow hat)
   have M2 := Aside0.mk (HP3.out.far_C N2.out hgrow N2ne.out)
   clear N2
   have N2 := M2
   clear M2
   clear hown hgrow hat hlt N1
   refine hK.out _ _ HP4.out.held (fun hHeld => ?_)
   clear hK K HP3
   refine norm_ (a' := ?_) ?_ ?_
   rotate_left
   ·
    show Act.put _ (some 15) _ = _
    simp only [Act.put, List.setIfInBounds_toArray, List.set_cons_zero, List.set_cons_succ, i64_w, i32_w]
    rfl
   refine one_ (i := 17) (N := some 23) (bl 26 262143) rfl rfl (by kernel_rfl) (by decide) (fun K hK => ?_)
   refine step_append_lies w4 (by rfl) (.tmp 20) (.tmp 22) 22 rfl base 3 i0 (.int .i64 0) 1 8 Try.underlying22 hi0 hz0 hz1 hz2 rfl (by omega) vL L.length L (by rfl) HP4.out.ownL ⟨w2.heap.size, 0, none⟩ 1 1 [.int .i64 lit] (by rfl) (by rfl) (World.news_of_block N2.out) (by simp [Value.oneCell']) (by omega) (by unfold maxLen; omega) (by omega) HP4.out.size w4.heap.size rfl ?_
   intro g2 cap2 w5 hown hgrow hat hlt
   have HP5 := Aside0.mk (HP4.out.appL hown hgrow hat)
   clear hown hgrow hat hlt N2
   refine hK.out _ _ HP5.out.held (fun hHeld => ?_)
   clear hK K HP4
   refine norm_ (a' := ?_) ?_ ?_
   rotate_left
   ·
    show Act.put _ (some 23) _ = _
    simp only [Act.put, List.setIfInBounds_toArray, List.set_cons_zero, List.set_cons_succ, i64_w, i32_w]
    rfl
   have hh := HJ.out (.slice (some ⟨w1.heap.size, 0, none⟩) 1 1, .slice (some ⟨w2.heap.size, 0, none⟩) 1 1, (g1, cap1), (g2, cap2)) _ HP5.out
   simp only [putAll, Act.put, List.setIfInBounds_toArray, List.set_cons_zero, List.set_cons_succ] at hh
   exact hh
 ·
  -- the second literal is built first
  refine value_ (w1 := ?_) (v := ?_) (by rfl) rfl ?_ ?_
  rotate_left 2
  ·
   go_simp
   constructor
   ·
    rfl
   ·
    rfl
  have HP2 := Aside0.mk (HP.out.alloc (.cells #[.int .i64 lit] 3))
  have N2 := Aside0.mk (blk_new w1 (.cells #[.int .i64 lit] 3))
  have N2ne : Aside0 (vC.ownBlock ≠ some w1.heap.size) := ⟨fun e => absurd (ownBlock_lt HP.out.ownC _ e) (by omega)⟩
  refine hK.out _ _ HP2.out.held (fun hHeld => ?_)
  clear hK K HP
  generalize World.alloc w1 (.cells #[.int .i64 lit] 3) = w2 at HP2 N2 hHeld ⊢
  refine norm_ (a' := ?_) ?_ ?_
  rotate_left
  ·
   show Act.put _ (some 22) _ = _
   simp only [Act.put, List.setIfInBounds_toArray, List.set_cons_zero, List.set_cons_succ, i64_w, i32_w]
   rfl
  refine one_ (i := 8) (N := some 14) (bl 26 130559) rfl rfl (by kernel_rfl) (by decide) (fun K hK => ?_)
  refine value_ (w1 := ?_) (v := ?_) (by rfl) rfl ?_ ?_
  rotate_left 2
  ·
   go_simp
   constructor
   ·
    rfl
   ·
    rfl
  have HP3 := Aside0.mk (HP2.out.alloc (.cells #[.int .i64 c] 3))
  have N1 := Aside0.mk (blk_new w2 (.cells #[.int .i64 c] 3))
  have M2 := Aside0.mk (blk_alloc N2.out (.cells #[.int .i64 c] 3))
  clear N2
  have N2 := M2
  clear M2
  refine hK.out _ _ HP3.out.held (fun hHeld => ?_)
  clear hK K HP2
  generalize World.alloc w2 (.cells #[.int .i64 c] 3) = w3 at HP3 N1 N2 hHeld ⊢
  refine norm_ (a' := ?_) ?_ ?_
  rotate_left
  ·
   show Act.put _ (some 14) _ = _
   simp only [Act.put, List.setIfInBounds_toArray, List.set_cons_zero, List.set_cons_succ, i64_w, i32_w]
   rfl
  refine one_ (i := 9) (N := some 15) (bl 26 131071) rfl rfl (by kernel_rfl) (by decide) (fun K hK => ?_)
  refine step_append_lies w3 (by rfl) (.tmp 12) (.tmp 14) 22 rfl base 3 i0 (.int .i64 0) 1 8 Try.underlying22 hi0 hz0 hz1 hz2 rfl (by omega) vC C.length C (by rfl) HP3.out.ownC ⟨w2.heap.size, 0, none⟩ 1 1 [.int .i64 c] (by rfl) (by rfl) (World.news_of_block N1.out) (by simp [Value.oneCell']) (by omega) (by unfold maxLen; omega) (by omega) HP3.out.size w3.heap.size rfl ?_
  intro g1 cap1 w4 hown hgrow hat hlt
  have HP4 := Aside0.mk (HP3.out.appC hown hgrow hat)
  have M2 := Aside0.mk (HP3.out.far_C N2.out hgrow N2ne.out)
  clear N2
  have N2 := M2
  clear M2
  clear hown hgrow hat hlt N1
  refine hK.out _ _ HP4.out.held (fun hHeld => ?_)
  clear hK K HP3
  refine norm_ (a' := ?_) ?_ ?_
  rotate_left
  ·
   show Act.put _ (some 15) _ = _
   simp only [Act.put, List.setIfInBounds_toArray, List.set_cons_zero, List.set_cons_succ, i64_w, i32_w]
   rfl
  refine one_ (i := 17) (N := some 23) (bl 26 262143) rfl rfl (by kernel_rfl) (by decide) (fun K hK => ?_)
  refine step_append_lies w4 (by rfl) (.tmp 20) (.tmp 22) 22 rfl base 3 i0 (.int .i64 0) 1 8 Try.underlying22 hi0 hz0 hz1 hz2 rfl (by omega) vL L.length L (by rfl) HP4.out.ownL ⟨w1.heap.size, 0, none⟩ 1 1 [.int .i64 lit] (by rfl) (by rfl) (World.news_of_block N2.out) (by simp [Value.oneCell']) (by omega) (by unfold maxLen; omega) (by omega) HP4.out.size w4.heap.size rfl ?_
  intro g2 cap2 w5 hown hgrow hat hlt
  have HP5 := Aside0.mk (HP4.out.appL hown hgrow hat)
  clear hown hgrow hat hlt N2
  refine hK.out _ _ HP5.out.held (fun hHeld => ?_)
  clear hK K HP4
  refine norm_ (a' := ?_) ?_ ?_
  rotate_left
  ·
   show Act.put _ (some 23) _ = _
   simp only [Act.put, List.setIfInBounds_toArray, List.set_cons_zero, List.set_cons_succ, i64_w, i32_w]
   rfl
  have hh := HJ.out (.slice (some ⟨w2.heap.size, 0, none⟩) 1 1, .slice (some ⟨w1.heap.size, 0, none⟩) 1 1, (g1, cap1), (g2, cap2)) _ HP5.out
  simp only [putAll, Act.put, List.setIfInBounds_toArray, List.set_cons_zero, List.set_cons_succ] at hh
  exact hh

end Go.Proofs.Ytmcljhjmmipagaa.PL
