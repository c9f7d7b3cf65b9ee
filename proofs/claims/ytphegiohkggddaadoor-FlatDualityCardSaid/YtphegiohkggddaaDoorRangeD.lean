/- A range over a function whose iterator runs loops of the same kind itself: what such an iterator promises, and the statement's law over that promise. -/
import Derived.RangeFuncNested
import Derived.RangeFuncLeaves
namespace Go.Proofs.YtphegiohkggddaaDoor
open Go.RowKit
set_option linter.unusedVariables false

/-- What an iterator's own blocks are: anything but cells, or cells of the types t1, t2. -/
def Keepable (t1 t2 : Nat) : Obj → Prop
  | .cells _ t _ => t = t1 ∨ t = t2
  | _ => True
/-- Such blocks lie as they lay; so does all below n0. -/
structure KT (t1 t2 n0 : Nat) (W W' : World) : Prop where
  below : Below n0 W W'
  same : ∀ (k : Nat) (o : Obj), W.heap[k]? = some o → Keepable t1 t2 o → W'.heap[k]? = some o

/-- Such blocks from number B on lie as they lay. -/
structure KA (t1 t2 B : Nat) (W W' : World) : Prop where
  size : W.heap.size ≤ W'.heap.size
  same : ∀ (k : Nat) (o : Obj), B ≤ k → W.heap[k]? = some o → Keepable t1 t2 o → W'.heap[k]? = some o

variable {t1 t2 n0 : Nat}
theorem KT.ka {W W' : World} (h : KT t1 t2 n0 W W') (B : Nat) : KA t1 t2 B W W' := ⟨h.below.size, fun k o _ hk ho => h.same k o hk ho⟩
theorem KA.trans {B : Nat} {X Y Z : World} (h : KA t1 t2 B X Y) (k : KA t1 t2 B Y Z) : KA t1 t2 B X Z := ⟨Nat.le_trans h.size k.size, fun i o hB hi ho => k.same i o hB (h.same i o hB hi ho) ho⟩
theorem KA.mono {B B' : Nat} {X Y : World} (h : KA t1 t2 B X Y) (hB : B ≤ B') : KA t1 t2 B' X Y := ⟨h.size, fun i o hi hk ho => h.same i o (Nat.le_trans hB hi) hk ho⟩
theorem KA.putObj {B : Nat} {X Y : World} (h : KA t1 t2 B X Y) {l : Nat} (hl : l < B) (o : Obj) : KA t1 t2 B X (Y.putObj l o) := ⟨by rw [World.putObj_size]; exact h.size, fun i o' hi hk ho => (World.putObj_heap_other (by omega)).trans (h.same i o' hi hk ho)⟩
theorem KA.refl (B : Nat) (W : World) : KA t1 t2 B W W := ⟨Nat.le_refl _, fun _ _ _ h _ => h⟩
theorem KT.refl (W : World) : KT t1 t2 n0 W W := ⟨Below.refl _ _, fun _ _ h _ => h⟩
theorem KT.trans {A B C : World} (h : KT t1 t2 n0 A B) (k : KT t1 t2 n0 B C) : KT t1 t2 n0 A C := ⟨h.below.trans k.below, fun i o hi ho => k.same i o (h.same i o hi ho) ho⟩
theorem KT.of_below {W W' : World} (h : Below W.heap.size W W') (hn : n0 ≤ W.heap.size) : KT t1 t2 n0 W W' :=
  ⟨h.mono hn, fun k o hk _ => (h.block k (Array.getElem?_eq_some_iff.1 hk).1).trans hk⟩
theorem KT.alloc {A W : World} (h : KT t1 t2 n0 A W) (hn : n0 ≤ W.heap.size) (o : Obj) : KT t1 t2 n0 A (W.alloc o) :=
  h.trans (KT.of_below ((Below.refl _ W).alloc (Nat.le_refl _) o) hn)
theorem KT.setCell {A W : World} (h : KT t1 t2 n0 A W) {g j : Nat} {cs : Array Value} {t : TypeId} {q : Nat × Nat} (hg : W.heap[g]? = some (.cells cs t q)) (h1 : t ≠ t1) (h2 : t ≠ t2) (hn : n0 ≤ g) (v : Value) : KT t1 t2 n0 A (W.setCell ⟨g, j, none⟩ v) :=
  h.trans ⟨(Below.refl n0 W).setCell (p := ⟨g, j, none⟩) hn v, fun k o hk ho => by
    by_cases e : k = g
    · subst e; rw [hg] at hk; cases hk; rcases ho with e | e <;> contradiction
    · exact (Below.heap_setCell W ⟨g, j, none⟩ v k e).trans hk⟩
theorem KT.grown {A W W' : World} (h : KT t1 t2 n0 A W) {row : Option Nat} (hg : W.grownBy W' row) (hn : n0 ≤ W.heap.size) (hr : ∀ k, row = some k → n0 ≤ k ∧ ∀ o, W.heap[k]? = some o → ¬ Keepable t1 t2 o) : KT t1 t2 n0 A W' :=
  h.trans ⟨(Below.refl n0 W).grown hg hn (fun k hk => (hr k hk).1), fun k o hk ho => by
    by_cases e : some k = row
    · exact absurd ho ((hr k e.symm).2 o hk)
    · exact (hg.block k (Array.getElem?_eq_some_iff.1 hk).1 e).trans hk⟩
/-- It abides whatever turns beyond the world it starts from. -/
theorem KT.own {β : Type} {B : Nat} {W0 : World} (hB : W0.heap.size ≤ B) (hn : n0 ≤ W0.heap.size) : OwnFrom B (fun (_ : β) W => KT t1 t2 n0 W0 W) :=
  fun _ X Y row hs hg hr => ⟨hs.below.grown hg (Nat.le_trans hn hs.below.size) (fun k hk => Nat.le_trans hn (Nat.le_trans hB (hr k hk).1)), fun k o hk ho => by
    have hX := hs.same k o hk ho
    refine (hg.block k (Array.getElem?_eq_some_iff.1 hX).1 (fun e => ?_)).trans hX
    have h1 := (hr k e.symm).1
    have h2 := (Array.getElem?_eq_some_iff.1 hk).1
    omega⟩

/-- WHAT THE ITERATOR PROMISES: whatever of its caller's abides the turn of blocks that are no cells and were laid since the call. -/
def SeqD {α : Type} (t1 t2 n0 : Nat) (P : Program) (g : Nat) (lb : Array Value) (encs : α → Array Value) (S Sp : List α → Prop) (w : World) : Prop :=
  ∀ (n l : Nat) (J Jx : List α → World → Prop) (W : World), Below w.heap.size w W → l < W.heap.size → OwnFrom W.heap.size J → OwnFrom W.heap.size Jx →
    (∀ m pre x W1, Sp (pre ++ [x]) → J pre W1 → YieldAt Fence.wide m P l (encs x) W1 fun e W' => (e = .returned (.bool true) ∧ J (pre ++ [x]) W' ∧ KT t1 t2 n0 W1 W') ∨ (e = .returned (.bool false) ∧ Jx (pre ++ [x]) W' ∧ KA t1 t2 (l + 1) W1 W')) →
    J [] W → CallsIn Fence.wide n P g (#[.func (.yield l) #[] #[]] ++ lb) W fun e W' => (∃ v, e = .returned v) ∧ ((∃ xs, S xs ∧ J xs W') ∨ (∃ pre, Sp pre ∧ Jx pre W'))

/-- How a round's body may be left. -/
def postD {α : Type} (t1 t2 n0 B : Nat) (I Ix : List α → World → Prop) (xs : List α) (W : World) : Exit → Act → World → Prop
  | .normal, _, W' => KT t1 t2 n0 W W' ∧ I xs W'
  | .ret, _, W' => KA t1 t2 B W W' ∧ Ix xs W'
  | _, _, _ => False

/-- THE STATEMENT 'for .. := range g { .. }' OVER SUCH AN ITERATOR, outside any other such loop's body. -/
theorem wp_rangeD {α : Type} {n : Nat} {P : Program} {g : Operand} {ps : Array Tmp} {assign body : Code} {Q : Exit → Act → World → Prop} {a : Act} {w : World}
    {gf : Nat} {lb : Array Value} (hg : a.eval g = .func (.func gf) #[] lb) (eg : ∀ args w, (callFunc gf args).run P w = .ok (.enter gf args) w)
    {encs : α → Array Value} {S Sp : List α → Prop} {w0 : World} (hseq : SeqD t1 t2 n0 P gf lb encs S Sp w0) (hb0 : Below w0.heap.size w0 w) (hn : n0 ≤ w.heap.size) (hps : ∀ x, (encs x).size = ps.size)
    (I Ix : List α → World → Prop) (hI : OwnFrom w.heap.size I) (hIx : OwnFrom w.heap.size Ix) (h0 : I [] w)
    (hround : ∀ (m l : Nat) (pre : List α) (x : α) (W : World), Sp (pre ++ [x]) → I pre W →
      assign.wpIn (Fence.wide.inRound l) m P (Exit.then (fun a1 W1 => KT t1 t2 n0 W W1 ∧ I pre W1 ∧ ∀ W2, W2.heap.size = W1.heap.size → (∀ (k : Nat) (o : Obj), W1.heap[k]? = some o → o.isCells = true → W2.heap[k]? = some o) → Below w.heap.size W1 W2 → I pre W2 →
        body.wpIn (Fence.wide.inRound l) m P (postD t1 t2 n0 w.heap.size I Ix (pre ++ [x]) W2) a1 W2) (fun _ _ _ => False)) { tmps := (ps.zip (encs x)).foldl (fun t (p, v) => t.setIfInBounds p v) a.tmps, defers := [] } W)
    (hdone : ∀ (D : Nat) (xs : List α) (W : World), w.heap.size ≤ D → S xs → I xs W → W.heap[D]? = some (.deferred (some [])) → Q .normal { a with defers := { target := .collected D, args := #[] } :: a.defers } W)
    (hstop : ∀ (D : Nat) (pre : List α) (W : World), w.heap.size ≤ D → Sp pre → Ix pre W → W.heap[D]? = some (.deferred (some [])) → Code.ret.wpIn Fence.wide n P Q { a with defers := { target := .collected D, args := #[] } :: a.defers } W) :
    (Code.rangeFunc g ps assign body).wpIn Fence.wide n P Q a w := by
  refine wpIn_rangeFunc fun fn hfn => ?_
  -- the two blocks of book-keeping
  let rec0 : LoopState → Option Code → Loop := fun st pe => { state := st, pending := pe, fn, tmps := a.tmps, params := ps, assign, body, defers := w.heap.size }
  have hw1 : ∃ W1, (w.alloc (.deferred (some []))).alloc (.loop (rec0 .ready none)) = W1 := ⟨_, rfl⟩
  obtain ⟨W1, hW1⟩ := hw1
  have hD1 : W1.heap[w.heap.size]? = some (.deferred (some [])) := by
    rw [← hW1]; exact (Below.heap_alloc _ _ _ (by simp)).trans (World.alloc_heap_new w _)
  have hL1 : W1.heap[w.heap.size + 1]? = some (.loop (rec0 .ready none)) := by
    rw [← hW1]; have := World.alloc_heap_new (w.alloc (.deferred (some []))) (.loop (rec0 .ready none)); rwa [World.size_alloc] at this
  have hs1 : W1.heap.size = w.heap.size + 2 := by rw [← hW1]; simp
  have hB1 : Below w.heap.size w W1 := by rw [← hW1]; exact ((Below.refl _ w).alloc (Nat.le_refl _) _).alloc (by simp) _
  have hI1 : I [] W1 := by rw [← hW1]; exact hI.alloc _ (hI.alloc _ h0)
  refine ⟨w.heap.size + 1, [{ target := .collected w.heap.size, args := #[] }], W1, { target := .fn (.func gf) lb, args := #[.func (.yield (w.heap.size + 1)) #[] #[]] }, W1, gf,
    #[.func (.yield (w.heap.size + 1)) #[] #[]] ++ lb, W1, ?_, ?_, ?_, ?_, ?_, ?_⟩
  · rw [← hW1]; exact run_enterLoop_outer _ _ _ _ _
  · simp only [resolve, hg]
    simp [go_sem]
  · intro f' _; exact trivial
  · simp [invoke, go_sem, eg]
  · intro h; cases h
  · -- what the loop holds between two rounds
    have hkeep : ∀ {A B : World} {row : Option Nat} {k : Nat} {o : Obj}, A.grownBy B row → (∀ r, row = some r → W1.heap.size ≤ r ∧ ∃ o : Obj, A.heap[r]? = some o ∧ o.isCells = false) → k < w.heap.size + 2 → A.heap[k]? = some o → B.heap[k]? = some o := by
      intro A B row k o hgr hr hk ho
      refine (hgr.block k (Array.getElem?_eq_some_iff.1 ho).1 (fun e => ?_)).trans ho
      have := (hr k e.symm).1
      omega
    refine (hseq (n - 1) (w.heap.size + 1)
      (fun pre W => I pre W ∧ W.heap[w.heap.size + 1]? = some (.loop (rec0 .ready none)) ∧ W.heap[w.heap.size]? = some (.deferred (some [])))
      (fun pre W => Ix pre W ∧ W.heap[w.heap.size + 1]? = some (.loop (rec0 .done (some .ret))) ∧ W.heap[w.heap.size]? = some (.deferred (some [])))
      W1 (hb0.trans (hB1.mono hb0.size)) (by omega)
      (fun s A B row hs hgr hr => ⟨hI s A B row hs.1 hgr (fun r e => ⟨by have := (hr r e).1; omega, (hr r e).2⟩), hkeep hgr hr (by omega) hs.2.1, hkeep hgr hr (by omega) hs.2.2⟩)
      (fun s A B row hs hgr hr => ⟨hIx s A B row hs.1 hgr (fun r e => ⟨by have := (hr r e).1; omega, (hr r e).2⟩), hkeep hgr hr (by omega) hs.2.1, hkeep hgr hr (by omega) hs.2.2⟩)
      ?_ ⟨hI1, hL1, hD1⟩).mono ?_
    · -- one round
      rintro m pre x W hsp ⟨hi, hl, hk⟩
      refine ⟨fn, _, assign, body, run_yield (P := P) (args := encs x) hl (hps x), roundIn_of_wpIn hfn (wpIn_mono (hround m _ pre x W hsp hi) ?_)⟩
      rintro e a1 W2 hp
      cases e with
      | normal =>
        obtain ⟨hkt, hi2, hbody⟩ := hp
        have hl2 := hkt.same _ _ hl trivial
        have hk2 := hkt.same _ _ hk trivial
        have hlt : w.heap.size + 1 < W2.heap.size := (Array.getElem?_eq_some_iff.1 hl2).1
        refine ⟨_, run_beginRound hl2 rfl, ?_⟩
        have hl3 : (W2.putObj (w.heap.size + 1) (.loop { rec0 .ready none with state := .busy })).heap[w.heap.size + 1]? = some (.loop { rec0 .ready none with state := .busy }) := World.putObj_heap_same hlt
        have hgr := grownBy_putObj' W2 (w.heap.size + 1) (.loop { rec0 .ready none with state := .busy })
        refine wpIn_mono (hbody _ ?_ ?_ ?_ (hI.putObj _ hi2 (by omega) hl2 rfl)) ?_
        · exact World.putObj_size
        · intro k o hko hc
          by_cases e : k = w.heap.size + 1
          · subst e; rw [hl2] at hko; cases hko; cases hc
          · exact (World.putObj_heap_other e).trans hko
        · exact (Below.refl _ _).grown hgr (by omega) (fun k e => by cases e; omega)
        · -- the round's two ways out: the record is back where it was, or bears the return
          have fin : ∀ (jump : Option Code) (W3 : World), KA t1 t2 w.heap.size (W2.putObj (w.heap.size + 1) (.loop { rec0 .ready none with state := .busy })) W3 →
              (Instr.endRound (w.heap.size + 1) jump).run P W3 = .ok (.bool jump.isNone) (W3.putObj (w.heap.size + 1) (.loop (rec0 (if jump.isNone then .ready else .done) jump))) ∧
              W3.heap[w.heap.size + 1]? = some (.loop { rec0 .ready none with state := .busy }) ∧
              (W3.putObj (w.heap.size + 1) (.loop (rec0 (if jump.isNone then .ready else .done) jump))).heap[w.heap.size + 1]? = some (.loop (rec0 (if jump.isNone then .ready else .done) jump)) ∧
              (W3.putObj (w.heap.size + 1) (.loop (rec0 (if jump.isNone then .ready else .done) jump))).heap[w.heap.size]? = some (.deferred (some [])) := fun jump W3 h3 => by
            have hl4 := h3.same _ _ (by omega) hl3 trivial
            have hk4 := h3.same _ _ (Nat.le_refl _) ((World.putObj_heap_other (by omega)).trans hk2) trivial
            exact ⟨run_endRound (P := P) jump hl4, hl4, World.putObj_heap_same (Array.getElem?_eq_some_iff.1 hl4).1, (World.putObj_heap_other (by omega)).trans hk4⟩
          rintro e a3 W3 hp
          cases e with
          | normal =>
            obtain ⟨h3, hi3⟩ := hp
            obtain ⟨hr, hl4, hl5, hk5⟩ := fin none W3 (h3.ka _)
            refine ⟨_, _, hr, .inl ⟨rfl, ⟨hI.putObj _ hi3 (by omega) hl4 rfl, hl5, hk5⟩, ?_, ?_⟩⟩
            · exact hkt.below.trans (((Below.refl _ _).grown hgr (by omega) (fun k e => by cases e; omega)).trans (h3.below.trans ((Below.refl _ _).grown (grownBy_putObj' W3 _ _) (by have := (Array.getElem?_eq_some_iff.1 hl4).1; omega) (fun k e => by cases e; omega))))
            · intro k o hko ho
              by_cases e : k = w.heap.size + 1
              · subst e
                rw [hl] at hko
                cases hko
                exact hl5
              · exact (World.putObj_heap_other e).trans (h3.same _ _ ((World.putObj_heap_other e).trans (hkt.same _ _ hko ho)) ho)
          | ret =>
            obtain ⟨h3, hi3⟩ := hp
            obtain ⟨hr, hl4, hl5, hk5⟩ := fin (some .ret) W3 h3
            exact ⟨_, _, hr, .inr ⟨rfl, ⟨hIx.putObj _ hi3 (by omega) hl4 rfl, hl5, hk5⟩, (((hkt.ka _).putObj (by omega) _).trans (h3.mono (by omega))).putObj (by omega) _⟩⟩
          | _ => exact hp.elim
      | _ => exact hp.elim
    · -- behind the iterator
      rintro e W2 ⟨⟨v, rfl⟩, (⟨xs, hS, hi, hl, hk⟩ | ⟨pre, hSp, hi, hl, hk⟩)⟩
      · exact ⟨none, _, run_endLoop (P := P) hl (by simp [rec0]), hdone _ xs _ (Nat.le_refl _) hS (hI.putObj _ hi (by omega) hl rfl) ((World.putObj_heap_other (by omega)).trans hk)⟩
      · exact ⟨some .ret, _, run_endLoop (P := P) hl (by simp [rec0]), hstop _ pre _ (Nat.le_refl _) hSp (hIx.putObj _ hi (by omega) hl rfl) ((World.putObj_heap_other (by omega)).trans hk)⟩

end Go.Proofs.YtphegiohkggddaaDoor
