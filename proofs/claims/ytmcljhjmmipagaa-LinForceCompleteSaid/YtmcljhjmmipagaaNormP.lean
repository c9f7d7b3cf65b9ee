/- The canonical form of a constraint, as lists: what lin.Norm answers, and what its own list of variables is. No program in sight. -/
import Derived.Test.YtmcljhjmmipagaaValueG
namespace Go.Proofs.Ytmcljhjmmipagaa.PL
set_option linter.unusedVariables false

/-- The distinct variables, ascending. -/
def insV (v : Int) : List Int → List Int
  | [] => [v]
  | x :: l => if v < x then v :: x :: l else if v = x then x :: l else x :: insV v l
def varsOf (L : List Int) : List Int := L.foldl (fun acc l => insV (ofI l) acc) []

theorem mem_insV (v x : Int) : ∀ l : List Int, x ∈ insV v l ↔ x = v ∨ x ∈ l
  | [] => by simp [insV]
  | y :: l => by
    unfold insV
    split
    · simp
    · split
      · subst_vars; simp
      · simp only [List.mem_cons, mem_insV v x l]
        constructor
        · rintro (h | h | h) <;> simp [h]
        · rintro (h | h | h) <;> simp [h]
theorem insV_lt (v : Int) : ∀ l : List Int, l.Pairwise (· < ·) → (insV v l).Pairwise (· < ·)
  | [], _ => by simp [insV]
  | y :: l, h => by
    obtain ⟨h1, h2⟩ := List.pairwise_cons.1 h
    unfold insV
    split
    · rename_i hv
      refine List.pairwise_cons.2 ⟨fun x hx => ?_, h⟩
      rcases List.mem_cons.1 hx with rfl | hx
      · exact hv
      · exact Int.lt_trans hv (h1 x hx)
    · split
      · exact h
      · refine List.pairwise_cons.2 ⟨fun x hx => ?_, insV_lt v l h2⟩
        rcases (mem_insV v x l).1 hx with rfl | hx
        · omega
        · exact h1 x hx
theorem mem_varsOf_aux (x : Int) : ∀ (L acc : List Int), x ∈ L.foldl (fun acc l => insV (ofI l) acc) acc ↔ x ∈ acc ∨ ∃ l ∈ L, ofI l = x
  | [], acc => by simp
  | l :: L, acc => by
    rw [List.foldl_cons, mem_varsOf_aux x L, mem_insV]
    constructor
    · rintro ((rfl | h) | ⟨l', h, e⟩)
      · exact .inr ⟨l, by simp, rfl⟩
      · exact .inl h
      · exact .inr ⟨l', by simp [h], e⟩
    · rintro (h | ⟨l', h, e⟩)
      · exact .inl (.inr h)
      · rcases List.mem_cons.1 h with rfl | h
        · exact .inl (.inl e.symm)
        · exact .inr ⟨l', h, e⟩
theorem mem_varsOf (x : Int) (L : List Int) : x ∈ varsOf L ↔ ∃ l ∈ L, ofI l = x := by
  rw [varsOf, mem_varsOf_aux]; simp
theorem varsOf_lt_aux : ∀ (L acc : List Int), acc.Pairwise (· < ·) → (L.foldl (fun acc l => insV (ofI l) acc) acc).Pairwise (· < ·)
  | [], _, h => h
  | l :: L, acc, h => varsOf_lt_aux L _ (insV_lt _ _ h)
theorem varsOf_lt (L : List Int) : (varsOf L).Pairwise (· < ·) := varsOf_lt_aux L [] List.Pairwise.nil
theorem insV_length (v : Int) : ∀ l : List Int, (insV v l).length ≤ l.length + 1
  | [] => by simp [insV]
  | y :: l => by
    unfold insV
    split
    · simp
    · split
      · simp
      · have := insV_length v l; simp; omega
theorem varsOf_length_aux : ∀ (L acc : List Int), (L.foldl (fun acc l => insV (ofI l) acc) acc).length ≤ acc.length + L.length
  | [], _ => by simp
  | l :: L, acc => by
    have h1 := varsOf_length_aux L (insV (ofI l) acc)
    have h2 := insV_length (ofI l) acc
    simp only [List.foldl_cons, List.length_cons]; omega
theorem varsOf_length (L : List Int) : (varsOf L).length ≤ L.length := by have := varsOf_length_aux L []; simpa [varsOf] using this
theorem varsOf_range {L : List Int} (h : okL L) {x : Int} (hx : x ∈ varsOf L) : 1 ≤ x ∧ x ≤ 65536 := by
  obtain ⟨l, hl, rfl⟩ := (mem_varsOf x L).1 hx
  have := h l hl
  unfold ofI; split <;> omega

/-- One variable's turn: the terms so far, and the bound. -/
def nstep (p q : Int → Int) (s : List Int × List Int × Int) (v : Int) : List Int × List Int × Int :=
  if q v < p v then (s.1 ++ [p v - q v], s.2.1 ++ [v], s.2.2 - q v)
  else if p v < q v then (s.1 ++ [q v - p v], s.2.1 ++ [-v], s.2.2 - p v)
  else (s.1, s.2.1, s.2.2 - p v)
def posS (C L : List Int) (v : Int) : Int := dot (fun l => l == v) C L
def negS (C L : List Int) (v : Int) : Int := dot (fun l => l == -v) C L
/-- The terms and the bound before the last cut. -/
def nraw (C L : List Int) (least : Int) : List Int × List Int × Int := (varsOf L).foldl (nstep (posS C L) (negS C L)) ([], [], least)
def sumL (C : List Int) : Int := C.foldr (· + ·) 0
def ncut (s : List Int × List Int × Int) : List Int × List Int × Int :=
  if s.2.2 ≤ 0 then ([], [], 0) else if sumL s.1 < s.2.2 then ([], [], 1) else (s.1.map (fun c => min c s.2.2), s.2.1, s.2.2)
/-- What lin.Norm answers. -/
def lin_Norm.val (C L : List Int) (least : Int) : List Int × List Int × Int :=
  if lin_Check.val C L least 65536 = 0 then ncut (nraw C L least) else ([], [], 0)
def lin_Norm.f (C L : List Int) (least : Int) : Option (List Int × List Int × Int) := if L.length ≤ 1000 then some (lin_Norm.val C L least) else none

theorem dot_true : ∀ (C L : List Int), C.length = L.length → dot (fun _ => true) C L = sumL C
  | [], _, _ => by simp [dot, sumL]
  | a :: C, b :: L, h => by
    have := dot_true C L (by simpa using h)
    simp only [dot, sumL, List.foldr_cons, if_true] at this ⊢
    omega
  | _ :: _, [], h => by simp at h

/-- What is known of the state behind k variables. -/
structure NS (C L : List Int) (least : Int) (k : Nat) (s : List Int × List Int × Int) : Prop where
  len : s.1.length = s.2.1.length
  le : s.1.length ≤ k
  coef : ∀ c ∈ s.1, 1 ≤ c ∧ c ≤ 2251799813685248
  bound : -(1099511627776 + (k : Int) * 1125899906842624) ≤ s.2.2 ∧ s.2.2 ≤ 1099511627776 + (k : Int) * 1125899906842624

theorem posS_bound {C L : List Int} (oc : okC C) (hl : C.length ≤ 1000) (v : Int) : -1125899906842624 ≤ posS C L v ∧ posS C L v ≤ 1125899906842624 := by
  have := dot_bound (fun l => l == v) C L oc
  unfold posS; omega
theorem negS_bound {C L : List Int} (oc : okC C) (hl : C.length ≤ 1000) (v : Int) : -1125899906842624 ≤ negS C L v ∧ negS C L v ≤ 1125899906842624 := by
  have := dot_bound (fun l => l == -v) C L oc
  unfold negS; omega

theorem NS.start (C L : List Int) {least : Int} (h : withinB least = true) : NS C L least 0 ([], [], least) := by
  have : -1099511627776 ≤ least ∧ least ≤ 1099511627776 := by simpa [withinB] using h
  exact ⟨rfl, by simp, by simp, by simp only []; omega⟩
theorem NS.step {C L : List Int} {least : Int} {k : Nat} {s : List Int × List Int × Int} (h : NS C L least k s) (oc : okC C) (hl : C.length ≤ 1000) (v : Int) : NS C L least (k + 1) (nstep (posS C L) (negS C L) s v) := by
  have hp := posS_bound (L := L) oc hl v
  have hq := negS_bound (L := L) oc hl v
  obtain ⟨h1, h2, h3, h4⟩ := h
  unfold nstep
  generalize posS C L v = p at hp ⊢
  generalize negS C L v = q at hq ⊢
  split
  · refine ⟨by simp [h1], by simp; omega, fun c hc => ?_, by simp only []; omega⟩
    rcases List.mem_append.1 hc with hc | hc
    · exact h3 c hc
    · rw [List.mem_singleton.1 hc]; omega
  · split
    · refine ⟨by simp [h1], by simp; omega, fun c hc => ?_, by simp only []; omega⟩
      rcases List.mem_append.1 hc with hc | hc
      · exact h3 c hc
      · rw [List.mem_singleton.1 hc]; omega
    · exact ⟨h1, by simp only []; omega, h3, by simp only []; omega⟩

end Go.Proofs.Ytmcljhjmmipagaa.PL
