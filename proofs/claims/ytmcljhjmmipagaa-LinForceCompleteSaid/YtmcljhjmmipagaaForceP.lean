/- The map of the literals that lin.Force is given, and what lin.Force answers, as lists. No program in sight. -/
import Derived.Test.YtmcljhjmmipagaaCutG
namespace Go.Proofs.Ytmcljhjmmipagaa.PL
open Go.RowKit Go.Proofs.YtmcljhjmmipagaaW.PrintWords
open Go.Maps (Keyed IsMap has)
set_option linter.unusedVariables false

def intD (a : Int) : DataW Unit := .lit (.int .i64 a)
/-- How an element of the map reads: an int. -/
def intR (v : Value) : Option (DataW Unit × List MemPlace) :=
  match v with
  | .int .i64 a => some (intD a, [])
  | _ => none
theorem intR_mk (a : Int) : intR (.int .i64 a) = some (intD a, []) := rfl
theorem intD_inj {a b : Int} (h : intD a = intD b) : a = b := by simpa [intD] using h
theorem intR_inv {v : Value} {a : Int} {ps : List MemPlace} (h : intR v = some (intD a, ps)) : v = .int .i64 a := by
  unfold intR at h
  split at h
  · simp only [Option.some.injEq, Prod.mk.injEq] at h
    rw [intD_inj h.1]
  · cases h

/-- The literal of a variable, or 0. -/
def atF (ls : List Int) (x : Int) : Int := ls.foldl (fun a l => if ofI l = x then l else a) 0
theorem atF_snoc (ls : List Int) (l x : Int) : atF (ls ++ [l]) x = if ofI l = x then l else atF ls x := by simp [atF, List.foldl_append]

/-- The map's datum: of each variable its literal. -/
def IsF (D : DataW Unit) (ls : List Int) : Prop :=
  IsMap D ∧ (∀ x, has D (.int .i64 x) = ls.any (fun l => ofI l == x)) ∧ ∀ x, D.atKey (.int .i64 x) (intD 0) = intD (atF ls x)
theorem isF_nil : IsF (.map []) [] := ⟨Maps.isMap_empty, fun x => rfl, fun x => rfl⟩
theorem isF_snoc {D : DataW Unit} {ls : List Int} (h : IsF D ls) (l : Int) : IsF (D.put (.int .i64 (ofI l)) (intD l)) (ls ++ [l]) := by
  obtain ⟨h1, h2, h3⟩ := h
  refine ⟨h1.put _ _, fun x => ?_, fun x => ?_⟩
  · rw [List.any_append, ← h2 x]
    by_cases e : ofI l = x
    · subst e
      rw [Maps.has_put_same h1 (isKey _)]
      simp
    · rw [Maps.has_put_other (by simpa using fun e' : x = ofI l => e e'.symm)]
      simp [e]
  · rw [atF_snoc]
    by_cases e : ofI l = x
    · subst e
      rw [Maps.atKey_put_same h1 (isKey _), if_pos rfl]
    · rw [Maps.atKey_put_other (by simpa using fun e' : x = ofI l => e e'.symm), h3 x, if_neg e]

/-- Is lit no literal that may be added to seen? -/
def badF (seen : List Int) (lit : Int) : Bool := seen.any (fun l => ofI l == ofW lit) || (lit == 0 || (decide (lit < -65536) || decide (65536 < ofW lit)))
def oksF (lits : List Int) : Bool := (List.range lits.length).all (fun k => !badF (lits.take k) (rd lits (k : Int)))
/-- One term's turn in the sum of the coefficients that may still come true. -/
def spareS (lits : List Int) (n c l : Int) : Int := if atF lits (ofI l) = -l then n else n + c
def spareF (lits C L : List Int) (least : Int) : Int := (C.zip L).foldl (fun n p => spareS lits n p.1 p.2) (-least)
def forcedF (lits C L : List Int) (spare : Int) : List Int := ((C.zip L).filter (fun p => atF lits (ofI p.2) == 0 && decide (spare < p.1))).map Prod.snd
/-- What lin.Force answers. -/
def lin_Force.val (C L : List Int) (least : Int) (lits : List Int) : List Int × Bool :=
  if lin_Check.val C L least 65536 = 0 then
    (if oksF lits then
      (if spareF lits (lin_Norm.val C L least).1 (lin_Norm.val C L least).2.1 (lin_Norm.val C L least).2.2 < 0 then ([], false)
       else (forcedF lits (lin_Norm.val C L least).1 (lin_Norm.val C L least).2.1 (spareF lits (lin_Norm.val C L least).1 (lin_Norm.val C L least).2.1 (lin_Norm.val C L least).2.2), true))
    else ([], false))
  else ([], false)
def lin_Force.f (C L : List Int) (least : Int) (lits : List Int) : Option (List Int × Bool) := if L.length ≤ 1000 ∧ lits.length ≤ 1000 ∧ ∀ l ∈ lits, -9223372036854775808 ≤ l ∧ l ≤ 9223372036854775807 then some (lin_Force.val C L least lits) else none

theorem spareF_snoc (ls : List Int) {C L : List Int} (hlen : C.length = L.length) (least c l : Int) : spareF ls (C ++ [c]) (L ++ [l]) least = spareS ls (spareF ls C L least) c l := by
  unfold spareF
  rw [List.zip_append hlen, List.foldl_append]
  rfl
theorem spareF_bound_aux (ls : List Int) (B : Int) : ∀ (C L : List Int) (n : Int), (∀ c ∈ C, 0 ≤ c ∧ c ≤ B) → n ≤ (C.zip L).foldl (fun n p => spareS ls n p.1 p.2) n ∧ (C.zip L).foldl (fun n p => spareS ls n p.1 p.2) n ≤ n + C.length * B
  | [], _, n, _ => by simp
  | a :: C, [], n, h => by
    have ha := h a (by simp)
    have h0 : 0 ≤ ((a :: C).length : Int) * B := Int.mul_nonneg (by omega) (by omega)
    simp only [List.zip_nil_right, List.foldl_nil]
    omega
  | a :: C, b :: L, n, h => by
    have ha := h a (by simp)
    have ih := spareF_bound_aux ls B C L (spareS ls n a b) (fun c hc => h c (by simp [hc]))
    have hs : n ≤ spareS ls n a b ∧ spareS ls n a b ≤ n + B := by unfold spareS; split <;> omega
    simp only [List.zip_cons_cons, List.foldl_cons, List.length_cons]
    have e : ((C.length + 1 : Nat) : Int) * B = C.length * B + B := by rw [Int.natCast_add, Int.add_mul]; simp
    omega
theorem spareF_bound (ls : List Int) {B : Int} {C L : List Int} (least : Int) (h : ∀ c ∈ C, 0 ≤ c ∧ c ≤ B) : -least ≤ spareF ls C L least ∧ spareF ls C L least ≤ -least + C.length * B := spareF_bound_aux ls B C L (-least) h
theorem forcedF_snoc (ls : List Int) {C L : List Int} (hlen : C.length = L.length) (spare c l : Int) : forcedF ls (C ++ [c]) (L ++ [l]) spare = if (atF ls (ofI l) == 0 && decide (spare < c)) = true then forcedF ls C L spare ++ [l] else forcedF ls C L spare := by
  unfold forcedF
  rw [List.zip_append hlen, List.filter_append, List.map_append]
  by_cases h : (atF ls (ofI l) == 0 && decide (spare < c)) = true
  · rw [if_pos h]; simp only [List.zip_cons_cons, List.zip_nil_right, List.filter_cons, h, if_true, List.filter_nil, List.map_cons, List.map_nil]
    -- List.filter_cons, h]
  · rw [if_neg h]; simp only [List.zip_cons_cons, List.zip_nil_right, List.filter_cons, if_neg h, List.filter_nil, List.map_nil, List.append_nil]
    -- List.filter_cons, h]
theorem forcedF_length (ls C L : List Int) (spare : Int) : (forcedF ls C L spare).length ≤ C.length := by
  unfold forcedF
  rw [List.length_map]
  refine Nat.le_trans (List.length_filter_le _ _) ?_
  rw [List.length_zip]
  omega

end Go.Proofs.Ytmcljhjmmipagaa.PL
