/- The reference's Norm tells what lin.Norm tells; the law LinNormSpec. No program in sight. -/
import Derived.Test.YtmcljhjmmipagaaPureB
namespace Go.Proofs.Ytmcljhjmmipagaa.PL
open Go.RowKit Go.Proofs.YtmcljhjmmipagaaW.PrintWords Go.Proofs.YtmcljhjmmipagaaW.PrintLast Go.Proofs.YtmcljhjmmipagaaW.PrintMore
set_option linter.unusedVariables false
set_option linter.unusedSimpArgs false

theorem sumL_snoc (x : Int) : ∀ C : List Int, sumL (C ++ [x]) = sumL C + x
  | [] => by simp [sumL]
  | c :: C => by
    have := sumL_snoc x C
    simp only [sumL, List.cons_append, List.foldr_cons] at this ⊢
    omega
theorem sumL_bound {B : Int} : ∀ C : List Int, (∀ c ∈ C, 0 ≤ c ∧ c ≤ B) → 0 ≤ sumL C ∧ sumL C ≤ C.length * B
  | [], _ => by simp [sumL]
  | c :: C, h => by
    have h1 := sumL_bound C (fun x hx => h x (by simp [hx]))
    have h2 := h c (by simp)
    have e : ((C.length + 1 : Nat) : Int) * B = C.length * B + B := by rw [Int.natCast_add, Int.add_mul]; simp
    simp only [sumL, List.foldr_cons, List.length_cons] at h1 ⊢
    omega

theorem mn_min (a b : Int) : mn a b = min a b := by unfold mn; split <;> omega
theorem norm_l1 (L : List Int) (b : Int) (Cs : List Int) (hb : Cs.length ≤ 1000) : ∀ (m j : Nat), Cs.length - j = m → j ≤ Cs.length → Ev (fun k => chalklineref12_Norm.l1 k (j : Int) (cur (fun c => min c b) Cs j) L b) (Cs.map (fun c => min c b), L, b) := by
  intro m
  induction m with
  | zero =>
    intro j hm hj
    refine Ev.step (Ev.pure _) (fun k => ?_)
    simp only [chalklineref12_Norm.l1]
    have hl := cur_length (fun c => min c b) Cs j
    rw [if_neg (by omega)]
    have : j = Cs.length := by omega
    subst this
    simp [cur]
  | succ m ih =>
    intro j hm hj
    have hjl : j < Cs.length := by omega
    have hl := cur_length (fun c => min c b) Cs j
    have hg : rd (cur (fun c => min c b) Cs j) (j : Int) = rd Cs (j : Int) := by
      have := cur_get (fun c => min c b) hjl
      simp only [rd, Int.toNat_natCast] at this ⊢
      rw [List.getD_eq_getElem?_getD, this]
      rfl
    have hset := cur_set (fun c => min c b) hjl
    refine Ev.step (ih (j + 1) (by omega) (by omega)) (fun k => ?_)
    simp only [chalklineref12_Norm.l1]
    rw [if_pos (by omega), if_pos (by omega), hg, wrap_succ (by omega), Int.toNat_natCast, ← hset, mn_min]

def normG (C L : List Int) (a : Int) (vs C' L' : List Int) (b v : Int) (j : Int) (k : Nat) (bt254 : Int × Int) : Option (List Int × List Int × Int) := (if bt254.1 > bt254.2 then (if C'.length < 17592186044416 then ((some (C' ++ [wrap64 (bt254.1 - bt254.2)] : List Int)).bind fun y256 => (if L'.length < 17592186044416 then ((some (L' ++ [v] : List Int)).bind fun y260 => (if bt254.2 > bt254.1 then (if y256.length < 17592186044416 then (if y260.length < 17592186044416 then (chalklineref12_Norm.l0 k (wrap64 ((wrap64 (sumL C' + (mx bt254.1 bt254.2))) - (mn bt254.1 bt254.2))) vs (wrap64 (j + 1)) C L a (y256 ++ [wrap64 (bt254.2 - bt254.1)]) (y260 ++ [wrap64 (-v)]) (wrap64 (b - (mn bt254.1 bt254.2)))) else (none)) else (none)) else (chalklineref12_Norm.l0 k (wrap64 ((wrap64 (sumL C' + (mx bt254.1 bt254.2))) - (mn bt254.1 bt254.2))) vs (wrap64 (j + 1)) C L a y256 y260 (wrap64 (b - (mn bt254.1 bt254.2)))))) else (none))) else (none)) else (if bt254.2 > bt254.1 then (if C'.length < 17592186044416 then (if L'.length < 17592186044416 then (chalklineref12_Norm.l0 k (wrap64 ((wrap64 (sumL C' + (mx bt254.1 bt254.2))) - (mn bt254.1 bt254.2))) vs (wrap64 (j + 1)) C L a (C' ++ [wrap64 (bt254.2 - bt254.1)]) (L' ++ [wrap64 (-v)]) (wrap64 (b - (mn bt254.1 bt254.2)))) else (none)) else (none)) else (chalklineref12_Norm.l0 k (wrap64 ((wrap64 (sumL C' + (mx bt254.1 bt254.2))) - (mn bt254.1 bt254.2))) vs (wrap64 (j + 1)) C L a C' L' (wrap64 (b - (mn bt254.1 bt254.2))))))
theorem norm_l0 (C L : List Int) (a : Int) (he : C.length = L.length) (hb : L.length ≤ 1000) (oc : okC C) (hw : withinB a = true) (vs : List Int) (hvl : vs.length ≤ 1000) (hv : ∀ v ∈ vs, 1 ≤ v ∧ v ≤ 65536) : ∀ (m j : Nat) (s : List Int × List Int × Int), vs.length - j = m → j ≤ vs.length →
    s = (vs.take j).foldl (nstep (posS C L) (negS C L)) ([], [], a) → Ev (fun k => chalklineref12_Norm.l0 k (sumL s.1) vs (j : Int) C L a s.1 s.2.1 s.2.2) (ncut (vs.foldl (nstep (posS C L) (negS C L)) ([], [], a))) := by
  have hns : ∀ j, j ≤ vs.length → NS C L a j ((vs.take j).foldl (nstep (posS C L) (negS C L)) ([], [], a)) := fun j hj => by
    have := NS.fold oc (by omega) (vs.take j) (NS.start C L hw)
    rwa [Nat.zero_add, List.length_take, Nat.min_eq_left hj] at this
  intro m
  induction m with
  | zero =>
    intro j s hm hj hs
    obtain rfl : j = vs.length := by omega
    have hn := hns vs.length (Nat.le_refl _)
    rw [← hs] at hn
    rw [List.take_of_length_le (Nat.le_refl _)] at hs
    rw [← hs]
    obtain ⟨h1, h2, h3, h4⟩ := hn
    obtain ⟨C', L', b⟩ := s
    simp only [] at h1 h2 h3 h4
    have hl1 := norm_l1 L' b C' (by omega) _ 0 rfl (Nat.zero_le _)
    simp only [cur, List.take_zero, List.map_nil, List.drop_zero, List.nil_append] at hl1
    unfold ncut
    simp only []
    by_cases c1 : b ≤ 0
    · rw [if_pos c1]
      refine Ev.step (Ev.pure _) (fun k => ?_)
      simp only [chalklineref12_Norm.l0]
      rw [if_neg (by omega), if_pos c1]
    · rw [if_neg c1]
      by_cases c2 : sumL C' < b
      · rw [if_pos c2]
        refine Ev.step (Ev.pure _) (fun k => ?_)
        simp only [chalklineref12_Norm.l0]
        rw [if_neg (by omega), if_neg c1, if_pos c2]
      · rw [if_neg c2]
        refine Ev.step hl1 (fun k => ?_)
        simp only [chalklineref12_Norm.l0]
        rw [if_neg (by omega), if_neg c1, if_neg c2]
        rfl
  | succ m ih =>
    intro j s hm hj hs
    have hjl : j < vs.length := by omega
    have hn := hns j (by omega)
    rw [← hs] at hn
    have hvj := hv _ (rd_mem hjl)
    have ht := take_rd hjl
    have hp := posS_bound (L := L) oc (by omega) (rd vs (j : Int))
    have hq := negS_bound (L := L) oc (by omega) (rd vs (j : Int))
    have hboth := both_ev C L a (rd vs (j : Int)) he hb oc hvj
    have hnext := ih (j + 1) (nstep (posS C L) (negS C L) s (rd vs (j : Int))) (by omega) (by omega) (by rw [ht, List.foldl_append, ← hs]; rfl)
    clear ih
    generalize hr : ncut (vs.foldl (nstep (posS C L) (negS C L)) ([], [], a)) = r at hnext ⊢
    unfold nstep at hnext
    clear hr hs ht hns
    generalize posS C L (rd vs (j : Int)) = p at hp hboth hnext
    generalize negS C L (rd vs (j : Int)) = q at hq hboth hnext
    generalize hvv : rd vs (j : Int) = v at hvj hboth hnext
    obtain ⟨h1, h2, h3, h4⟩ := hn
    obtain ⟨C', L', b⟩ := s
    simp only [] at h1 h2 h3 h4 hnext
    have hsb := sumL_bound (B := 2251799813685248) C' (fun c hc => by have := h3 c hc; omega)
    have hmx : mx p q = if p < q then q else p := rfl
    have hmn : mn p q = if q < p then q else p := rfl
    have hwv : wrap64 (-v) = -v := wrap_id (by omega) (by omega)
    have hstep : Ev (fun k => normG C L a vs C' L' b v (j : Int) k (p, q)) r := by
      unfold normG
      simp only []
      rcases Int.lt_trichotomy p q with c | c | c
      · rw [if_neg (by omega), if_pos c, sumL_snoc] at hnext
        have e1 : wrap64 (wrap64 (sumL C' + mx p q) - mn p q) = sumL C' + (q - p) := by rw [hmx, hmn, if_pos c, if_neg (by omega), wrap_id (x := sumL C' + q) (by omega) (by omega), wrap_id (by omega) (by omega)]; omega
        have e2 : wrap64 (b - mn p q) = b - p := by rw [hmn, if_neg (by omega), wrap_id (by omega) (by omega)]
        have e3 : wrap64 (q - p) = q - p := wrap_id (by omega) (by omega)
        refine hnext.congr (fun k => ?_)
        rw [if_neg (by omega), if_pos c, if_pos (by omega), if_pos (by omega), e1, e2, e3, hwv, wrap_succ (by omega)]
      · subst c
        rw [if_neg (by omega), if_neg (by omega)] at hnext
        have e1 : wrap64 (wrap64 (sumL C' + mx p p) - mn p p) = sumL C' := by rw [hmx, hmn, if_neg (by omega), wrap_id (x := sumL C' + p) (by omega) (by omega), wrap_id (by omega) (by omega)]; omega
        have e2 : wrap64 (b - mn p p) = b - p := by rw [hmn, if_neg (by omega), wrap_id (by omega) (by omega)]
        refine hnext.congr (fun k => ?_)
        rw [if_neg (by omega), if_neg (by omega), e1, e2, wrap_succ (by omega)]
      · rw [if_pos c, sumL_snoc] at hnext
        have e1 : wrap64 (wrap64 (sumL C' + mx p q) - mn p q) = sumL C' + (p - q) := by rw [hmx, hmn, if_neg (by omega), if_pos c, wrap_id (x := sumL C' + p) (by omega) (by omega), wrap_id (by omega) (by omega)]; omega
        have e2 : wrap64 (b - mn p q) = b - q := by rw [hmn, if_pos c, wrap_id (by omega) (by omega)]
        have e3 : wrap64 (p - q) = p - q := wrap_id (by omega) (by omega)
        refine hnext.congr (fun k => ?_)
        rw [if_pos c, if_pos (by omega), Option.bind_some, if_pos (by omega), Option.bind_some, if_neg (by omega), e1, e2, e3, wrap_succ (by omega)]
    refine Ev.step (Ev.bind (G := normG C L a vs C' L' b v (j : Int)) hboth hstep) (fun k => ?_)
    simp only [chalklineref12_Norm.l0]
    rw [if_pos (by omega), if_pos (by omega), hvv]
    rfl

theorem refNorm_ev (C L : List Int) (a : Int) (hb : L.length ≤ 1000) : Ev (fun k => chalklineref12_Norm.f k C L a) (lin_Norm.val C L a) := by
  unfold chalklineref12_Norm.f
  refine (refCheck_ev C L a 65536 (by omega)).bind ?_
  unfold lin_Norm.val
  by_cases h : lin_Check.val C L a 65536 = 0
  · simp only [if_pos h]
    obtain ⟨hlen, hw, oc, ol, hm⟩ := val_zero h
    refine (vars_ev C L a (fun l hl => by have := ol l hl; omega) hb).bind ?_
    have := norm_l0 C L a hlen hb oc hw (varsOf L) (by have := varsOf_length L; omega) (fun v hv => varsOf_range ol hv) _ 0 ([], [], a) rfl (Nat.zero_le _) rfl
    exact this
  · simp only [if_neg h]
    exact Ev.pure _

end Go.Proofs.Ytmcljhjmmipagaa.PL
