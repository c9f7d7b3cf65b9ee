/- The law LinForceComplete: Force and the enumeration tell the same. -/
import Derived.Test.YtmcljhjmmipagaaPureFc
import Derived.Test.YtmcljhjmmipagaaOpenG
namespace Go.Proofs.Ytmcljhjmmipagaa.PL
open Go.RowKit Go.Proofs.YtmcljhjmmipagaaW.PrintWords Go.Proofs.YtmcljhjmmipagaaW.PrintLast Go.Proofs.YtmcljhjmmipagaaW.PrintMore
set_option linter.unusedVariables false
set_option linter.unusedSimpArgs false

theorem lits_any {t : Int → Bool} (ht : Lits t) {l : Int} (h : l ≠ 0) : t (-l) = !t l := by
  by_cases c : 0 < l
  · exact ht l c
  · have := ht (-l) (by omega)
    rw [Int.neg_neg] at this
    rw [this, Bool.not_not]
theorem dot_mono {t u : Int → Bool} : ∀ (D M : List Int), (∀ c ∈ D, 0 ≤ c) → (∀ l ∈ M, t l = true → u l = true) → dot t D M ≤ dot u D M
  | [], _, _, _ => by simp [dot]
  | _ :: _, [], _, _ => by simp [dot]
  | c :: D, l :: M, h, hu => by
    have h1 := dot_mono D M (fun x hx => h x (by simp [hx])) (fun x hx => hu x (by simp [hx]))
    have h2 := h c (by simp)
    have h3 := hu l (by simp)
    simp only [dot]
    by_cases e : t l = true
    · rw [if_pos e, if_pos (h3 e)]; omega
    · rw [if_neg e]; split <;> omega
theorem dot_split {u : Int → Bool} {x : Int} (hx : u x = true) : ∀ D M : List Int, dot u D M = dot (fun l => u l && !(l == x)) D M + dot (fun l => l == x) D M
  | [], _ => by simp [dot]
  | _ :: _, [] => by simp [dot]
  | c :: D, l :: M => by
    have := dot_split hx D M
    simp only [dot]
    by_cases e : l = x
    · subst e; simp [hx]; omega
    · have e2 : (l == x) = false := beq_eq_false_iff_ne.2 e
      simp only [e2, Bool.not_false, Bool.and_true, Bool.false_eq_true, if_false]
      omega
theorem spare_dot {ls : List Int} (hr : ∀ l ∈ ls, -9223372036854775808 ≤ l ∧ l ≤ 9223372036854775807) (ho : oksF ls = true) : ∀ (D M : List Int) (n : Int), D.length = M.length → (∀ l ∈ M, l ≠ 0) → (D.zip M).foldl (fun n p => spareS ls n p.1 p.2) n = n + dot (fun l => decide (-l ∉ ls)) D M
  | [], [], n, _, _ => by simp [dot]
  | [], _ :: _, _, h, _ => by simp at h
  | _ :: _, [], _, h, _ => by simp at h
  | c :: D, l :: M, n, h, h0 => by
    have hl := h0 l (by simp)
    have ha := atF_neg hr ho hl
    simp only [List.zip_cons_cons, List.foldl_cons, dot]
    rw [spare_dot hr ho D M _ (by simpa using h) (fun x hx => h0 x (by simp [hx]))]
    unfold spareS
    by_cases e : -l ∈ ls
    · rw [if_pos (ha.2 e), if_neg (by simp [e])]; omega
    · rw [if_neg (fun h => e (ha.1 h)), if_pos (by simp [e])]; omega
theorem mem_forced (ls : List Int) (sp x : Int) (D M : List Int) : x ∈ forcedF ls D M sp ↔ ∃ (k : Nat) (c : Int), D[k]? = some c ∧ M[k]? = some x ∧ atF ls (ofI x) = 0 ∧ sp < c := by
  unfold forcedF
  simp only [List.mem_map, List.mem_filter, Bool.and_eq_true, beq_iff_eq, decide_eq_true_eq]
  constructor
  · rintro ⟨⟨c, l⟩, ⟨hz, h1, h2⟩, rfl⟩
    obtain ⟨k, hk⟩ := List.mem_iff_getElem?.1 hz
    obtain ⟨e1, e2⟩ := List.getElem?_zip_eq_some.1 hk
    exact ⟨k, c, e1, e2, h1, h2⟩
  · rintro ⟨k, c, e1, e2, h1, h2⟩
    exact ⟨(c, x), ⟨List.mem_iff_getElem?.2 ⟨k, List.getElem?_zip_eq_some.2 ⟨e1, e2⟩⟩, h1, h2⟩, rfl⟩

/-- An assignment out of its truths at the variables. -/
def mkT (g : Int → Bool) : Int → Bool := fun y => if 0 < y then g y else !g (-y)
theorem lits_mkT (g : Int → Bool) : Lits (mkT g) := fun v hv => by
  unfold mkT
  rw [if_neg (by omega), if_pos hv, Int.neg_neg]
def base (ls M : List Int) (v : Int) : Bool := decide (v ∈ ls) || (decide (-v ∉ ls) && decide (v ∈ M))
theorem distinct {M : List Int} (hp : (M.map ofI).Pairwise (· < ·)) {l : Int} (h0 : l ≠ 0) (h : l ∈ M) : -l ∉ M := fun hn => by
  obtain ⟨i, hi, e1⟩ := List.mem_iff_getElem.1 h
  obtain ⟨j, hj, e2⟩ := List.mem_iff_getElem.1 hn
  have hij : i ≠ j := by rintro rfl; omega
  have hlt := List.pairwise_iff_getElem.1 hp
  have o := ofI_neg l
  rcases Nat.lt_or_gt_of_ne hij with hh | hh
  · have := hlt i j (by simpa using hi) (by simpa using hj) hh
    simp only [List.getElem_map, e1, e2, o] at this
    omega
  · have := hlt j i (by simpa using hj) (by simpa using hi) hh
    simp only [List.getElem_map, e1, e2, o] at this
    omega
theorem base_ls {ls M : List Int} (hn : ∀ x ∈ ls, x ≠ 0 ∧ -x ∉ ls) {x : Int} (hx : x ∈ ls) : mkT (base ls M) x = true := by
  have h := hn x hx
  unfold mkT base
  by_cases c : 0 < x
  · rw [if_pos c, decide_eq_true hx]; rfl
  · rw [if_neg c, decide_eq_false h.2, Int.neg_neg]; simp [hx]
theorem base_M {ls M : List Int} (hp : (M.map ofI).Pairwise (· < ·)) (h0 : ∀ l ∈ M, l ≠ 0) {l : Int} (hl : l ∈ M) (hu : -l ∉ ls) : mkT (base ls M) l = true := by
  have hd := distinct hp (h0 l hl) hl
  unfold mkT base
  by_cases c : 0 < l
  · rw [if_pos c]; simp [hu, hl]
  · rw [if_neg c]; simp [hu, hd]
/-- The base assignment, turned at one open literal, which becomes false. -/
def turned (ls M : List Int) (x v : Int) : Bool := if v = ofI x then decide (x < 0) else base ls M v
theorem turned_x (ls M : List Int) {x : Int} (h : x ≠ 0) : mkT (turned ls M x) x = false := by
  unfold mkT
  by_cases c : 0 < x
  · rw [if_pos c]
    unfold turned
    rw [if_pos (ofI_pos c).1.symm]
    exact decide_eq_false (by omega)
  · rw [if_neg c]
    unfold turned
    rw [if_pos (by unfold ofI; rw [if_pos (by omega)]), decide_eq_true (by omega)]
    rfl
theorem turned_other (ls M : List Int) {x y : Int} (h : y ≠ x) (h2 : y ≠ -x) : mkT (turned ls M x) y = mkT (base ls M) y := by
  unfold mkT turned
  by_cases c : 0 < y
  · rw [if_pos c, if_pos c, if_neg (by unfold ofI; split <;> omega)]
  · rw [if_neg c, if_neg c, if_neg (by unfold ofI; split <;> omega)]

theorem strict_length : ∀ (xs : List Int) (lo hi : Int), xs.Pairwise (· < ·) → (∀ x ∈ xs, lo ≤ x ∧ x ≤ hi) → lo ≤ hi + 1 → (xs.length : Int) ≤ hi - lo + 1
  | [], lo, hi, _, _, h => by simp; omega
  | x :: xs, lo, hi, hp, hb, h => by
    obtain ⟨h1, h2⟩ := List.pairwise_cons.1 hp
    have hx := hb x (by simp)
    have := strict_length xs (x + 1) hi h2 (fun y hy => ⟨by have := h1 y hy; omega, (hb y (by simp [hy])).2⟩) (by omega)
    simp only [List.length_cons]
    omega

/-- Where an assignment counts. -/
def admB (ls C L : List Int) (a : Int) (j : Nat) : Bool := ls.all (tB (j : Int)) && decide (a ≤ dot (tB (j : Int)) C L)

section
variable {C L : List Int} {a : Int} {ls : List Int}
theorem adm_iff (hv2 : lin_Check.val C L a 65536 = 0) (hl : L.length ≤ 1000) {j : Nat} : admB ls C L a j = true ↔ (∀ x ∈ ls, tB (j : Int) x = true) ∧ (lin_Norm.val C L a).2.2 ≤ dot (tB (j : Int)) (lin_Norm.val C L a).1 (lin_Norm.val C L a).2.1 := by
  unfold admB
  rw [Bool.and_eq_true, List.all_eq_true, decide_eq_true_eq, norm_holds (lits_tB (j : Int)) hv2 hl]
/-- An assignment that makes the literals true and the canonical form hold is among the bits. -/
theorem adm_of (hv2 : lin_Check.val C L a 65536 = 0) (hl : L.length ≤ 1000) (hxl : ∀ l ∈ (lin_Norm.val C L a).2.1, -8 ≤ l ∧ l ≤ 8 ∧ l ≠ 0) (hls : ∀ l ∈ ls, l ≠ 0 ∧ -8 ≤ l ∧ l ≤ 8) {t : Int → Bool} (ht : Lits t) (h1 : ∀ x ∈ ls, t x = true) (h2 : (lin_Norm.val C L a).2.2 ≤ dot t (lin_Norm.val C L a).1 (lin_Norm.val C L a).2.1) :
    ∃ j : Nat, j < 256 ∧ admB ls C L a j = true ∧ ∀ x : Int, x ≠ 0 → -8 ≤ x → x ≤ 8 → tB (j : Int) x = t x := by
  obtain ⟨j, hj, he⟩ := realize ht
  refine ⟨j, hj, (adm_iff hv2 hl).2 ⟨fun x hx => ?_, ?_⟩, he⟩
  · have := hls x hx
    rw [he x this.1 this.2.1 this.2.2]
    exact h1 x hx
  · rw [dot_congr (u := t) _ _ (fun l hl => by have := hxl l hl; exact he l this.2.2 this.1 this.2.1)]
    exact h2
end

theorem fc_pure {C L : List Int} {a : Int} {ls : List Int} (hl : L.length ≤ 60) (hv : lin_Check.val C L a 8 = 0) (hlen8 : ls.length ≤ 8) (hr : ∀ l ∈ ls, -9223372036854775808 ≤ l ∧ l ≤ 9223372036854775807) (hu : u8 ls 0 = true) :
    ∃ fs ok, lin_Force.f C L a ls = some (fs, ok) ∧ FcP C L a ls fs ok (admB ls C L a) := by
  obtain ⟨hv2, hL⟩ := val_small (by omega) (by omega) hv
  obtain ⟨hlen, hw, oc, ol, hm⟩ := val_zero hv2
  have hl' : L.length ≤ 1000 := by omega
  have hR : NormR (lin_Norm.val C L a) := norm_range hl'
  have hxl := norm_lits (C := C) (least := a) hL
  have hls := u8_mem hu
  have ho := u8_oks hu
  have hneg : ∀ x ∈ ls, x ≠ 0 ∧ -x ∉ ls := fun x hx => ⟨(hls x hx).1, oks_neg hr ho hx⟩
  have hp : ((lin_Norm.val C L a).2.1.map ofI).Pairwise (· < ·) := by
    rcases norm_shape (C := C) (least := a) hl' with e | e | ⟨_, _, h⟩
    · rw [e]; exact List.Pairwise.nil
    · rw [e]; exact List.Pairwise.nil
    · exact h
  have h0 : ∀ l ∈ (lin_Norm.val C L a).2.1, l ≠ 0 := fun l hl => (hxl l hl).2.2
  have hadm := fun j => adm_iff (ls := ls) (j := j) hv2 hl'
  have hof := fun t (ht : Lits t) => adm_of (ls := ls) hv2 hl' hxl hls ht
  have hf : lin_Force.f C L a ls = some (lin_Force.val C L a ls) := by unfold lin_Force.f; rw [if_pos ⟨hl', by omega, hr⟩]
  have hsp : spareF ls (lin_Norm.val C L a).1 (lin_Norm.val C L a).2.1 (lin_Norm.val C L a).2.2 = dot (fun l => decide (-l ∉ ls)) (lin_Norm.val C L a).1 (lin_Norm.val C L a).2.1 - (lin_Norm.val C L a).2.2 := by
    unfold spareF
    rw [spare_dot hr ho _ _ _ hR.len h0]
    omega
  have hval : lin_Force.val C L a ls = if spareF ls (lin_Norm.val C L a).1 (lin_Norm.val C L a).2.1 (lin_Norm.val C L a).2.2 < 0 then ([], false) else (forcedF ls (lin_Norm.val C L a).1 (lin_Norm.val C L a).2.1 (spareF ls (lin_Norm.val C L a).1 (lin_Norm.val C L a).2.1 (lin_Norm.val C L a).2.2), true) := by
    unfold lin_Force.val
    rw [if_pos hv2, if_pos ho]
  rw [hf, hval, hsp]
  have hsteps : ∀ j : Nat, j < 256 → ∃ k b1 b2, chalklinelaw12_agrees.f k ls (j : Int) = some b1 ∧ chalklinelaw12_holds.f k C L a (j : Int) = some b2 ∧ admB ls C L a j = (b1 && b2) := fun j hj => by
    obtain ⟨k1, e1⟩ := agrees_ev ls (j : Int) (by omega) hls
    obtain ⟨k2, e2⟩ := holds_ev C L a (j : Int) hlen (by omega) (fun c hc => by have := oc c hc; omega) (fun l hl => by have := hL l hl; omega)
    exact ⟨max k1 k2, _, _, e1 _ (by omega), e2 _ (by omega), rfl⟩
  -- no assignment reaches more than the spare sum
  have hle : ∀ t, Lits t → (∀ x ∈ ls, t x = true) → ∀ l ∈ (lin_Norm.val C L a).2.1, t l = true → decide (-l ∉ ls) = true := fun t ht h1 l hlM htl => by
    refine decide_eq_true (fun hn => ?_)
    have e1 := h1 _ hn
    rw [lits_any ht (h0 l hlM), htl] at e1
    cases e1
  have hc0 : ∀ c ∈ (lin_Norm.val C L a).1, 0 ≤ c := fun c hc => by have := hR.coef c hc; omega
  have hcoef := hR.coef
  have hlenR := hR.len
  generalize lin_Norm.val C L a = X at *
  obtain ⟨D, M, b⟩ := X
  dsimp only at *
  by_cases hs : dot (fun l => decide (-l ∉ ls)) D M - b < 0
  · rw [if_pos hs]
    refine ⟨[], false, rfl, hsteps, ?_, fun _ => rfl, fun e => (by cases e), fun e => (by cases e)⟩
    refine (Bool.eq_false_iff.2 (fun e => ?_)).symm
    obtain ⟨j, _, hj⟩ := List.any_eq_true.1 e
    obtain ⟨h1, h2⟩ := (hadm j).1 hj
    have := dot_mono D M hc0 (hle _ (lits_tB (j : Int)) h1)
    omega
  · rw [if_neg hs]
    refine ⟨_, true, rfl, hsteps, ?_, fun e => (by cases e), fun _ => ?_, fun _ => ?_⟩
    · refine Eq.symm (List.any_eq_true.2 ?_)
      obtain ⟨j, hj, ha, _⟩ := hof _ (lits_mkT (base ls M)) (fun x hx => base_ls hneg hx) (by
        have := dot_mono (t := fun l => decide (-l ∉ ls)) (u := mkT (base ls M)) D M hc0 (fun l hlM hu => base_M hp h0 hlM (of_decide_eq_true hu))
        omega)
      exact ⟨j, List.mem_range.2 hj, ha⟩
    · -- each literal: forced just where it is open and true under all
      have key : ∀ x : Int, x ≠ 0 → -8 ≤ x → x ≤ 8 → (x ∈ forcedF ls D M (dot (fun l => decide (-l ∉ ls)) D M - b) ↔ (x ∉ ls ∧ -x ∉ ls) ∧ ∀ j : Nat, j < 256 → admB ls C L a j = true → tB (j : Int) x = true) := fun x hx0 hx1 hx2 => by
        rw [mem_forced]
        constructor
        · rintro ⟨k, c, hc, hM, hat, hlt⟩
          have hxM := List.mem_of_getElem? hM
          have hopen := (atF_zero hr ho hx0).1 hat
          refine ⟨hopen, fun j hj hja => ?_⟩
          obtain ⟨h1, h2⟩ := (hadm j).1 hja
          cases htx : tB (j : Int) x with
          | true => rfl
          | false =>
            have hsp := dot_split (u := fun l => decide (-l ∉ ls)) (x := x) (decide_eq_true hopen.2) D M
            have hone := dot_one D M k x c x hp hc hM rfl
            rw [if_pos rfl] at hone
            rw [hone] at hsp
            have := dot_mono (t := tB (j : Int)) (u := fun l => decide (-l ∉ ls) && !(l == x)) D M hc0 (fun l hlM htl => by
              have e1 := hle _ (lits_tB (j : Int)) h1 l hlM htl
              have e2 : (l == x) = false := beq_eq_false_iff_ne.2 (fun e => by rw [e, htx] at htl; cases htl)
              show (decide (-l ∉ ls) && !(l == x)) = true
              rw [e1, e2]; rfl)
            omega
        · rintro ⟨hopen, hall⟩
          have hat := (atF_zero hr ho hx0).2 hopen
          -- the base assignment turned at x would count
          have hno : ¬ b ≤ dot (mkT (turned ls M x)) D M := fun hb => by
            obtain ⟨j, hj, ha, he⟩ := hof _ (lits_mkT (turned ls M x)) (fun y hy => by
              rw [turned_other ls M (fun e => hopen.1 (by rw [← e]; exact hy)) (fun e => hopen.2 (by rw [← e]; exact hy))]
              exact base_ls hneg hy) hb
            have := hall j hj ha
            rw [he x hx0 hx1 hx2, turned_x ls M hx0] at this
            cases this
          have hmono := dot_mono (t := fun l => decide (-l ∉ ls) && !(l == x)) (u := mkT (turned ls M x)) D M hc0 (fun l hlM hu => by
            simp only [Bool.and_eq_true, decide_eq_true_eq, Bool.not_eq_true', beq_eq_false_iff_ne] at hu
            by_cases e : l = -x
            · rw [e, lits_any (lits_mkT _) hx0, turned_x ls M hx0]; rfl
            · rw [turned_other ls M hu.2 e]
              exact base_M hp h0 hlM hu.1)
          have hsp := dot_split (u := fun l => decide (-l ∉ ls)) (x := x) (decide_eq_true hopen.2) D M
          by_cases hxM : x ∈ M
          · obtain ⟨k, hk, e⟩ := List.mem_iff_getElem.1 hxM
            have hkD : k < D.length := by omega
            have hM : M[k]? = some x := by rw [List.getElem?_eq_getElem hk, e]
            have hD : D[k]? = some D[k] := List.getElem?_eq_getElem hkD
            have hone := dot_one D M k x D[k] x hp hD hM rfl
            rw [if_pos rfl] at hone
            exact ⟨k, D[k], hD, hM, hat, by omega⟩
          · have hz := dot_none (fun l => l == x) D M (fun l hlM => beq_eq_false_iff_ne.2 (fun e => hxM (e ▸ hlM)))
            omega
      intro v hv1 hv8
      obtain ⟨k1, e1⟩ := hasB_ev ls (v : Int) (by omega)
      obtain ⟨k2, e2⟩ := hasB_ev ls (-(v : Int)) (by omega)
      have hfl := forcedF_length ls D M (dot (fun l => decide (-l ∉ ls)) D M - b)
      obtain ⟨k3, e3⟩ := hasB_ev (forcedF ls D M (dot (fun l => decide (-l ∉ ls)) D M - b)) (v : Int) (by have := hR.le; dsimp only at this; omega)
      obtain ⟨k4, e4⟩ := hasB_ev (forcedF ls D M (dot (fun l => decide (-l ∉ ls)) D M - b)) (-(v : Int)) (by have := hR.le; dsimp only at this; omega)
      refine ⟨max (max k1 k2) (max k3 k4), _, _, _, _, e1 _ (by omega), e2 _ (by omega), e3 _ (by omega), e4 _ (by omega), ?_, ?_⟩
      · rw [marksAll_up _ hv1 hv8 256, Bool.eq_iff_iff]
        simp only [decide_eq_true_eq, Bool.and_eq_true, Bool.not_eq_true', decide_eq_false_iff_not, List.all_eq_true, List.mem_range, Bool.or_eq_true]
        rw [key (v : Int) (by omega) (by omega) (by omega)]
        refine and_congr Iff.rfl (forall_congr' fun j => forall_congr' fun hj => ?_)
        rw [bitB_tB hv1]
        cases admB ls C L a j <;> simp
      · rw [marksAll_down _ hv1 hv8 256, Bool.eq_iff_iff]
        simp only [decide_eq_true_eq, Bool.and_eq_true, Bool.not_eq_true', decide_eq_false_iff_not, List.all_eq_true, List.mem_range, Bool.or_eq_true]
        rw [key (-(v : Int)) (by omega) (by omega) (by omega), Int.neg_neg]
        refine and_congr and_comm (forall_congr' fun j => forall_congr' fun hj => ?_)
        rw [bitB_tB hv1, lits_any (lits_tB (j : Int)) (show (v : Int) ≠ 0 by omega)]
        cases admB ls C L a j <;> simp
    · have h1 := forcedF_length ls D M (dot (fun l => decide (-l ∉ ls)) D M - b)
      have h2 := strict_length (M.map ofI) 1 8 hp (fun y hy => by
        obtain ⟨l, hlM, rfl⟩ := List.mem_map.1 hy
        have := hxl l hlM
        unfold ofI
        split <;> omega) (by omega)
      rw [List.length_map] at h2
      omega

set_option maxRecDepth 100000 in
set_option maxHeartbeats 4000000 in
theorem fc_e1 (A0 : Option Addr) (c0 : Nat) (C : List Int) (A1 : Option Addr) (c1 : Nat) (L : List Int) (a : Int) (A2 : Option Addr) (c2 : Nat) (ls : List Int) (w : World) (h : Rw w A0 c0 C A1 c1 L) (ht : Kd.C (Kd.int .i64) w A2 ls.length ls) (htc : ls.length ≤ c2) (ku : Nat) (u : Bool) (hu : chalklineref12_Unlike.f ku ls 8 = some u) (hf : chalklinelaw12_few.f C L a = some false) :
    Calls Try.prog 10 #[.agg #[.slice A0 C.length c0, .slice A1 L.length c1, .int .i64 a], .slice A2 ls.length c2] w fun e w' => e = .returned (.bool true) ∧ Below w.heap.size w w' := by
  have hu24 := Try.underlying24
  have H0 : Hid (Below w.heap.size w (w.alloc (.cells #[.slice A0 C.length c0, .slice A1 L.length c1, .int .i64 a] 24)) ∧ Bx (w.alloc (.cells #[.slice A0 C.length c0, .slice A1 L.length c1, .int .i64 a] 24)) (w.heap.size) A0 c0 C A1 c1 L a ∧ True) := Lib.hid ⟨below_alloc1 w _, Bx.new h a, trivial⟩
  have HT := Lib.hid (And.intro ht htc)
  clear h ht htc
  go_enter Try.func10, Try.ntmps10
  go_wp2_with fail
  refine (chalklinelaw12_live.calls true _ rfl).mono ?_
  rintro e w1 ⟨rfl, hb⟩
  have H1 := Lib.hid (And.intro (below_step H0.out.1 hb) (And.intro (H0.out.2.1.below hb) (trivial)))
  clear H0 hb
  go_wp2_with fail
  refine (chalklineref12_Unlike.calls ku A2 c2 ls 8 u w1 (Kd.C_below HT.out.1 H1.out.1) HT.out.2 hu).mono ?_
  rintro e w2 ⟨rfl, hb⟩
  have H2 := Lib.hid (And.intro (below_step H1.out.1 hb) (And.intro (H1.out.2.1.below hb) (trivial)))
  clear H1 hb
  have q0 := H2.out.2.1.q0
  have q1 := H2.out.2.1.q1
  have q2 := H2.out.2.1.q2
  go_wp2_with fail
  refine (chalklinelaw12_few.calls A0 c0 C A1 c1 L a false w2 H2.out.2.1.rw.rC H2.out.2.1.rw.lC H2.out.2.1.rw.rL H2.out.2.1.rw.lL hf).mono ?_
  rintro e w3 ⟨rfl, hb⟩
  clear q0 q1 q2
  have H3 := Lib.hid (And.intro (below_step H2.out.1 hb) (And.intro (H2.out.2.1.below hb) (trivial)))
  clear H2 hb
  go_wp2
  go_ret
  exact ⟨rfl, H3.out.1⟩

set_option maxRecDepth 100000 in
set_option maxHeartbeats 4000000 in
theorem fc_e2 (A0 : Option Addr) (c0 : Nat) (C : List Int) (A1 : Option Addr) (c1 : Nat) (L : List Int) (a : Int) (A2 : Option Addr) (c2 : Nat) (ls : List Int) (w : World) (h : Rw w A0 c0 C A1 c1 L) (ht : Kd.C (Kd.int .i64) w A2 ls.length ls) (htc : ls.length ≤ c2) (ku : Nat) (u : Bool) (hu : chalklineref12_Unlike.f ku ls 8 = some u) (hf : chalklinelaw12_few.f C L a = some true) (hl : 8 < ls.length) :
    Calls Try.prog 10 #[.agg #[.slice A0 C.length c0, .slice A1 L.length c1, .int .i64 a], .slice A2 ls.length c2] w fun e w' => e = .returned (.bool true) ∧ Below w.heap.size w w' := by
  have hu24 := Try.underlying24
  have H0 : Hid (Below w.heap.size w (w.alloc (.cells #[.slice A0 C.length c0, .slice A1 L.length c1, .int .i64 a] 24)) ∧ Bx (w.alloc (.cells #[.slice A0 C.length c0, .slice A1 L.length c1, .int .i64 a] 24)) (w.heap.size) A0 c0 C A1 c1 L a ∧ True) := Lib.hid ⟨below_alloc1 w _, Bx.new h a, trivial⟩
  have HT := Lib.hid (And.intro ht htc)
  clear h ht htc
  go_enter Try.func10, Try.ntmps10
  go_wp2_with fail
  refine (chalklinelaw12_live.calls true _ rfl).mono ?_
  rintro e w1 ⟨rfl, hb⟩
  have H1 := Lib.hid (And.intro (below_step H0.out.1 hb) (And.intro (H0.out.2.1.below hb) (trivial)))
  clear H0 hb
  go_wp2_with fail
  refine (chalklineref12_Unlike.calls ku A2 c2 ls 8 u w1 (Kd.C_below HT.out.1 H1.out.1) HT.out.2 hu).mono ?_
  rintro e w2 ⟨rfl, hb⟩
  have H2 := Lib.hid (And.intro (below_step H1.out.1 hb) (And.intro (H1.out.2.1.below hb) (trivial)))
  clear H1 hb
  have q0 := H2.out.2.1.q0
  have q1 := H2.out.2.1.q1
  have q2 := H2.out.2.1.q2
  go_wp2_with fail
  refine (chalklinelaw12_few.calls A0 c0 C A1 c1 L a true w2 H2.out.2.1.rw.rC H2.out.2.1.rw.lC H2.out.2.1.rw.rL H2.out.2.1.rw.lL hf).mono ?_
  rintro e w3 ⟨rfl, hb⟩
  clear q0 q1 q2
  have H3 := Lib.hid (And.intro (below_step H2.out.1 hb) (And.intro (H2.out.2.1.below hb) (trivial)))
  clear H2 hb
  have t1 : decide (8 < (ls.length : Int)) = true := decide_eq_true (by omega)
  have t2 : decide (8 < ls.length) = true := decide_eq_true hl
  clear hl
  go_wp2
  go_ret
  exact ⟨rfl, H3.out.1⟩

set_option maxRecDepth 100000 in
set_option maxHeartbeats 4000000 in
theorem fc_e3 (A0 : Option Addr) (c0 : Nat) (C : List Int) (A1 : Option Addr) (c1 : Nat) (L : List Int) (a : Int) (A2 : Option Addr) (c2 : Nat) (ls : List Int) (w : World) (h : Rw w A0 c0 C A1 c1 L) (ht : Kd.C (Kd.int .i64) w A2 ls.length ls) (htc : ls.length ≤ c2) (ku : Nat) (hu : chalklineref12_Unlike.f ku ls 8 = some false) (hf : chalklinelaw12_few.f C L a = some true) (hl : ls.length ≤ 8) :
    Calls Try.prog 10 #[.agg #[.slice A0 C.length c0, .slice A1 L.length c1, .int .i64 a], .slice A2 ls.length c2] w fun e w' => e = .returned (.bool true) ∧ Below w.heap.size w w' := by
  have hu24 := Try.underlying24
  have H0 : Hid (Below w.heap.size w (w.alloc (.cells #[.slice A0 C.length c0, .slice A1 L.length c1, .int .i64 a] 24)) ∧ Bx (w.alloc (.cells #[.slice A0 C.length c0, .slice A1 L.length c1, .int .i64 a] 24)) (w.heap.size) A0 c0 C A1 c1 L a ∧ True) := Lib.hid ⟨below_alloc1 w _, Bx.new h a, trivial⟩
  have HT := Lib.hid (And.intro ht htc)
  clear h ht htc
  go_enter Try.func10, Try.ntmps10
  go_wp2_with fail
  refine (chalklinelaw12_live.calls true _ rfl).mono ?_
  rintro e w1 ⟨rfl, hb⟩
  have H1 := Lib.hid (And.intro (below_step H0.out.1 hb) (And.intro (H0.out.2.1.below hb) (trivial)))
  clear H0 hb
  go_wp2_with fail
  refine (chalklineref12_Unlike.calls ku A2 c2 ls 8 false w1 (Kd.C_below HT.out.1 H1.out.1) HT.out.2 hu).mono ?_
  rintro e w2 ⟨rfl, hb⟩
  have H2 := Lib.hid (And.intro (below_step H1.out.1 hb) (And.intro (H1.out.2.1.below hb) (trivial)))
  clear H1 hb
  have q0 := H2.out.2.1.q0
  have q1 := H2.out.2.1.q1
  have q2 := H2.out.2.1.q2
  go_wp2_with fail
  refine (chalklinelaw12_few.calls A0 c0 C A1 c1 L a true w2 H2.out.2.1.rw.rC H2.out.2.1.rw.lC H2.out.2.1.rw.rL H2.out.2.1.rw.lL hf).mono ?_
  rintro e w3 ⟨rfl, hb⟩
  clear q0 q1 q2
  have H3 := Lib.hid (And.intro (below_step H2.out.1 hb) (And.intro (H2.out.2.1.below hb) (trivial)))
  clear H2 hb
  have t1 : decide (8 < (ls.length : Int)) = false := decide_eq_false (by omega)
  have t2 : decide (8 < ls.length) = false := decide_eq_false (by omega)
  clear hl
  go_wp2
  go_ret
  exact ⟨rfl, H3.out.1⟩

set_option maxRecDepth 100000 in
set_option maxHeartbeats 4000000 in
theorem fc_e41 (A0 : Option Addr) (c0 : Nat) (C : List Int) (A1 : Option Addr) (c1 : Nat) (L : List Int) (a : Int) (A2 : Option Addr) (c2 : Nat) (ls : List Int) (w : World) (h : Rw w A0 c0 C A1 c1 L) (ht : Kd.C (Kd.int .i64) w A2 ls.length ls) (htc : ls.length ≤ c2) (ku : Nat) (hu : chalklineref12_Unlike.f ku ls 8 = some true) (hf : chalklinelaw12_few.f C L a = some true) (hl : ls.length ≤ 8) (hv : lin_Check.val C L a 8 = 1) :
    Calls Try.prog 10 #[.agg #[.slice A0 C.length c0, .slice A1 L.length c1, .int .i64 a], .slice A2 ls.length c2] w fun e w' => e = .returned (.bool true) ∧ Below w.heap.size w w' := by
  have hu24 := Try.underlying24
  have H0 : Hid (Below w.heap.size w (w.alloc (.cells #[.slice A0 C.length c0, .slice A1 L.length c1, .int .i64 a] 24)) ∧ Bx (w.alloc (.cells #[.slice A0 C.length c0, .slice A1 L.length c1, .int .i64 a] 24)) (w.heap.size) A0 c0 C A1 c1 L a ∧ True) := Lib.hid ⟨below_alloc1 w _, Bx.new h a, trivial⟩
  have HT := Lib.hid (And.intro ht htc)
  clear h ht htc
  go_enter Try.func10, Try.ntmps10
  go_wp2_with fail
  refine (chalklinelaw12_live.calls true _ rfl).mono ?_
  rintro e w1 ⟨rfl, hb⟩
  have H1 := Lib.hid (And.intro (below_step H0.out.1 hb) (And.intro (H0.out.2.1.below hb) (trivial)))
  clear H0 hb
  go_wp2_with fail
  refine (chalklineref12_Unlike.calls ku A2 c2 ls 8 true w1 (Kd.C_below HT.out.1 H1.out.1) HT.out.2 hu).mono ?_
  rintro e w2 ⟨rfl, hb⟩
  have H2 := Lib.hid (And.intro (below_step H1.out.1 hb) (And.intro (H1.out.2.1.below hb) (trivial)))
  clear H1 hb
  have q0 := H2.out.2.1.q0
  have q1 := H2.out.2.1.q1
  have q2 := H2.out.2.1.q2
  go_wp2_with fail
  refine (chalklinelaw12_few.calls A0 c0 C A1 c1 L a true w2 H2.out.2.1.rw.rC H2.out.2.1.rw.lC H2.out.2.1.rw.rL H2.out.2.1.rw.lL hf).mono ?_
  rintro e w3 ⟨rfl, hb⟩
  clear q0 q1 q2
  have H3 := Lib.hid (And.intro (below_step H2.out.1 hb) (And.intro (H2.out.2.1.below hb) (trivial)))
  clear H2 hb
  have t1 : decide (8 < (ls.length : Int)) = false := decide_eq_false (by omega)
  have t2 : decide (8 < ls.length) = false := decide_eq_false (by omega)
  clear hl
  have q0 := H3.out.2.1.q0
  have q1 := H3.out.2.1.q1
  have q2 := H3.out.2.1.q2
  go_wp2_with fail
  refine (lin_Check.calls A0 c0 C A1 c1 L a 8 1 w3 H3.out.2.1.rw.rC H3.out.2.1.rw.lC H3.out.2.1.rw.rL H3.out.2.1.rw.lL (by unfold lin_Check.f; rw [hv])).mono ?_
  rintro e w4 ⟨rfl, hb⟩
  clear q0 q1 q2
  have H4 := Lib.hid (And.intro (below_step H3.out.1 hb) (And.intro (H3.out.2.1.below hb) (trivial)))
  clear H3 hb
  go_wp2
  go_ret
  exact ⟨rfl, H4.out.1⟩

set_option maxRecDepth 100000 in
set_option maxHeartbeats 4000000 in
theorem fc_e42 (A0 : Option Addr) (c0 : Nat) (C : List Int) (A1 : Option Addr) (c1 : Nat) (L : List Int) (a : Int) (A2 : Option Addr) (c2 : Nat) (ls : List Int) (w : World) (h : Rw w A0 c0 C A1 c1 L) (ht : Kd.C (Kd.int .i64) w A2 ls.length ls) (htc : ls.length ≤ c2) (ku : Nat) (hu : chalklineref12_Unlike.f ku ls 8 = some true) (hf : chalklinelaw12_few.f C L a = some true) (hl : ls.length ≤ 8) (hv : lin_Check.val C L a 8 = 2) :
    Calls Try.prog 10 #[.agg #[.slice A0 C.length c0, .slice A1 L.length c1, .int .i64 a], .slice A2 ls.length c2] w fun e w' => e = .returned (.bool true) ∧ Below w.heap.size w w' := by
  have hu24 := Try.underlying24
  have H0 : Hid (Below w.heap.size w (w.alloc (.cells #[.slice A0 C.length c0, .slice A1 L.length c1, .int .i64 a] 24)) ∧ Bx (w.alloc (.cells #[.slice A0 C.length c0, .slice A1 L.length c1, .int .i64 a] 24)) (w.heap.size) A0 c0 C A1 c1 L a ∧ True) := Lib.hid ⟨below_alloc1 w _, Bx.new h a, trivial⟩
  have HT := Lib.hid (And.intro ht htc)
  clear h ht htc
  go_enter Try.func10, Try.ntmps10
  go_wp2_with fail
  refine (chalklinelaw12_live.calls true _ rfl).mono ?_
  rintro e w1 ⟨rfl, hb⟩
  have H1 := Lib.hid (And.intro (below_step H0.out.1 hb) (And.intro (H0.out.2.1.below hb) (trivial)))
  clear H0 hb
  go_wp2_with fail
  refine (chalklineref12_Unlike.calls ku A2 c2 ls 8 true w1 (Kd.C_below HT.out.1 H1.out.1) HT.out.2 hu).mono ?_
  rintro e w2 ⟨rfl, hb⟩
  have H2 := Lib.hid (And.intro (below_step H1.out.1 hb) (And.intro (H1.out.2.1.below hb) (trivial)))
  clear H1 hb
  have q0 := H2.out.2.1.q0
  have q1 := H2.out.2.1.q1
  have q2 := H2.out.2.1.q2
  go_wp2_with fail
  refine (chalklinelaw12_few.calls A0 c0 C A1 c1 L a true w2 H2.out.2.1.rw.rC H2.out.2.1.rw.lC H2.out.2.1.rw.rL H2.out.2.1.rw.lL hf).mono ?_
  rintro e w3 ⟨rfl, hb⟩
  clear q0 q1 q2
  have H3 := Lib.hid (And.intro (below_step H2.out.1 hb) (And.intro (H2.out.2.1.below hb) (trivial)))
  clear H2 hb
  have t1 : decide (8 < (ls.length : Int)) = false := decide_eq_false (by omega)
  have t2 : decide (8 < ls.length) = false := decide_eq_false (by omega)
  clear hl
  have q0 := H3.out.2.1.q0
  have q1 := H3.out.2.1.q1
  have q2 := H3.out.2.1.q2
  go_wp2_with fail
  refine (lin_Check.calls A0 c0 C A1 c1 L a 8 2 w3 H3.out.2.1.rw.rC H3.out.2.1.rw.lC H3.out.2.1.rw.rL H3.out.2.1.rw.lL (by unfold lin_Check.f; rw [hv])).mono ?_
  rintro e w4 ⟨rfl, hb⟩
  clear q0 q1 q2
  have H4 := Lib.hid (And.intro (below_step H3.out.1 hb) (And.intro (H3.out.2.1.below hb) (trivial)))
  clear H3 hb
  go_wp2
  go_ret
  exact ⟨rfl, H4.out.1⟩

theorem forceComplete_calls (A0 : Option Addr) (c0 : Nat) (C : List Int) (A1 : Option Addr) (c1 : Nat) (L : List Int) (a : Int) (A2 : Option Addr) (c2 : Nat) (ls : List Int) (w : World) (h0 : Kd.C (Kd.int .i64) w A0 C.length C) (s0 : C.length ≤ c0) (h1 : Kd.C (Kd.int .i64) w A1 L.length L) (s1 : L.length ≤ c1) (h2 : Kd.C (Kd.int .i64) w A2 ls.length ls) (s2 : ls.length ≤ c2) (t0 : ∀ x ∈ C, InI x) (t1 : ∀ x ∈ L, InI x) (t2 : InI a) (t3 : ∀ x ∈ ls, InI x) :
    Calls Try.prog 10 #[.agg #[.slice A0 C.length c0, .slice A1 L.length c1, .int .i64 a], .slice A2 ls.length c2] w fun e w' => e = .returned (.bool true) ∧ Below w.heap.size w w' := by
  obtain ⟨ku, hu⟩ := (unlike8_ev ls h2.2.1).got
  have hf := few_val C L a
  by_cases h : L.length ≤ 60 ∧ C.length ≤ 60
  · rw [decide_eq_true h] at hf
    by_cases hl : ls.length ≤ 8
    · cases hub : u8 ls 0 with
      | false =>
        rw [hub] at hu
        exact fc_e3 A0 c0 C A1 c1 L a A2 c2 ls w ⟨h0, h1, s0, s1⟩ h2 s2 ku hu hf hl
      | true =>
        rw [hub] at hu
        rcases val_cases C L a 8 with hv | hv | hv
        · obtain ⟨fs, ok, hff, hP⟩ := fc_pure h.1 hv hl t3 hub
          exact fc_walk A0 c0 C A1 c1 L a A2 c2 ls w ⟨h0, h1, s0, s1⟩ h2 s2 ku hu hf hl hv fs ok hff _ hP
        · exact fc_e41 A0 c0 C A1 c1 L a A2 c2 ls w ⟨h0, h1, s0, s1⟩ h2 s2 ku hu hf hl hv
        · exact fc_e42 A0 c0 C A1 c1 L a A2 c2 ls w ⟨h0, h1, s0, s1⟩ h2 s2 ku hu hf hl hv
    · exact fc_e2 A0 c0 C A1 c1 L a A2 c2 ls w ⟨h0, h1, s0, s1⟩ h2 s2 ku _ hu hf (by omega)
  · rw [decide_eq_false h] at hf
    exact fc_e1 A0 c0 C A1 c1 L a A2 c2 ls w ⟨h0, h1, s0, s1⟩ h2 s2 ku _ hu hf

end Go.Proofs.Ytmcljhjmmipagaa.PL
