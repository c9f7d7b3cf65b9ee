/- The reference's Has, Unlike, Force, Ints, Value tell what lin.Force and lin.Value tell. No program in sight. -/
import Derived.Test.YtmcljhjmmipagaaPureC
import Derived.Test.YtmcljhjmmipagaaPLx7
import Derived.Test.YtmcljhjmmipagaaPLx8
import Derived.Test.YtmcljhjmmipagaaPLx9
import Derived.Test.YtmcljhjmmipagaaPLx10
namespace Go.Proofs.Ytmcljhjmmipagaa.PL
open Go.RowKit Go.Proofs.YtmcljhjmmipagaaW.PrintWords Go.Proofs.YtmcljhjmmipagaaW.PrintLast Go.Proofs.YtmcljhjmmipagaaW.PrintMore
set_option linter.unusedVariables false
set_option linter.unusedSimpArgs false

theorem has_l0 (xs : List Int) (a : Int) (hb : xs.length ≤ 1000000) : ∀ (m j : Nat), xs.length - j = m → j ≤ xs.length → Ev (fun k => chalklineref12_Has.l0 k xs a (j : Int)) (decide (a ∈ xs.drop j)) := by
  intro m
  induction m with
  | zero =>
    intro j hm hj
    refine Ev.told (Ev.step (Ev.pure false) (fun k => ?_)) ?_
    · rw [chalklineref12_Has.l0, if_neg (by omega)]
    · rw [List.drop_of_length_le (by omega)]; simp
  | succ m ih =>
    intro j hm hj
    have hlt : j < xs.length := by omega
    rw [drop_rd hlt]
    by_cases e : rd xs (j : Int) = a
    · refine Ev.told (Ev.step (Ev.pure true) (fun k => ?_)) ?_
      · rw [chalklineref12_Has.l0, if_pos (by omega), if_pos (by omega), if_pos e]
      · rw [e]; simp
    · refine Ev.told (Ev.step (ih (j + 1) (by omega) (by omega)) (fun k => ?_)) ?_
      · rw [chalklineref12_Has.l0, if_pos (by omega), if_pos (by omega), if_neg e, wrap_succ (by omega)]
      · have : a ≠ rd xs (j : Int) := fun h => e h.symm
        simp [this]
theorem has_ev (xs : List Int) (a : Int) (hb : xs.length ≤ 1000000) : Ev (fun k => chalklineref12_Has.f k xs a) (decide (a ∈ xs)) := has_l0 xs a hb _ 0 rfl (Nat.zero_le _)

theorem ofI_eq {l x : Int} : ofI l = ofI x ↔ l = x ∨ l = -x := by
  unfold ofI
  split <;> split <;> omega
/-- What badF asks, without the variable. -/
theorem badF_eq {seen : List Int} {lit : Int} (h0 : -9223372036854775808 ≤ lit) (h1 : lit ≤ 9223372036854775807) : badF seen lit = !decide (lit ≠ 0 ∧ -65536 ≤ lit ∧ lit ≤ 65536 ∧ lit ∉ seen ∧ -lit ∉ seen) := by
  unfold badF
  by_cases hr : -65536 ≤ lit ∧ lit ≤ 65536
  · have ho : ofW lit = ofI lit := ofW_eq (by omega) (by omega)
    have h3 : ¬ 65536 < ofI lit := by unfold ofI; split <;> omega
    have h4 : ¬ lit < -65536 := by omega
    rw [ho]
    rw [Bool.eq_iff_iff]
    simp only [Bool.or_eq_true, List.any_eq_true, beq_iff_eq, decide_eq_true_eq, Bool.not_eq_true', decide_eq_false_iff_not, ofI_eq]
    constructor
    · rintro (⟨l, hl, rfl | rfl⟩ | h | h | h) ⟨a, b, c, d, e⟩
      · exact d hl
      · exact e hl
      · exact a h
      · exact h4 h
      · exact h3 h
    · intro h
      by_cases hz : lit = 0
      · exact .inr (.inl hz)
      · by_cases hs : lit ∈ seen
        · exact .inl ⟨lit, hs, .inl rfl⟩
        · by_cases hs2 : -lit ∈ seen
          · exact .inl ⟨-lit, hs2, .inr rfl⟩
          · exact absurd ⟨hz, hr.1, hr.2, hs, hs2⟩ h
  · have hf : decide (lit ≠ 0 ∧ -65536 ≤ lit ∧ lit ≤ 65536 ∧ lit ∉ seen ∧ -lit ∉ seen) = false := decide_eq_false (fun h => hr ⟨h.2.1, h.2.2.1⟩)
    rw [hf]
    by_cases hn : lit < -65536
    · simp [hn]
    · have : 65536 < ofW lit := by
        unfold ofW wrap64
        split <;> omega
      simp [this]

def uF (ls : List Int) (j : Nat) : Bool := (List.range ls.length).all (fun k => decide (k < j) || !badF (ls.take k) (rd ls (k : Int)))
theorem uF_false {ls : List Int} {j : Nat} (hj : j < ls.length) (h : badF (ls.take j) (rd ls (j : Int)) = true) : uF ls j = false := by
  rw [Bool.eq_false_iff]
  intro ho
  have := List.all_eq_true.1 ho j (List.mem_range.2 hj)
  rw [h] at this
  simp at this
theorem uF_step {ls : List Int} {j : Nat} (h : badF (ls.take j) (rd ls (j : Int)) = false) : uF ls j = uF ls (j + 1) := by
  rw [Bool.eq_iff_iff]
  unfold uF
  simp only [List.all_eq_true, List.mem_range, Bool.or_eq_true, decide_eq_true_eq, Bool.not_eq_true']
  constructor
  · intro H k hk
    rcases H k hk with a | a
    · exact .inl (by omega)
    · exact .inr a
  · intro H k hk
    rcases H k hk with a | a
    · by_cases e : k = j
      · subst e; exact .inr h
      · exact .inl (by omega)
    · exact .inr a
theorem unlike_l0 (ls : List Int) (hb : ls.length ≤ 1000000) (hr : ∀ l ∈ ls, -9223372036854775808 ≤ l ∧ l ≤ 9223372036854775807) : ∀ (m j : Nat), ls.length - j = m → j ≤ ls.length → Ev (fun k => chalklineref12_Unlike.l0 k ls 65536 (j : Int)) (uF ls j) := by
  have hn : wrap64 (-65536) = -65536 := wrap_id (by omega) (by omega)
  intro m
  induction m with
  | zero =>
    intro j hm hj
    refine Ev.told (Ev.step (Ev.pure true) (fun k => ?_)) ?_
    · rw [chalklineref12_Unlike.l0, if_neg (by omega)]
    · refine (List.all_eq_true.2 fun k hk => ?_).symm
      have := List.mem_range.1 hk
      simp only [Bool.or_eq_true, decide_eq_true_eq]
      exact .inl (by omega)
  | succ m ih =>
    intro j hm hj
    have hlt : j < ls.length := by omega
    have hl := hr _ (rd_mem hlt)
    have hbq := badF_eq (seen := ls.take j) hl.1 hl.2
    have hf := fun h => uF_false (ls := ls) hlt h
    have hs := fun h => uF_step (ls := ls) (j := j) h
    have hu : ∀ k, chalklineref12_Unlike.l0 (k + 1) ls 65536 (j : Int) = (if (rd ls (j : Int)) = 0 then (some false) else (if (rd ls (j : Int)) < -65536 then (some false) else (if (rd ls (j : Int)) > 65536 then (some false) else ((chalklineref12_Has.f k (ls.take j) (rd ls (j : Int))).bind fun t309 => (if t309 = true then (some false) else ((chalklineref12_Has.f k (ls.take j) (wrap64 (-(rd ls (j : Int))))).bind fun t312 => (if t312 = true then (some false) else (chalklineref12_Unlike.l0 k ls 65536 (wrap64 ((j : Int) + 1)))))))))) := fun k => by
      rw [chalklineref12_Unlike.l0, if_pos (by omega), if_pos (by omega), if_pos (show (j : Int) ≤ (ls.length : Int) by omega), hn, Int.toNat_natCast]
    generalize rd ls (j : Int) = l at *
    by_cases h1 : l = 0
    · rw [hf (by rw [hbq, decide_eq_false (fun h => h.1 h1)]; rfl)]
      exact Ev.step (Ev.pure _) (fun k => by rw [hu, if_pos h1])
    by_cases h2 : l < -65536
    · rw [hf (by rw [hbq, decide_eq_false (fun h => by omega)]; rfl)]
      exact Ev.step (Ev.pure _) (fun k => by rw [hu, if_neg h1, if_pos h2])
    by_cases h3 : l > 65536
    · rw [hf (by rw [hbq, decide_eq_false (fun h => by omega)]; rfl)]
      exact Ev.step (Ev.pure _) (fun k => by rw [hu, if_neg h1, if_neg h2, if_pos h3])
    have hw : wrap64 (-l) = -l := wrap_id (by omega) (by omega)
    have e1 := has_ev (ls.take j) l (by rw [List.length_take]; omega)
    have e2 := has_ev (ls.take j) (-l) (by rw [List.length_take]; omega)
    refine Ev.step (G := fun k => (chalklineref12_Has.f k (ls.take j) l).bind fun t309 => (if t309 = true then (some false) else ((chalklineref12_Has.f k (ls.take j) (-l)).bind fun t312 => (if t312 = true then (some false) else (chalklineref12_Unlike.l0 k ls 65536 (wrap64 ((j : Int) + 1))))))) ?_ (fun k => by rw [hu, if_neg h1, if_neg h2, if_neg h3, hw])
    refine Ev.bind e1 ?_
    by_cases h4 : l ∈ ls.take j
    · rw [hf (by rw [hbq, decide_eq_false (fun h => h.2.2.2.1 h4)]; rfl)]
      simp only [decide_eq_true h4, if_true]
      exact Ev.pure _
    simp only [decide_eq_false h4, Bool.false_eq_true, if_false]
    refine Ev.bind e2 ?_
    by_cases h5 : -l ∈ ls.take j
    · rw [hf (by rw [hbq, decide_eq_false (fun h => h.2.2.2.2 h5)]; rfl)]
      simp only [decide_eq_true h5, if_true]
      exact Ev.pure _
    simp only [decide_eq_false h5, Bool.false_eq_true, if_false]
    rw [hs (by rw [hbq, decide_eq_true ⟨h1, by omega, by omega, h4, h5⟩]; rfl), wrap_succ (by omega)]
    exact ih (j + 1) (by omega) (by omega)
theorem unlike_ev (ls : List Int) (hb : ls.length ≤ 1000000) (hr : ∀ l ∈ ls, -9223372036854775808 ≤ l ∧ l ≤ 9223372036854775807) : Ev (fun k => chalklineref12_Unlike.f k ls 65536) (oksF ls) := by
  refine Ev.told (unlike_l0 ls hb hr _ 0 rfl (Nat.zero_le _)) ?_
  unfold uF oksF
  simp

/-! ### what the map of the literals tells -/
theorem oksF_at {ls : List Int} (h : oksF ls = true) {k : Nat} (hk : k < ls.length) : badF (ls.take k) (rd ls (k : Int)) = false := by
  have := List.all_eq_true.1 h k (List.mem_range.2 hk)
  simpa using this
theorem atF_fold (x : Int) : ∀ (ls : List Int) (a : Int), (ls.foldl (fun a l => if ofI l = x then l else a) a = a ∧ ∀ l ∈ ls, ofI l ≠ x) ∨ (ls.foldl (fun a l => if ofI l = x then l else a) a ∈ ls ∧ ofI (ls.foldl (fun a l => if ofI l = x then l else a) a) = x)
  | [], a => .inl ⟨rfl, by simp⟩
  | l :: ls, a => by
    rw [List.foldl_cons]
    rcases atF_fold x ls (if ofI l = x then l else a) with ⟨h1, h2⟩ | ⟨h1, h2⟩
    · rw [h1]
      by_cases e : ofI l = x
      · rw [if_pos e]
        exact .inr ⟨by simp, e⟩
      · rw [if_neg e]
        refine .inl ⟨rfl, fun y hy => ?_⟩
        rcases List.mem_cons.1 hy with rfl | hy
        · exact e
        · exact h2 y hy
    · exact .inr ⟨by simp [h1], h2⟩
theorem oks_good {ls : List Int} (hr : ∀ l ∈ ls, -9223372036854775808 ≤ l ∧ l ≤ 9223372036854775807) (h : oksF ls = true) {k : Nat} (hk : k < ls.length) : rd ls (k : Int) ≠ 0 ∧ -65536 ≤ rd ls (k : Int) ∧ rd ls (k : Int) ≤ 65536 ∧ rd ls (k : Int) ∉ ls.take k ∧ -rd ls (k : Int) ∉ ls.take k := by
  have h1 := oksF_at h hk
  have h2 := hr _ (rd_mem hk)
  rw [badF_eq h2.1 h2.2] at h1
  simpa using h1
theorem mem_at {ls : List Int} {l : Int} (h : l ∈ ls) : ∃ k, k < ls.length ∧ rd ls (k : Int) = l := by
  obtain ⟨k, hk, e⟩ := List.getElem_of_mem h
  exact ⟨k, hk, by simp [rd, hk, e]⟩
theorem mem_take {ls : List Int} {i k : Nat} (hik : i < k) (hk : i < ls.length) : rd ls (i : Int) ∈ ls.take k := by
  have h1 := take_rd hk
  have h2 : rd ls (i : Int) ∈ ls.take (i + 1) := by rw [h1]; simp
  have h3 : ls.take (i + 1) = (ls.take k).take (i + 1) := by rw [List.take_take, Nat.min_eq_left (by omega)]
  rw [h3] at h2
  exact List.mem_of_mem_take h2
/-- No literal with its negation. -/
theorem oks_neg {ls : List Int} (hr : ∀ l ∈ ls, -9223372036854775808 ≤ l ∧ l ≤ 9223372036854775807) (h : oksF ls = true) {l : Int} (hl : l ∈ ls) : -l ∉ ls := by
  intro hn
  obtain ⟨i, hi, ei⟩ := mem_at hl
  obtain ⟨j, hj, ej⟩ := mem_at hn
  have gi := oks_good hr h hi
  have gj := oks_good hr h hj
  rcases Nat.lt_trichotomy i j with c | c | c
  · exact gj.2.2.2.2 (by rw [ej, Int.neg_neg, ← ei]; exact mem_take c hi)
  · subst c; omega
  · exact gi.2.2.2.2 (by rw [ei, ← ej]; exact mem_take c hj)
theorem atF_of_mem {ls : List Int} (hr : ∀ l ∈ ls, -9223372036854775808 ≤ l ∧ l ≤ 9223372036854775807) (h : oksF ls = true) {l : Int} (hl : l ∈ ls) : atF ls (ofI l) = l := by
  rcases atF_fold (ofI l) ls 0 with ⟨_, h2⟩ | ⟨h1, h2⟩
  · exact absurd rfl (h2 l hl)
  · rcases ofI_eq.1 h2 with e | e
    · exact e
    · exact absurd (e ▸ h1) (oks_neg hr h hl)
theorem ofI_neg (l : Int) : ofI (-l) = ofI l := by unfold ofI; split <;> split <;> omega
/-- The map knows the literal's negation just where it is among them. -/
theorem atF_neg {ls : List Int} (hr : ∀ l ∈ ls, -9223372036854775808 ≤ l ∧ l ≤ 9223372036854775807) (h : oksF ls = true) {l : Int} (h0 : l ≠ 0) : atF ls (ofI l) = -l ↔ -l ∈ ls := by
  constructor
  · intro e
    rcases atF_fold (ofI l) ls 0 with ⟨h1, _⟩ | ⟨h1, h2⟩
    · have : atF ls (ofI l) = 0 := h1
      omega
    · have : atF ls (ofI l) ∈ ls := h1
      rwa [e] at this
  · intro hm
    have := atF_of_mem hr h hm
    rwa [ofI_neg] at this
theorem atF_zero {ls : List Int} (hr : ∀ l ∈ ls, -9223372036854775808 ≤ l ∧ l ≤ 9223372036854775807) (h : oksF ls = true) {l : Int} (h0 : l ≠ 0) : atF ls (ofI l) = 0 ↔ l ∉ ls ∧ -l ∉ ls := by
  constructor
  · intro e
    refine ⟨fun hm => ?_, fun hm => ?_⟩
    · have := atF_of_mem hr h hm; omega
    · have := (atF_neg hr h h0).2 hm; omega
  · rintro ⟨h1, h2⟩
    rcases atF_fold (ofI l) ls 0 with ⟨e, _⟩ | ⟨e1, e2⟩
    · exact e
    · rcases ofI_eq.1 e2 with e | e
      · exact absurd (e ▸ e1) h1
      · exact absurd (e ▸ e1) h2

/-! ### the reference's Force -/
theorem spareF_shift (ls : List Int) (a : Int) : ∀ (C L : List Int) (n : Int), (C.zip L).foldl (fun n p => spareS ls n p.1 p.2) (n + a) = (C.zip L).foldl (fun n p => spareS ls n p.1 p.2) n + a
  | [], _, _ => rfl
  | _ :: _, [], _ => rfl
  | c :: C, l :: L, n => by
    simp only [List.zip_cons_cons, List.foldl_cons]
    have e : spareS ls (n + a) c l = spareS ls n c l + a := by unfold spareS; split <;> omega
    rw [e, spareF_shift ls a C L]
theorem spareF_zero (ls C L : List Int) (least : Int) : spareF ls C L least = spareF ls C L 0 - least := by
  have := spareF_shift ls (-least) C L 0
  unfold spareF
  rw [Int.zero_add] at this
  rw [this, Int.neg_zero]
  omega
theorem force_l1 (ls C L : List Int) (least sp : Int) (hR : NormR (C, L, least)) (hb : ls.length ≤ 1000000) (hr : ∀ l ∈ ls, -9223372036854775808 ≤ l ∧ l ≤ 9223372036854775807) (ho : oksF ls = true) (hsp : sp = spareF ls C L 0) : ∀ (m j : Nat), L.length - j = m → j ≤ L.length →
    Ev (fun k => chalklineref12_Force.l1 k ls sp (forcedF ls (C.take j) (L.take j) (sp - least)) (j : Int) C L least) (forcedF ls C L (sp - least), true) := by
  obtain ⟨hlen, hle, hcoef, hleast, hsmall, hlits⟩ := hR
  simp only [] at hlen hle hcoef hleast hsmall hlits
  have hspb := spareF_bound ls (B := 2251799813685248) (C := C) (L := L) 0 (fun c hc => by have := hcoef c hc; have := hsmall c hc; omega)
  rw [← hsp] at hspb
  have hw : wrap64 (sp - least) = sp - least := wrap_id (by omega) (by omega)
  intro m
  induction m with
  | zero =>
    intro j hm hj
    refine Ev.step (Ev.pure _) (fun k => ?_)
    rw [chalklineref12_Force.l1, if_neg (by omega), List.take_of_length_le (by omega), List.take_of_length_le (by omega)]
  | succ m ih =>
    intro j hm hj
    have hjl : j < L.length := by omega
    have hjc : j < C.length := by omega
    have hl := hlits _ (rd_mem hjl)
    have hnext := ih (j + 1) (by omega) (by omega)
    rw [take_rd hjl, take_rd hjc, forcedF_snoc _ (by simp; omega)] at hnext
    have hfl := forcedF_length ls (C.take j) (L.take j) (sp - least)
    rw [List.length_take] at hfl
    generalize forcedF ls (C.take j) (L.take j) (sp - least) = acc at hnext hfl ⊢
    have hu : ∀ k, chalklineref12_Force.l1 (k + 1) ls sp acc (j : Int) C L least = ((chalklineref12_Has.f k ls (rd L (j : Int))).bind fun t328 => (if t328 = true then (chalklineref12_Force.l1 k ls sp acc (wrap64 ((j : Int) + 1)) C L least) else ((chalklineref12_Has.f k ls (wrap64 (-(rd L (j : Int))))).bind fun t330 => (if t330 = true then (chalklineref12_Force.l1 k ls sp acc (wrap64 ((j : Int) + 1)) C L least) else (if (rd C (j : Int)) > (wrap64 (sp - least)) then (if acc.length < 17592186044416 then (chalklineref12_Force.l1 k ls sp (acc ++ [rd L (j : Int)]) (wrap64 ((j : Int) + 1)) C L least) else (none)) else (chalklineref12_Force.l1 k ls sp acc (wrap64 ((j : Int) + 1)) C L least)))))) := fun k => by
      rw [chalklineref12_Force.l1, if_pos (by omega), if_pos (by omega)]
      simp only [if_pos (show (j : Int) < (C.length : Int) by omega)]
    rw [wrap_succ (by omega), hw] at hu
    generalize rd L (j : Int) = l at *
    generalize rd C (j : Int) = c at *
    have hwl : wrap64 (-l) = -l := wrap_id (by omega) (by omega)
    rw [hwl] at hu
    refine Ev.step ?_ hu
    refine Ev.bind (has_ev ls l hb) ?_
    by_cases h1 : l ∈ ls
    · have hz : ¬ atF ls (ofI l) = 0 := fun e => ((atF_zero hr ho hl.2.2).1 e).1 h1
      rw [if_neg (by simp [hz])] at hnext
      simp only [decide_eq_true h1, if_true]
      exact hnext
    simp only [decide_eq_false h1, Bool.false_eq_true, if_false]
    refine Ev.bind (has_ev ls (-l) hb) ?_
    by_cases h2 : -l ∈ ls
    · have hz : ¬ atF ls (ofI l) = 0 := fun e => ((atF_zero hr ho hl.2.2).1 e).2 h2
      rw [if_neg (by simp [hz])] at hnext
      simp only [decide_eq_true h2, if_true]
      exact hnext
    simp only [decide_eq_false h2, Bool.false_eq_true, if_false]
    have hz : atF ls (ofI l) = 0 := (atF_zero hr ho hl.2.2).2 ⟨h1, h2⟩
    by_cases h3 : sp - least < c
    · rw [if_pos (by simp [hz, h3])] at hnext
      simp only [if_pos (show c > sp - least from h3), if_pos (show acc.length < 17592186044416 by omega)]
      exact hnext
    · rw [if_neg (by simp [hz, h3])] at hnext
      simp only [if_neg (show ¬ c > sp - least from h3)]
      exact hnext
theorem force_l0 (ls C L : List Int) (least : Int) (hR : NormR (C, L, least)) (hb : ls.length ≤ 1000000) (hr : ∀ l ∈ ls, -9223372036854775808 ≤ l ∧ l ≤ 9223372036854775807) (ho : oksF ls = true) : ∀ (m j : Nat), L.length - j = m → j ≤ L.length →
    Ev (fun k => chalklineref12_Force.l0 k ls (spareF ls (C.take j) (L.take j) 0) (j : Int) C L least) (if spareF ls C L least < 0 then ([], false) else (forcedF ls C L (spareF ls C L least), true)) := by
  have h1 := force_l1 ls C L least _ hR hb hr ho rfl _ 0 rfl (Nat.zero_le _)
  obtain ⟨hlen, hle, hcoef, hleast, hsmall, hlits⟩ := hR
  simp only [] at hlen hle hcoef hleast hsmall hlits
  rw [spareF_zero ls C L least]
  intro m
  induction m with
  | zero =>
    intro j hm hj
    have hu : ∀ k, chalklineref12_Force.l0 (k + 1) ls (spareF ls (C.take j) (L.take j) 0) (j : Int) C L least = (if spareF ls C L 0 < least then (some (([] : List Int), false)) else (chalklineref12_Force.l1 k ls (spareF ls C L 0) ([] : List Int) 0 C L least)) := fun k => by
      rw [chalklineref12_Force.l0, if_neg (by omega), List.take_of_length_le (by omega), List.take_of_length_le (by omega)]
    by_cases c : spareF ls C L 0 < least
    · rw [if_pos (by omega)]
      exact Ev.step (Ev.pure _) (fun k => by rw [hu, if_pos c])
    · rw [if_neg (by omega)]
      exact Ev.step h1 (fun k => by rw [hu, if_neg c]; rfl)
  | succ m ih =>
    intro j hm hj
    have hjl : j < L.length := by omega
    have hjc : j < C.length := by omega
    have hl := hlits _ (rd_mem hjl)
    have hc := hcoef _ (rd_mem hjc)
    have hc2 := hsmall _ (rd_mem hjc)
    have hnext := ih (j + 1) (by omega) (by omega)
    rw [take_rd hjl, take_rd hjc, spareF_snoc _ (by simp; omega)] at hnext
    have hsb := spareF_bound ls (B := 2251799813685248) (C := C.take j) (L := L.take j) 0 (fun c hc => by have h1 := hcoef c (List.mem_of_mem_take hc); have h2 := hsmall c (List.mem_of_mem_take hc); omega)
    rw [List.length_take] at hsb
    generalize spareF ls (C.take j) (L.take j) 0 = n at hnext hsb ⊢
    have hu : ∀ k, chalklineref12_Force.l0 (k + 1) ls n (j : Int) C L least = ((chalklineref12_Has.f k ls (wrap64 (-(rd L (j : Int))))).bind fun t325 => (if t325 = true then (chalklineref12_Force.l0 k ls n (wrap64 ((j : Int) + 1)) C L least) else (chalklineref12_Force.l0 k ls (wrap64 (n + (rd C (j : Int)))) (wrap64 ((j : Int) + 1)) C L least))) := fun k => by
      rw [chalklineref12_Force.l0, if_pos (by omega), if_pos (by omega)]
      simp only [if_pos (show (j : Int) < (C.length : Int) by omega)]
    rw [wrap_succ (by omega)] at hu
    generalize rd L (j : Int) = l at *
    generalize rd C (j : Int) = c at *
    have hwl : wrap64 (-l) = -l := wrap_id (by omega) (by omega)
    have hwn : wrap64 (n + c) = n + c := wrap_id (by omega) (by omega)
    rw [hwl, hwn] at hu
    refine Ev.step ?_ hu
    refine Ev.bind (has_ev ls (-l) hb) ?_
    have hne := atF_neg hr ho hl.2.2
    by_cases h2 : -l ∈ ls
    · simp only [decide_eq_true h2, if_true]
      unfold spareS at hnext
      rw [if_pos (hne.2 h2)] at hnext
      exact hnext
    · simp only [decide_eq_false h2, Bool.false_eq_true, if_false]
      unfold spareS at hnext
      rw [if_neg (fun e => h2 (hne.1 e))] at hnext
      exact hnext
theorem refForce_ev (C L : List Int) (a : Int) (ls : List Int) (hL : L.length ≤ 1000) (hb : ls.length ≤ 1000000) (hr : ∀ l ∈ ls, -9223372036854775808 ≤ l ∧ l ≤ 9223372036854775807) : Ev (fun k => chalklineref12_Force.f k C L a ls) (lin_Force.val C L a ls) := by
  have hbad : Ev (fun k => chalklineref12_Force.j0 k ls true C L a) (([] : List Int), false) := Ev.step (Ev.pure _) (fun k => by rw [chalklineref12_Force.j0, if_pos rfl])
  unfold chalklineref12_Force.f lin_Force.val
  refine Ev.bind (refCheck_ev C L a 65536 (by omega)) ?_
  by_cases h : lin_Check.val C L a 65536 = 0
  · simp only [if_pos h]
    refine Ev.bind (unlike_ev ls hb hr) ?_
    by_cases ho : oksF ls = true
    · simp only [ho, Bool.not_true, if_true]
      have hR := norm_range (C := C) (least := a) hL
      have hl0 := force_l0 ls _ _ _ hR hb hr ho _ 0 rfl (Nat.zero_le _)
      refine Ev.step (G := fun k => (chalklineref12_Norm.f k C L a).bind fun bt316 => (chalklineref12_Force.l0 k ls 0 0 bt316.1 bt316.2.1 bt316.2.2)) ?_ (fun k => by rw [chalklineref12_Force.j0, if_neg (by simp)])
      refine Ev.bind (refNorm_ev C L a hL) ?_
      exact hl0
    · have ho' : oksF ls = false := by simpa using ho
      simp only [ho', Bool.not_false, Bool.false_eq_true, if_false]
      exact hbad
  · simp only [if_neg h]
    exact hbad

/-! ### Ints and the reference's Value -/
theorem ints_l0 (xs ys : List Int) (he : xs.length = ys.length) (hb : xs.length ≤ 1000000) : ∀ (m j : Nat), xs.length - j = m → j ≤ xs.length → Ev (fun k => chalklineref12_Ints.l0 k xs ys (j : Int)) (decide (xs.drop j = ys.drop j)) := by
  intro m
  induction m with
  | zero =>
    intro j hm hj
    refine Ev.step (Ev.pure _) (fun k => ?_)
    rw [chalklineref12_Ints.l0, if_neg (by omega), List.drop_of_length_le (by omega), List.drop_of_length_le (by omega)]
    rfl
  | succ m ih =>
    intro j hm hj
    have hlt : j < xs.length := by omega
    rw [drop_rd hlt, drop_rd (show j < ys.length by omega)]
    by_cases e : rd xs (j : Int) = rd ys (j : Int)
    · refine Ev.told (Ev.step (ih (j + 1) (by omega) (by omega)) (fun k => ?_)) ?_
      · rw [chalklineref12_Ints.l0, if_pos (by omega), if_pos (by omega), if_pos (by omega), if_pos e, wrap_succ (by omega)]
      · rw [e]; simp
    · refine Ev.step (Ev.pure _) (fun k => ?_)
      rw [chalklineref12_Ints.l0, if_pos (by omega), if_pos (by omega), if_pos (by omega), if_neg e]
      simp [e]
theorem ints_ev (xs ys : List Int) (hb : xs.length ≤ 1000000) : Ev (fun k => chalklineref12_Ints.f k xs ys) (decide (xs = ys)) := by
  unfold chalklineref12_Ints.f
  by_cases he : xs.length = ys.length
  · have := ints_l0 xs ys he hb _ 0 rfl (Nat.zero_le _)
    simp only [List.drop_zero] at this
    simp only [he, if_true]
    exact this
  · have he' : ¬ (xs.length : Int) = (ys.length : Int) := by omega
    simp only [if_neg he']
    have : xs ≠ ys := fun e => he (by rw [e])
    exact Ev.told (Ev.pure false) (by simp [this])
theorem lit_ev (l : Int) (a : List Bool) (h0 : -65536 ≤ l) (h1 : l ≤ 65536) (hz : l ≠ 0) : chalklineref12_Lit.f l a = some (litT a l) := by
  have hp : 0 < ofI l := by unfold ofI; split <;> omega
  unfold chalklineref12_Lit.f litT
  rw [of_ev h0 h1, Option.bind_some, if_pos (by omega)]
  by_cases h : ofI l < (a.length : Int)
  · rw [if_pos h, if_pos (by omega), if_pos h]
  · rw [if_neg h, if_neg h]
theorem refHolds_l0 (C L : List Int) (least : Int) (a : List Bool) (he : C.length = L.length) (hb : L.length ≤ 1000) (oc : okC C) (ol : okL L) : ∀ (m j : Nat) (n : Int), L.length - j = m → j ≤ L.length → n = dot (litT a) (C.take j) (L.take j) → Ev (fun k => chalklineref12_Holds.l0 k a n (j : Int) C L least) (decide (least ≤ dot (litT a) C L)) := by
  intro m
  induction m with
  | zero =>
    intro j n hm hj hn
    refine Ev.step (Ev.step (Ev.pure (decide (least ≤ dot (litT a) C L))) (F := fun k => chalklineref12_Holds.j1 k a n (j : Int) false C L least) (fun k => ?_)) (fun k => ?_)
    · rw [chalklineref12_Holds.j1, if_neg (by simp), hn, List.take_of_length_le (by omega), List.take_of_length_le (by omega)]
    · rw [chalklineref12_Holds.l0, if_neg (by omega)]
  | succ m ih =>
    intro j n hm hj hn
    have hjl : j < L.length := by omega
    have hjc : j < C.length := by omega
    have hc := oc _ (rd_mem hjc)
    have hl := ol _ (rd_mem hjl)
    have hbd := dot_bound (litT a) (C.take j) (L.take j) (fun c h => oc c (List.mem_of_mem_take h))
    rw [← hn, List.length_take] at hbd
    have ih' := fun n => ih (j + 1) n (by omega) (by omega)
    rw [take_rd hjl, take_rd hjc, dot_snoc _ _ _ _ _ (by simp; omega), ← hn] at ih'
    have w1 : wrap64 (n + rd C (j : Int)) = n + rd C (j : Int) := wrap_id (by omega) (by omega)
    have ht := lit_ev (rd L (j : Int)) a hl.1 hl.2.1 hl.2.2
    by_cases h1 : litT a (rd L (j : Int)) = true
    · refine Ev.step (Ev.step (ih' _ rfl) (F := fun k => chalklineref12_Holds.j1 k a n (j : Int) true C L least) (fun k => ?_)) (fun k => ?_)
      · rw [chalklineref12_Holds.j1, if_pos rfl, if_pos (by omega), if_pos (by omega), ht, Option.bind_some, if_pos h1, if_pos (by omega), w1, wrap_succ (by omega), if_pos h1]
      · rw [chalklineref12_Holds.l0, if_pos (by omega), decide_eq_true (by omega)]
    · refine Ev.step (Ev.step (ih' _ rfl) (F := fun k => chalklineref12_Holds.j1 k a n (j : Int) true C L least) (fun k => ?_)) (fun k => ?_)
      · rw [chalklineref12_Holds.j1, if_pos rfl, if_pos (by omega), if_pos (by omega), ht, Option.bind_some, if_neg h1, wrap_succ (by omega), if_neg h1, Int.add_zero]
      · rw [chalklineref12_Holds.l0, if_pos (by omega), decide_eq_true (by omega)]
theorem refValue_ev (C L : List Int) (least : Int) (a : List Bool) (hb : L.length ≤ 1000) : Ev (fun k => chalklineref12_Value.f k C L least a) (lin_Value.val C L least a) := by
  unfold chalklineref12_Value.f lin_Value.val
  refine Ev.bind (refCheck_ev C L least 65536 (by omega)) ?_
  by_cases h : lin_Check.val C L least 65536 = 0
  · obtain ⟨hlen, hw, oc, ol, hm⟩ := val_zero h
    simp only [if_pos h]
    have h0 := refHolds_l0 C L least a hlen hb oc ol _ 0 0 rfl (Nat.zero_le _) (by simp [dot])
    refine Ev.bind (F := fun k => chalklineref12_Holds.f k C L least a) h0 ?_
    exact Ev.pure _
  · simp only [if_neg h]
    exact Ev.pure _

end Go.Proofs.Ytmcljhjmmipagaa.PL
