/- lin.Cut answers what 'lin_Cut.val' says, for slices that read as lists; the conditions stand in each statement. -/
import Derived.Test.YtmcljhjmmipagaaNormC
namespace Go.Proofs.Ytmcljhjmmipagaa.PL
open Go.RowKit Go.Proofs.YtmcljhjmmipagaaW.PrintWords Go.Proofs.YtmcljhjmmipagaaW.PrintLast Go.Proofs.YtmcljhjmmipagaaW.PrintMore
set_option linter.unusedVariables false
set_option linter.unusedSimpArgs false

theorem NS.fold {C L : List Int} {least : Int} (oc : okC C) (hl : C.length ≤ 1000) : ∀ (vs : List Int) {k : Nat} {s : List Int × List Int × Int}, NS C L least k s → NS C L least (k + vs.length) (vs.foldl (nstep (posS C L) (negS C L)) s)
 | [], _, _, h => h
 | v :: vs, k, _, h => by
  have := NS.fold oc hl vs (h.step oc hl v)
  rw [List.length_cons, Nat.add_comm vs.length 1, ← Nat.add_assoc]
  exact this

/-- The canonical form's numbers are small, its coefficients lie between 1 and its bound. -/
structure NormR (r : List Int × List Int × Int) : Prop where
 len : r.1.length = r.2.1.length
 le : r.1.length ≤ 1000
 coef : ∀ c ∈ r.1, 1 ≤ c ∧ c ≤ r.2.2
 least : 0 ≤ r.2.2 ∧ r.2.2 ≤ 2000000000000000000
 small : ∀ c ∈ r.1, c ≤ 2251799813685248
 lits : ∀ l ∈ r.2.1, -65536 ≤ l ∧ l ≤ 65536 ∧ l ≠ 0

theorem nstep_lits (p q : Int → Int) : ∀ (vs : List Int) (s : List Int × List Int × Int) (l : Int), l ∈ (vs.foldl (nstep p q) s).2.1 → l ∈ s.2.1 ∨ ∃ v ∈ vs, l = v ∨ l = -v
 | [], _, _, h => .inl h
 | v :: vs, s, l, h => by
  rcases nstep_lits p q vs _ l h with h | ⟨x, hx, e⟩
  ·
   unfold nstep at h
   split at h
   ·
    rcases List.mem_append.1 h with h | h
    ·
     exact .inl h
    ·
     exact .inr ⟨v, by simp, .inl (by simpa using h)⟩
   ·
    split at h
    ·
     rcases List.mem_append.1 h with h | h
     ·
      exact .inl h
     ·
      exact .inr ⟨v, by simp, .inr (by simpa using h)⟩
    ·
     exact .inl h
  ·
   exact .inr ⟨x, by simp [hx], e⟩

theorem norm_range {C L : List Int} {least : Int} (hl : L.length ≤ 1000) : NormR (lin_Norm.val C L least) := by
 unfold lin_Norm.val
 split
 case isFalse => exact ⟨rfl, by simp, by simp, by simp, by simp, by simp⟩
 case isTrue hv =>
  obtain ⟨hlen, hw, oc, ol, hm⟩ := val_zero hv
  have hN : NS C L least (0 + (varsOf L).length) (nraw C L least) := NS.fold oc (by omega) (varsOf L) (NS.start C L hw)
  have hvl := varsOf_length L
  have hlit : ∀ l ∈ (nraw C L least).2.1, -65536 ≤ l ∧ l ≤ 65536 ∧ l ≠ 0 := fun l hx => by
   rcases nstep_lits _ _ _ _ l hx with h | ⟨v, hv, e⟩
   ·
    simp at h
   ·
    have := varsOf_range ol hv
    omega
  generalize nraw C L least = s at hN hlit ⊢
  obtain ⟨h1, h2, h3, h4⟩ := hN
  unfold ncut
  split
  ·
   exact ⟨rfl, by simp, by simp, by simp, by simp, by simp⟩
  ·
   split
   ·
    exact ⟨rfl, by simp, by simp, by simp, by simp, by simp⟩
   ·
    refine ⟨by simpa using h1, by simp; omega, fun c hc => ?_, by simp only []; omega, fun c hc => ?_, hlit⟩
    ·
     obtain ⟨d, hd, rfl⟩ := List.mem_map.1 hc
     have := h3 d hd
     simp only []
     omega
    ·
     obtain ⟨d, hd, rfl⟩ := List.mem_map.1 hc
     have := h3 d hd
     omega

def ceilQ (by_ n : Int) : Int := Int.tdiv (n + by_ - 1) by_
/-- What lin.Cut answers. -/
def lin_Cut.val (C L : List Int) (least d : Int) : List Int × List Int × Int × Int :=
 if lin_Check.val C L least 65536 = 0 then (if d < 1 ∨ 1099511627776 < d then ([], [], 0, 1) else ((lin_Norm.val C L least).1.map (ceilQ d), (lin_Norm.val C L least).2.1, ceilQ d (lin_Norm.val C L least).2.2, 0)) else ([], [], 0, lin_Check.val C L least 65536)
def lin_Cut.f (C L : List Int) (least d : Int) : Option (List Int × List Int × Int × Int) := if L.length ≤ 1000 then some (lin_Cut.val C L least d) else none

theorem cut1_calls {g : Nat} (x d : Int) (W : World) (h : W.cell? ⟨g, 0, none⟩ = some (.int .i64 d)) (h0 : 0 ≤ x) (h1 : x ≤ 2000000000000000000) (h2 : 1 ≤ d) (h3 : d ≤ 1099511627776) : Calls Try.prog 40 #[.int .i64 x, .pointer (some ⟨g, 0, none⟩)] W fun e W' => e = .returned (.int .i64 (ceilQ d x)) ∧ ∃ q, W' = W.drewN q := by
 have hd0 : ¬ d = 0 := by omega
 have hq0 : 0 ≤ Int.tdiv (x + d - 1) d := Int.tdiv_nonneg (by omega) (by omega)
 have hq1 : Int.tdiv (x + d - 1) d ≤ x + d - 1 := Int.tdiv_le_self _ (by omega)
 go_enter Try.func40, Try.ntmps40
 go_wp2
 go_ret
 exact ⟨rfl, 0, rfl⟩

set_option maxRecDepth 100000 in
set_option maxHeartbeats 4000000 in
theorem cut_bad1 (A0_0 : Option Addr) (c0_0 : Nat) (l0_0 : List Int) (A0_1 : Option Addr) (c0_1 : Nat) (l0_1 : List Int) (a0_2 : Int) (a1 : Int) (w : World) (hr0_0 : Kd.C (Kd.int .i64) w A0_0 l0_0.length l0_0) (hc0_0 : l0_0.length ≤ c0_0) (hr0_1 : Kd.C (Kd.int .i64) w A0_1 l0_1.length l0_1) (hc0_1 : l0_1.length ≤ c0_1) (h1 : lin_Check.val l0_0 l0_1 a0_2 65536 ≠ 0) :
  Calls Try.prog 15 #[.agg #[.slice A0_0 l0_0.length c0_0, .slice A0_1 l0_1.length c0_1, .int .i64 a0_2], .int .i64 a1] w fun e w' => e = .returned (.tuple #[.agg #[.slice none 0 0, .slice none 0 0, .int .i64 0], .int .i64 (lin_Check.val l0_0 l0_1 a0_2 65536)]) ∧ Below w.heap.size w w' := by
 have hu24 := Try.underlying24
 have hu52 := Try.underlying52
 have hu50 := Try.underlying50
 have hb := (((Below.refl w.heap.size w).alloc (Nat.le_refl _) (.cells #[.slice A0_0 l0_0.length c0_0, .slice A0_1 l0_1.length c0_1, .int .i64 a0_2] 24)).alloc (by simp) (.cells #[.int .i64 a1] 3)).alloc (by simp; omega) (.cells #[.slice none 0 0, .slice none 0 0, .int .i64 0] 24)
 have k1 := lin_right.calls A0_0 c0_0 l0_0 A0_1 c0_1 l0_1 a0_2 _ (Kd.C_below hr0_0 hb) hc0_0 (Kd.C_below hr0_1 hb) hc0_1
 have e1 : decide (lin_Check.val l0_0 l0_1 a0_2 65536 = 0) = false := by simpa using h1
 generalize lin_Check.val l0_0 l0_1 a0_2 65536 = v at k1 e1 h1 ⊢
 have HB := Lib.hid hb
 clear hb hr0_0 hr0_1
 go_enter Try.func15, Try.ntmps15
 go_wp2_with fail
 refine k1.mono ?_
 rintro e w1 ⟨rfl, hb1⟩
 clear k1
 have hres : w1.heap[w.heap.size + 2]? = some (.cells #[.slice none 0 0, .slice none 0 0, .int .i64 0] 24 (0, 0)) := (hb1.block (w.heap.size + 2) (by simp)).trans (by simpa using blk_new ((w.alloc (.cells #[.slice A0_0 l0_0.length c0_0, .slice A0_1 l0_1.length c0_1, .int .i64 a0_2] 24)).alloc (.cells #[.int .i64 a1] 3)) (.cells #[.slice none 0 0, .slice none 0 0, .int .i64 0] 24))
 have hby : w1.heap[w.heap.size + 1]? = some (.cells #[.int .i64 a1] 3 (0, 0)) := (hb1.block (w.heap.size + 1) (by simp)).trans (blk_alloc (by simpa using blk_new (w.alloc (.cells #[.slice A0_0 l0_0.length c0_0, .slice A0_1 l0_1.length c0_1, .int .i64 a0_2] 24)) (.cells #[.int .i64 a1] 3)) _)
 have hbox : w1.heap[w.heap.size]? = some (.cells #[.slice A0_0 l0_0.length c0_0, .slice A0_1 l0_1.length c0_1, .int .i64 a0_2] 24 (0, 0)) := (hb1.block w.heap.size (by simp; omega)).trans (blk_alloc (blk_alloc (blk_new w _) _) _)
 have hbT := HB.out.trans (hb1.mono (by simp; omega))
 clear hb1 HB
 have q0 : w1.cell? ⟨w.heap.size + 2, 0, none⟩ = some (.slice none 0 0) := (blk_cell hres 0).trans rfl
 have q1 : w1.cell? ⟨w.heap.size + 2, 1, none⟩ = some (.slice none 0 0) := (blk_cell hres 1).trans rfl
 have q2 : w1.cell? ⟨w.heap.size + 2, 2, none⟩ = some (.int .i64 0) := (blk_cell hres 2).trans rfl
 have f0 := blk_frozen hres 0
 have f1 := blk_frozen hres 1
 have f2 := blk_frozen hres 2
 have qb : w1.cell? ⟨w.heap.size + 1, 0, none⟩ = some (.int .i64 a1) := (blk_cell hby 0).trans rfl
 go_wp2
 have h3 := blk_set (blk_set (blk_set hres 0 (.slice none 0 0)) 1 (.slice none 0 0)) 2 (.int .i64 0)
 refine bodyPost_ret (results_ct rfl _ _ (w.heap.size + 2) 24 #[.slice none 0 0, .slice none 0 0, .int .i64 0] (0, 0) _ rfl h3 hu24 rfl (by kernel_rfl)) rfl ⟨by first | rfl | skip, ?_⟩
 exact (((hbT).setCell (p := ⟨w.heap.size + 2, 0, none⟩) (by simp) _).setCell (p := ⟨w.heap.size + 2, 1, none⟩) (by simp) _).setCell (p := ⟨w.heap.size + 2, 2, none⟩) (by simp) _

set_option maxRecDepth 100000 in
set_option maxHeartbeats 4000000 in
theorem cut_bad2 (A0_0 : Option Addr) (c0_0 : Nat) (l0_0 : List Int) (A0_1 : Option Addr) (c0_1 : Nat) (l0_1 : List Int) (a0_2 : Int) (a1 : Int) (w : World) (hr0_0 : Kd.C (Kd.int .i64) w A0_0 l0_0.length l0_0) (hc0_0 : l0_0.length ≤ c0_0) (hr0_1 : Kd.C (Kd.int .i64) w A0_1 l0_1.length l0_1) (hc0_1 : l0_1.length ≤ c0_1) (h1 : lin_Check.val l0_0 l0_1 a0_2 65536 = 0) (h2 : a1 < 1 ∨ 1099511627776 < a1) :
  Calls Try.prog 15 #[.agg #[.slice A0_0 l0_0.length c0_0, .slice A0_1 l0_1.length c0_1, .int .i64 a0_2], .int .i64 a1] w fun e w' => e = .returned (.tuple #[.agg #[.slice none 0 0, .slice none 0 0, .int .i64 0], .int .i64 1]) ∧ Below w.heap.size w w' := by
 have hu24 := Try.underlying24
 have hu52 := Try.underlying52
 have hu50 := Try.underlying50
 have hb := (((Below.refl w.heap.size w).alloc (Nat.le_refl _) (.cells #[.slice A0_0 l0_0.length c0_0, .slice A0_1 l0_1.length c0_1, .int .i64 a0_2] 24)).alloc (by simp) (.cells #[.int .i64 a1] 3)).alloc (by simp; omega) (.cells #[.slice none 0 0, .slice none 0 0, .int .i64 0] 24)
 have k1 := lin_right.calls A0_0 c0_0 l0_0 A0_1 c0_1 l0_1 a0_2 _ (Kd.C_below hr0_0 hb) hc0_0 (Kd.C_below hr0_1 hb) hc0_1
 rw [h1] at k1
 have HB := Lib.hid hb
 clear hb hr0_0 hr0_1 h1
 go_enter Try.func15, Try.ntmps15
 go_wp2_with fail
 refine k1.mono ?_
 rintro e w1 ⟨rfl, hb1⟩
 clear k1
 have hres : w1.heap[w.heap.size + 2]? = some (.cells #[.slice none 0 0, .slice none 0 0, .int .i64 0] 24 (0, 0)) := (hb1.block (w.heap.size + 2) (by simp)).trans (by simpa using blk_new ((w.alloc (.cells #[.slice A0_0 l0_0.length c0_0, .slice A0_1 l0_1.length c0_1, .int .i64 a0_2] 24)).alloc (.cells #[.int .i64 a1] 3)) (.cells #[.slice none 0 0, .slice none 0 0, .int .i64 0] 24))
 have hby : w1.heap[w.heap.size + 1]? = some (.cells #[.int .i64 a1] 3 (0, 0)) := (hb1.block (w.heap.size + 1) (by simp)).trans (blk_alloc (by simpa using blk_new (w.alloc (.cells #[.slice A0_0 l0_0.length c0_0, .slice A0_1 l0_1.length c0_1, .int .i64 a0_2] 24)) (.cells #[.int .i64 a1] 3)) _)
 have hbox : w1.heap[w.heap.size]? = some (.cells #[.slice A0_0 l0_0.length c0_0, .slice A0_1 l0_1.length c0_1, .int .i64 a0_2] 24 (0, 0)) := (hb1.block w.heap.size (by simp; omega)).trans (blk_alloc (blk_alloc (blk_new w _) _) _)
 have hbT := HB.out.trans (hb1.mono (by simp; omega))
 clear hb1 HB
 have q0 : w1.cell? ⟨w.heap.size + 2, 0, none⟩ = some (.slice none 0 0) := (blk_cell hres 0).trans rfl
 have q1 : w1.cell? ⟨w.heap.size + 2, 1, none⟩ = some (.slice none 0 0) := (blk_cell hres 1).trans rfl
 have q2 : w1.cell? ⟨w.heap.size + 2, 2, none⟩ = some (.int .i64 0) := (blk_cell hres 2).trans rfl
 have f0 := blk_frozen hres 0
 have f1 := blk_frozen hres 1
 have f2 := blk_frozen hres 2
 have qb : w1.cell? ⟨w.heap.size + 1, 0, none⟩ = some (.int .i64 a1) := (blk_cell hby 0).trans rfl
 rcases h2 with h2 | h2
 ·
  have e2 : decide (a1 < 1) = true := by simpa using h2
  go_wp2
  all_goals
   have h3 := blk_set (blk_set (blk_set hres 0 (.slice none 0 0)) 1 (.slice none 0 0)) 2 (.int .i64 0)
   refine bodyPost_ret (results_ct rfl _ _ (w.heap.size + 2) 24 #[.slice none 0 0, .slice none 0 0, .int .i64 0] (0, 0) _ rfl h3 hu24 rfl (by kernel_rfl)) rfl ⟨by first | rfl | skip, ?_⟩
   exact (((hbT).setCell (p := ⟨w.heap.size + 2, 0, none⟩) (by simp) _).setCell (p := ⟨w.heap.size + 2, 1, none⟩) (by simp) _).setCell (p := ⟨w.heap.size + 2, 2, none⟩) (by simp) _
 ·
  have e2 : decide (a1 < 1) = false := by simp; omega
  have e3 : decide (1099511627776 < a1) = true := by simpa using h2
  go_wp2
  all_goals
   have h3 := blk_set (blk_set (blk_set hres 0 (.slice none 0 0)) 1 (.slice none 0 0)) 2 (.int .i64 0)
   refine bodyPost_ret (results_ct rfl _ _ (w.heap.size + 2) 24 #[.slice none 0 0, .slice none 0 0, .int .i64 0] (0, 0) _ rfl h3 hu24 rfl (by kernel_rfl)) rfl ⟨by first | rfl | skip, ?_⟩
   exact (((hbT).setCell (p := ⟨w.heap.size + 2, 0, none⟩) (by simp) _).setCell (p := ⟨w.heap.size + 2, 1, none⟩) (by simp) _).setCell (p := ⟨w.heap.size + 2, 2, none⟩) (by simp) _

set_option maxRecDepth 100000 in
set_option maxHeartbeats 4000000 in
theorem cut_good (A0_0 : Option Addr) (c0_0 : Nat) (l0_0 : List Int) (A0_1 : Option Addr) (c0_1 : Nat) (l0_1 : List Int) (a0_2 : Int) (a1 : Int) (w : World) (hr0_0 : Kd.C (Kd.int .i64) w A0_0 l0_0.length l0_0) (hc0_0 : l0_0.length ≤ c0_0) (hr0_1 : Kd.C (Kd.int .i64) w A0_1 l0_1.length l0_1) (hc0_1 : l0_1.length ≤ c0_1) (h1 : lin_Check.val l0_0 l0_1 a0_2 65536 = 0) (hl : l0_1.length ≤ 1000) (h2 : 1 ≤ a1) (h3 : a1 ≤ 1099511627776) (r : List Int × List Int × Int) (hr : lin_Norm.val l0_0 l0_1 a0_2 = r) :
  Calls Try.prog 15 #[.agg #[.slice A0_0 l0_0.length c0_0, .slice A0_1 l0_1.length c0_1, .int .i64 a0_2], .int .i64 a1] w fun e w' => ∃ v0_ v1_ : Value, e = .returned (.tuple #[.agg #[v0_, v1_, .int .i64 (ceilQ a1 r.2.2)], .int .i64 0]) ∧ w'.ownsRow w.heap.size 3 1 v0_ (r.1.map (ceilQ a1)).length ((r.1.map (ceilQ a1)).map (Value.int .i64)) ∧ w'.ownsRow w.heap.size 3 1 v1_ r.2.1.length (r.2.1.map (Value.int .i64)) ∧ (∀ k, v0_.ownBlock = some k → v1_.ownBlock ≠ some k) ∧ Below w.heap.size w w' := by
 have hu24 := Try.underlying24
 have hu52 := Try.underlying52
 have hu50 := Try.underlying50
 have hb := (((Below.refl w.heap.size w).alloc (Nat.le_refl _) (.cells #[.slice A0_0 l0_0.length c0_0, .slice A0_1 l0_1.length c0_1, .int .i64 a0_2] 24)).alloc (by simp) (.cells #[.int .i64 a1] 3)).alloc (by simp; omega) (.cells #[.slice none 0 0, .slice none 0 0, .int .i64 0] 24)
 have k1 := lin_right.calls A0_0 c0_0 l0_0 A0_1 c0_1 l0_1 a0_2 _ (Kd.C_below hr0_0 hb) hc0_0 (Kd.C_below hr0_1 hb) hc0_1
 rw [h1] at k1
 have hR : NormR r := by rw [← hr]; exact norm_range hl
 have hr2 : ncut (nraw l0_0 l0_1 a0_2) = r := by rw [← hr]; unfold lin_Norm.val; rw [if_pos h1]
 have HB := Lib.hid hb
 have H0 := Lib.hid hr0_0
 have H1 := Lib.hid hr0_1
 have HV := Lib.hid (And.intro h1 (And.intro hl hr2))
 have HR := Lib.hid hR
 clear hb hr0_0 hr0_1 h1 hl hr hr2 hR
 go_enter Try.func15, Try.ntmps15
 go_wp2_with fail
 refine k1.mono ?_
 rintro e w1 ⟨rfl, hb1⟩
 clear k1
 have hres : w1.heap[w.heap.size + 2]? = some (.cells #[.slice none 0 0, .slice none 0 0, .int .i64 0] 24 (0, 0)) := (hb1.block (w.heap.size + 2) (by simp)).trans (by simpa using blk_new ((w.alloc (.cells #[.slice A0_0 l0_0.length c0_0, .slice A0_1 l0_1.length c0_1, .int .i64 a0_2] 24)).alloc (.cells #[.int .i64 a1] 3)) (.cells #[.slice none 0 0, .slice none 0 0, .int .i64 0] 24))
 have hby : w1.heap[w.heap.size + 1]? = some (.cells #[.int .i64 a1] 3 (0, 0)) := (hb1.block (w.heap.size + 1) (by simp)).trans (blk_alloc (by simpa using blk_new (w.alloc (.cells #[.slice A0_0 l0_0.length c0_0, .slice A0_1 l0_1.length c0_1, .int .i64 a0_2] 24)) (.cells #[.int .i64 a1] 3)) _)
 have hbox : w1.heap[w.heap.size]? = some (.cells #[.slice A0_0 l0_0.length c0_0, .slice A0_1 l0_1.length c0_1, .int .i64 a0_2] 24 (0, 0)) := (hb1.block w.heap.size (by simp; omega)).trans (blk_alloc (blk_alloc (blk_new w _) _) _)
 have hbT := HB.out.trans (hb1.mono (by simp; omega))
 clear hb1 HB
 have q0 : w1.cell? ⟨w.heap.size + 2, 0, none⟩ = some (.slice none 0 0) := (blk_cell hres 0).trans rfl
 have q1 : w1.cell? ⟨w.heap.size + 2, 1, none⟩ = some (.slice none 0 0) := (blk_cell hres 1).trans rfl
 have q2 : w1.cell? ⟨w.heap.size + 2, 2, none⟩ = some (.int .i64 0) := (blk_cell hres 2).trans rfl
 have f0 := blk_frozen hres 0
 have f1 := blk_frozen hres 1
 have f2 := blk_frozen hres 2
 have qb : w1.cell? ⟨w.heap.size + 1, 0, none⟩ = some (.int .i64 a1) := (blk_cell hby 0).trans rfl
 have hC1 := Kd.C_below H0.out hbT
 have hL1 := Kd.C_below H1.out hbT
 have p0 : w1.cell? ⟨w.heap.size, 0, none⟩ = some (.slice A0_0 l0_0.length c0_0) := (blk_cell hbox 0).trans rfl
 have p1 : w1.cell? ⟨w.heap.size, 1, none⟩ = some (.slice A0_1 l0_1.length c0_1) := (blk_cell hbox 1).trans rfl
 have p2 : w1.cell? ⟨w.heap.size, 2, none⟩ = some (.int .i64 a0_2) := (blk_cell hbox 2).trans rfl
 have e2 : decide (a1 < 1) = false := by simp; omega
 have e3 : decide (1099511627776 < a1) = false := by simp; omega
 have hsz := blk_lt hres
 have hnorm := norm_good A0_0 c0_0 l0_0 A0_1 c0_1 l0_1 a0_2 w1 hC1 hc0_0 hL1 hc0_1 HV.out.1 HV.out.2.1 r HV.out.2.2
 have HK := Lib.hid (And.intro hres (And.intro hby hbT))
 clear hC1 hL1 H0 H1 hres hby hbT f0 f1 f2 q0 q1 q2 hbox
 go_wp2_with fail
 all_goals
  refine hnorm.mono ?_
  rintro e w2 ⟨v0, v1, rfl, ho0, ho1, hne, hb2⟩
  clear hnorm
  obtain ⟨A0, c0, rfl, _, _⟩ := Kd.R_reads (Kd.R_of_own (enc := Value.int .i64) (h1 := fun _ => rfl) (ok := fun _ => True) ho0 (fun _ _ => trivial))
  obtain ⟨A1, c1, rfl, _, _⟩ := Kd.R_reads (Kd.R_of_own (enc := Value.int .i64) (h1 := fun _ => rfl) (ok := fun _ => True) ho1 (fun _ _ => trivial))
  have heach := each_calls w2.heap.size 40 (w.heap.size + 1) a1 (Value.slice A0 r.1.length c0) (Value.slice A1 r.2.1.length c1) r.1 (r.2.1.map (Value.int .i64)) r.2.2 (ceilQ a1) (w2.alloc (.cells #[(Value.slice A0 r.1.length c0), (Value.slice A1 r.2.1.length c1), .int .i64 r.2.2] 52)) w.heap.size
   (by
    have hb3 := (Below.refl w2.heap.size w2).alloc (Nat.le_refl _) (.cells #[(Value.slice A0 r.1.length c0), (Value.slice A1 r.2.1.length c1), .int .i64 r.2.2] 52)
    have hs2 := hb2.size
    refine ⟨blk_new _ _, ?_, ?_, hne, Below.refl _ _, by simp; omega, by omega, Nat.le_refl _, fun _ _ _ _ => rfl⟩
    ·
     exact own_weaken (own_move ho0 (fun k hk => hb3.block k (ownBlock_lt ho0 k hk))) (by omega)
    ·
     rw [List.length_map]
     exact own_weaken (own_move ho1 (fun k hk => hb3.block k (ownBlock_lt ho1 k hk))) (by omega))
   (by have := HR.out.le; omega)
   (by
    have hs2 := hb2.size
    have h4 := blk_alloc ((hb2.block (w.heap.size + 1) (by omega)).trans HK.out.2.1) (.cells #[(Value.slice A0 r.1.length c0), (Value.slice A1 r.2.1.length c1), .int .i64 r.2.2] 52)
    exact (blk_cell h4 0).trans rfl)
   (by have := hb2.size; omega)
   (fun e => by have := own_base ho0 _ e; omega)
   (enters_of Try.func40 (by kernel_rfl) rfl)
   (fun W x hW hx => by
    have hx2 : 0 ≤ x ∧ x ≤ 2000000000000000000 := by
     have hl := HR.out.least
     rcases hx with hx | hx
     ·
      have := HR.out.coef x hx; omega
     ·
      omega
    exact cut1_calls x a1 W hW hx2.1 hx2.2 h2 h3)
  have hres2 : (w2.alloc (.cells #[(Value.slice A0 r.1.length c0), (Value.slice A1 r.2.1.length c1), .int .i64 r.2.2] 52)).heap[w.heap.size + 2]? = some (.cells #[.slice none 0 0, .slice none 0 0, .int .i64 0] 24 (0, 0)) := blk_alloc ((hb2.block (w.heap.size + 2) (by omega)).trans HK.out.1) _
  have hB2 := (HK.out.2.2.trans (hb2.mono (by omega))).alloc (by have := hb2.size; omega) (.cells #[(Value.slice A0 r.1.length c0), (Value.slice A1 r.2.1.length c1), .int .i64 r.2.2] 52)
  have hnb : w.heap.size + 2 ≠ w2.heap.size := by have := hb2.size; omega
  have hnc : (Value.slice A0 r.1.length c0).ownBlock ≠ some (w.heap.size + 2) := fun e => by have := own_base ho0 _ e; omega
  have HX := Lib.hid (And.intro hres2 (And.intro hB2 (And.intro hnb hnc)))
  clear hres2 hB2 hnb hnc ho0 ho1 hne hb2 HK
  go_wp2_with fail
  refine heach.mono ?_
  rintro e w3 ⟨⟨_, rfl⟩, h4⟩
  clear heach
  have hres3 := (h4.frame (w.heap.size + 2) (blk_lt HX.out.1) HX.out.2.2.1 HX.out.2.2.2).trans HX.out.1
  have hB3 := HX.out.2.1.trans h4.below
  have q0 := (blk_cell h4.blk 0).trans rfl
  have q1 := (blk_cell h4.blk 1).trans rfl
  have q2 := (blk_cell h4.blk 2).trans rfl
  have r0 := (blk_cell hres3 0).trans rfl
  have r1 := (blk_cell hres3 1).trans rfl
  have r2 := (blk_cell hres3 2).trans rfl
  have g0 := blk_frozen hres3 0
  have g1 := blk_frozen hres3 1
  have g2 := blk_frozen hres3 2
  have H4 := Lib.hid (And.intro h4 (And.intro hres3 hB3))
  clear h4 hres3 hB3 HX
  go_wp2
  have h5 := blk_set (blk_set (blk_set H4.out.2.1 0 (Value.slice A0 r.1.length c0)) 1 (Value.slice A1 r.2.1.length c1)) 2 (.int .i64 (ceilQ a1 r.2.2))
  have hn : ∀ {v : Value} {xs : List Value} {n : Nat}, w3.ownsRow w.heap.size 3 1 v n xs → ∀ k, v.ownBlock = some k → (((w3.setCell ⟨w.heap.size + 2, 0, none⟩ (Value.slice A0 r.1.length c0)).setCell ⟨w.heap.size + 2, 1, none⟩ (Value.slice A1 r.2.1.length c1)).setCell ⟨w.heap.size + 2, 2, none⟩ (.int .i64 (ceilQ a1 r.2.2))).heap[k]? = w3.heap[k]? := fun h k hk => by
   have hkn : k ≠ w.heap.size + 2 := fun e => by obtain ⟨cells, hc⟩ := own_typed h k hk; rw [e, H4.out.2.1] at hc; simp at hc
   exact ((Below.heap_setCell _ ⟨w.heap.size + 2, 2, none⟩ _ k hkn).trans (Below.heap_setCell _ ⟨w.heap.size + 2, 1, none⟩ _ k hkn)).trans (Below.heap_setCell _ ⟨w.heap.size + 2, 0, none⟩ _ k hkn)
  have hne := H4.out.1.ne
  have hBl := H4.out.2.2
  refine bodyPost_ret (results_ct rfl _ _ (w.heap.size + 2) 24 #[(Value.slice A0 r.1.length c0), (Value.slice A1 r.2.1.length c1), .int .i64 (ceilQ a1 r.2.2)] (0, 0) _ rfl h5 hu24 rfl (by kernel_rfl)) rfl ⟨(Value.slice A0 r.1.length c0), (Value.slice A1 r.2.1.length c1), rfl, ?_, ?_, hne, ?_⟩
  ·
   simpa only [List.length_map, List.map_map] using own_move H4.out.1.ownC (hn H4.out.1.ownC)
  ·
   simpa only [List.length_map, List.map_map] using own_move H4.out.1.ownL (hn H4.out.1.ownL)
  ·
   exact ((hBl.setCell (p := ⟨w.heap.size + 2, 0, none⟩) (by simp) _).setCell (p := ⟨w.heap.size + 2, 1, none⟩) (by simp) _).setCell (p := ⟨w.heap.size + 2, 2, none⟩) (by simp) _

theorem lin_Cut.calls (A0_0 : Option Addr) (c0_0 : Nat) (l0_0 : List Int) (A0_1 : Option Addr) (c0_1 : Nat) (l0_1 : List Int) (a0_2 : Int) (a1 : Int) (r1 : List Int) (r2 : List Int) (r3 : Int) (r4 : Int) (w : World) (hr0_0 : Kd.C (Kd.int .i64) w A0_0 l0_0.length l0_0) (hc0_0 : l0_0.length ≤ c0_0) (hr0_1 : Kd.C (Kd.int .i64) w A0_1 l0_1.length l0_1) (hc0_1 : l0_1.length ≤ c0_1) (h : lin_Cut.f l0_0 l0_1 a0_2 a1 = some (r1, r2, r3, r4)) :
  Calls Try.prog 15 #[.agg #[.slice A0_0 l0_0.length c0_0, .slice A0_1 l0_1.length c0_1, .int .i64 a0_2], .int .i64 a1] w fun e w' => ∃ v0_ v1_ : Value, e = .returned (.tuple #[.agg #[v0_, v1_, .int .i64 r3], .int .i64 r4]) ∧ Kd.R (Kd.int .i64) 3 w' w.heap.size (fun k_ => some k_ ≠ (v1_ : Value).ownBlock) v0_ r1 ∧ Kd.R (Kd.int .i64) 3 w' w.heap.size (fun k_ => some k_ ≠ (v0_ : Value).ownBlock) v1_ r2 ∧ Below w.heap.size w w' := by
 unfold lin_Cut.f at h
 split at h
 case isFalse => cases h
 case isTrue hl =>
  have h := Option.some.inj h
  unfold lin_Cut.val at h
  split at h
  case isTrue hv =>
   split at h
   case isTrue hd =>
    cases h
    refine (cut_bad2 A0_0 c0_0 l0_0 A0_1 c0_1 l0_1 a0_2 a1 w hr0_0 hc0_0 hr0_1 hc0_1 hv hd).mono ?_
    rintro e w' ⟨rfl, hb⟩
    exact ⟨.slice none 0 0, .slice none 0 0, rfl, R_own (own_nil _ _ _ _) (fun k hk => by simp [Value.ownBlock] at hk), R_own (own_nil _ _ _ _) (fun k hk => by simp [Value.ownBlock] at hk), hb⟩
   case isFalse hd =>
    cases h
    refine (cut_good A0_0 c0_0 l0_0 A0_1 c0_1 l0_1 a0_2 a1 w hr0_0 hc0_0 hr0_1 hc0_1 hv hl (by omega) (by omega) _ rfl).mono ?_
    rintro e w' ⟨v0_, v1_, rfl, h0, h1, hn, hb⟩
    exact ⟨v0_, v1_, rfl, R_own h0 (fun k hk e => hn k hk e.symm), R_own h1 (fun k hk e => hn k e.symm hk), hb⟩
  case isFalse hv =>
   cases h
   refine (cut_bad1 A0_0 c0_0 l0_0 A0_1 c0_1 l0_1 a0_2 a1 w hr0_0 hc0_0 hr0_1 hc0_1 hv).mono ?_
   rintro e w' ⟨rfl, hb⟩
   exact ⟨.slice none 0 0, .slice none 0 0, rfl, R_own (own_nil _ _ _ _) (fun k hk => by simp [Value.ownBlock] at hk), R_own (own_nil _ _ _ _) (fun k hk => by simp [Value.ownBlock] at hk), hb⟩

end Go.Proofs.Ytmcljhjmmipagaa.PL
