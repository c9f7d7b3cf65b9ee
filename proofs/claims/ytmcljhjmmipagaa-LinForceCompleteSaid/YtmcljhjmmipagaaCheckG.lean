/- lin.Check and lin.right answer what 'lin_Check.val' says, for slices that read as lists; the conditions stand in each statement. -/
import Derived.Test.YtmcljhjmmipagaaPLx0
import Derived.Lib.Hide
import Derived.Shelf.Abstract
namespace Go.Proofs.Ytmcljhjmmipagaa.PL
open Go.RowKit Go.Proofs.YtmcljhjmmipagaaW.PrintWords Go.Proofs.YtmcljhjmmipagaaW.PrintLast Go.Proofs.YtmcljhjmmipagaaW.PrintMore
set_option linter.unusedVariables false
set_option linter.unusedSimpArgs false

def withinB (n : Int) : Bool := decide ((-1099511627776) ≤ n) && decide (n ≤ 1099511627776)
def wrongB (n lit : Int) : Bool := lit == 0 || (decide (n < lit) || decide (lit < -n))

theorem within_calls (n : Int) (w : World) : Calls Try.prog 35 #[.int .i64 n] w fun e w' => e = .returned (.bool (withinB n)) ∧ w = w' := by
 by_cases h1 : (-1099511627776) ≤ n
 ·
  by_cases h2 : n ≤ 1099511627776
  ·
   go_enter Try.func35, Try.ntmps35
   go_wp2
   go_ret
   exact ⟨by simp [withinB, h1, h2], rfl⟩
  ·
   go_enter Try.func35, Try.ntmps35
   go_wp2
   go_ret
   exact ⟨by simp [withinB, h2], rfl⟩
 ·
  go_enter Try.func35, Try.ntmps35
  go_wp2
  go_ret
  exact ⟨by simp [withinB]; omega, rfl⟩

theorem odd_calls (n : Int) (w : World) : Calls Try.prog 34 #[.int .i64 n] w fun e w' => e = .returned (.bool (!withinB n)) ∧ w = w' := by
 have h := within_calls n w
 generalize withinB n = b at h ⊢
 go_enter Try.func34, Try.ntmps34
 go_wp2_with (go_at_call 35; refine h.mono ?_; rintro e w' ⟨rfl, rfl⟩)
 go_ret
 exact ⟨rfl, rfl⟩

theorem wrong_calls (lit n : Int) (B : Nat) (w : World) (hc : w.cell? ⟨B, 0, none⟩ = some (.int .i64 n)) (h0 : 0 ≤ n) (h1 : n ≤ 65536) :
  Calls Try.prog 36 #[.int .i64 lit, .pointer (some ⟨B, 0, none⟩)] w fun e w' => e = .returned (.bool (wrongB n lit)) ∧ ∃ q, w' = w.drewN q := by
 rcases Int.lt_trichotomy lit 0 with h | h | h
 ·
  have hz : (lit == 0) = false := beq_eq_false_iff_ne.2 (by omega)
  have hg : decide (n < lit) = false := decide_eq_false (by omega)
  by_cases h2 : lit < -n
  ·
   have e : wrongB n lit = true := by simp [wrongB, h2]
   rw [e]; clear e
   go_enter Try.func36, Try.ntmps36
   go_wp2
   go_ret
   exact ⟨rfl, 0, rfl⟩
  ·
   have e : wrongB n lit = false := by simp [wrongB]; omega
   rw [e]; clear e
   go_enter Try.func36, Try.ntmps36
   go_wp2
   go_ret
   exact ⟨rfl, 0, rfl⟩
 ·
  subst h
  have e : wrongB n 0 = true := by simp [wrongB]
  rw [e]; clear e
  go_enter Try.func36, Try.ntmps36
  go_wp2
  go_ret
  exact ⟨rfl, 0, rfl⟩
 ·
  have hz : (lit == 0) = false := beq_eq_false_iff_ne.2 (by omega)
  by_cases h2 : n < lit
  ·
   have e : wrongB n lit = true := by simp [wrongB, h2]
   rw [e]; clear e
   go_enter Try.func36, Try.ntmps36
   go_wp2
   go_ret
   exact ⟨rfl, 0, rfl⟩
  ·
   have e : wrongB n lit = false := by simp [wrongB]; omega
   rw [e]; clear e
   have hl : ¬ lit < -n := by omega
   go_enter Try.func36, Try.ntmps36
   go_wp2
   go_ret
   exact ⟨rfl, 0, rfl⟩

/-- What is asked of a predicate handed to slices.IndexFunc. -/
def Pred (g : Nat) (lb : Array Value) (p : Int → Bool) (w : World) : Prop := ∀ (x : Int) (q : Nat), Calls Try.prog g (#[.int .i64 x] ++ lb) (w.drewN q) fun e w' => e = .returned (.bool (p x)) ∧ ∃ q', w' = (w.drewN q).drewN q'

/-- From place k on: the first place at which p holds, or -1. -/
def idx (p : Int → Bool) : List Int → Int → Int
 | [], _ => -1
 | x :: l, k => if p x = true then k else idx p l (k + 1)
theorem idx_cons (p : Int → Bool) (x : Int) (l : List Int) (k : Int) : idx p (x :: l) k = if p x = true then k else idx p l (k + 1) := rfl
theorem idx_nonneg (p : Int → Bool) : ∀ (l : List Int) (k : Int), 0 ≤ k → decide (0 ≤ idx p l k) = l.any p
 | [], k, _ => by simp [idx]
 | x :: l, k, h => by
  unfold idx
  by_cases c : p x = true
  ·
   rw [if_pos c]; simp [c, h]
  ·
   rw [if_neg c, idx_nonneg p l (k + 1) (by omega)]; simp [c]
theorem idx_range (p : Int → Bool) : ∀ (l : List Int) (k : Int), 0 ≤ k → -1 ≤ idx p l k
 | [], k, _ => by simp [idx]
 | x :: l, k, h => by
  unfold idx
  by_cases c : p x = true
  ·
   rw [if_pos c]; omega
  ·
   rw [if_neg c]; exact idx_range p l (k + 1) (by omega)
theorem drop_rd {l : List Int} {k : Nat} (h : k < l.length) : l.drop k = rd l (k : Int) :: l.drop (k + 1) := by
 rw [List.drop_eq_getElem_cons h]
 congr 1
 simp [rd, h]

set_option maxHeartbeats 1000000 in
theorem IndexFunc_calls (g : Nat) (lb : Array Value) (p : Int → Bool) (eg : ∀ args w, (callFunc g args).run Try.prog w = .ok (.enter g args) w) (A : Option Addr) (c : Nat) (xs : List Int) (w : World) (hC : Kd.C (Kd.int .i64) w A xs.length xs) (hp : Pred g lb p w) :
  Calls Try.prog 60 #[.slice A xs.length c, .func (.func g) #[] lb] w fun e w' => e = .returned (.int .i64 (idx p xs 0)) ∧ ∃ q, w' = w.drewN q := by
 have hbig := hC.2.1
 have hp' := Lib.hid hp
 have hC' := Lib.hid hC
 clear hp hC
 go_enter Try.func60, Try.ntmps60
 go_wp2
 go_loopg [5, 8] xs.length (fun gg _ s8 wr => ∃ kk q : Nat, kk ≤ xs.length ∧ xs.length - kk ≤ gg ∧ s8 = .int .i64 kk ∧ wr = w.drewN q ∧ Aside0 (idx p xs 0 = idx p (xs.drop kk) kk))
 case atStart => exact ⟨0, 0, Nat.zero_le _, by omega, rfl, rfl, ⟨by simp⟩⟩
 case round =>
  obtain ⟨kk, q, hkk, hg, rfl, rfl, HA⟩ := hrel
  by_cases hlt : kk < xs.length
  ·
   have hltz : (kk : Int) < (xs.length : Int) := by omega
   have hd := drop_rd hlt
   obtain ⟨ad, rfl, hcell⟩ := Kd.at_int hC'.out (kk : Int) (by omega) hltz
   rw [Int.toNat_natCast] at hcell
   generalize hy : rd xs (kk : Int) = y at hcell hd
   have HA2 := HA.out
   rw [hd, idx_cons] at HA2
   clear hy HA hd
   have hcall := hp'.out y
   cases hq : p y with
   | true =>
    rw [hq] at hcall HA2
    rw [if_pos rfl] at HA2
    have HA3 := Lib.hid HA2
    clear HA2
    go_wp2_with (go_at_fn g; refine (hcall _).mono ?_; rintro e w' ⟨rfl, q', rfl⟩)
    go_ret
    exact ⟨by rw [HA3.out]; rfl, _, rfl⟩
   | false =>
    rw [hq] at hcall HA2
    rw [if_neg (by simp)] at HA2
    have HA3 := Lib.hid HA2
    clear HA2
    go_wp2_with (go_at_fn g; refine (hcall _).mono ?_; rintro e w' ⟨rfl, q', rfl⟩)
    go_roundg (xs.length - (kk + 1))
    case measure => omega
    case rel => exact ⟨kk + 1, _, by omega, by omega, by go_num, rfl, ⟨by rw [HA3.out]; rfl⟩⟩
  ·
   have hltz : ¬ (kk : Int) < (xs.length : Int) := by omega
   go_wp2
   go_ret
   exact ⟨by rw [HA.out, List.drop_of_length_le (by omega)]; rfl, q, rfl⟩

theorem ContainsFunc_calls (g : Nat) (lb : Array Value) (p : Int → Bool) (eg : ∀ args w, (callFunc g args).run Try.prog w = .ok (.enter g args) w) (A : Option Addr) (c : Nat) (xs : List Int) (w : World) (hC : Kd.C (Kd.int .i64) w A xs.length xs) (hp : Pred g lb p w) :
  Calls Try.prog 37 #[.slice A xs.length c, .func (.func g) #[] lb] w fun e w' => e = .returned (.bool (xs.any p)) ∧ ∃ q, w' = w.drewN q := by
 have h := IndexFunc_calls g lb p eg A c xs w hC hp
 rw [← idx_nonneg p xs 0 (by omega)]
 have hr := idx_range p xs 0 (by omega)
 generalize idx p xs 0 = r at h hr ⊢
 clear hC hp
 go_enter Try.func37, Try.ntmps37
 go_wp2_with (go_at_call 60; refine h.mono ?_; rintro e w' ⟨rfl, q, rfl⟩)
 go_ret
 exact ⟨rfl, q, rfl⟩

/-- What lin.Check answers. -/
def lin_Check.val (C L : List Int) (least n : Int) : Int :=
 if n < 0 then 1 else if 65536 < n then 1 else if (C.length : Int) = (L.length : Int) then (if withinB least = true then (if (C.any fun c => !withinB c) = true then 1 else if (L.any (wrongB n)) = true then 1 else if 4096 < (L.length : Int) then 2 else 0) else 1) else 1
def lin_Check.f (C L : List Int) (least n : Int) : Option Int := some (lin_Check.val C L least n)

theorem pred_odd (w : World) : Pred 34 #[] (fun c => !withinB c) w := fun x q => (odd_calls x _).mono (by rintro e w' ⟨rfl, rfl⟩; exact ⟨rfl, 0, rfl⟩)
theorem pred_wrong (n : Int) (B : Nat) (w : World) (hc : w.cell? ⟨B, 0, none⟩ = some (.int .i64 n)) (h0 : 0 ≤ n) (h1 : n ≤ 65536) : Pred 36 #[.pointer (some ⟨B, 0, none⟩)] (wrongB n) w :=
 fun x q => wrong_calls x n B _ (by simpa using hc) h0 h1
theorem eg34 : ∀ args w, (callFunc 34 args).run Try.prog w = .ok (.enter 34 args) w := enters_of Try.func34 (by kernel_rfl) rfl
theorem eg36 : ∀ args w, (callFunc 36 args).run Try.prog w = .ok (.enter 36 args) w := enters_of Try.func36 (by kernel_rfl) rfl

set_option maxRecDepth 100000 in
set_option maxHeartbeats 2000000 in
theorem lin_Check.calls (A0_0 : Option Addr) (c0_0 : Nat) (l0_0 : List Int) (A0_1 : Option Addr) (c0_1 : Nat) (l0_1 : List Int) (a0_2 : Int) (a1 : Int) (r : Int) (w : World) (hr0_0 : Kd.C (Kd.int .i64) w A0_0 l0_0.length l0_0) (hc0_0 : l0_0.length ≤ c0_0) (hr0_1 : Kd.C (Kd.int .i64) w A0_1 l0_1.length l0_1) (hc0_1 : l0_1.length ≤ c0_1) (h : lin_Check.f l0_0 l0_1 a0_2 a1 = some r) :
  Calls Try.prog 14 #[.agg #[.slice A0_0 l0_0.length c0_0, .slice A0_1 l0_1.length c0_1, .int .i64 a0_2], .int .i64 a1] w fun e w' => e = .returned (.int .i64 r) ∧ Below w.heap.size w w' := by
 obtain rfl := Option.some.inj h
 clear h
 have hu24 := Try.underlying24
 have hb := ((Below.refl w.heap.size w).alloc (Nat.le_refl _) (.cells #[.slice A0_0 l0_0.length c0_0, .slice A0_1 l0_1.length c0_1, .int .i64 a0_2] 24)).alloc (by simp) (.cells #[.int .i64 a1] 3)
 have hfin : ∀ q, Below w.heap.size w (((w.alloc (.cells #[.slice A0_0 l0_0.length c0_0, .slice A0_1 l0_1.length c0_1, .int .i64 a0_2] 24)).alloc (.cells #[.int .i64 a1] 3)).drewN q) := fun q => ⟨hb.os, hb.tape, hb.output, hb.size, hb.block⟩
 have H0 := Lib.hid hr0_0
 have H1 := Lib.hid hr0_1
 have HB := Lib.hid hb
 have HF := Lib.hid hfin
 clear hr0_0 hr0_1 hb hfin
 unfold lin_Check.val
 by_cases h0 : a1 < 0
 ·
  rw [if_pos h0]
  go_enter Try.func14, Try.ntmps14
  go_wp2
  go_ret
  exact ⟨rfl, HB.out⟩
 rw [if_neg h0]
 by_cases h1 : 65536 < a1
 ·
  rw [if_pos h1]
  go_enter Try.func14, Try.ntmps14
  go_wp2
  go_ret
  exact ⟨rfl, HB.out⟩
 rw [if_neg h1]
 by_cases h2 : (l0_0.length : Int) = (l0_1.length : Int)
 ·
  rw [if_pos h2]
  have e2 : ((l0_0.length : Int) != (l0_1.length : Int)) = false := bne_eq_false_iff_eq.2 h2
  have e3 : (l0_0.length == l0_1.length) = true := by simp; omega
  clear h2
  cases h3 : withinB a0_2 with
  | false =>
   have ho := odd_calls a0_2
   rw [h3] at ho
   rw [if_neg (by simp)]
   clear h3
   go_enter Try.func14, Try.ntmps14
   go_wp2_with (go_at_call 34; refine (ho _).mono ?_; rintro e w' ⟨rfl, rfl⟩)
   go_ret
   exact ⟨rfl, HB.out⟩
  | true =>
   have ho := odd_calls a0_2
   rw [h3] at ho
   rw [if_pos rfl]
   clear h3
   have k1 := ContainsFunc_calls 34 #[] (fun c => !withinB c) eg34 A0_0 c0_0 l0_0 _ (Kd.C_below H0.out (HB.out)) (pred_odd _)
   have k2 := fun q => ContainsFunc_calls 36 #[.pointer (some ⟨w.heap.size + 1, 0, none⟩)] (wrongB a1) eg36 A0_1 c0_1 l0_1 _ (Kd.C_below H1.out (HF.out q)) (pred_wrong a1 (w.heap.size + 1) _ (by simp) (by omega) (by omega))
   generalize (l0_0.any fun c => !withinB c) = b1 at k1 ⊢
   generalize (l0_1.any (wrongB a1)) = b2 at k2 ⊢
   have hlen := H1.out.2.1
   cases b1 with
   | true =>
    rw [if_pos rfl]
    clear k2
    go_enter Try.func14, Try.ntmps14
    go_wp2_with (go_at_call 34; refine (ho _).mono ?_; rintro e w' ⟨rfl, rfl⟩)
    refine k1.mono ?_
    rintro e w' ⟨rfl, q, rfl⟩
    go_wp2
    go_ret
    exact ⟨rfl, HF.out q⟩
   | false =>
    rw [if_neg (by simp)]
    cases b2 with
    | true =>
     rw [if_pos rfl]
     go_enter Try.func14, Try.ntmps14
     go_wp2_with (go_at_call 34; refine (ho _).mono ?_; rintro e w' ⟨rfl, rfl⟩)
     refine k1.mono ?_
     rintro e w' ⟨rfl, q, rfl⟩
     go_wp2_with fail
     refine (k2 _).mono ?_
     rintro e w' ⟨rfl, q, rfl⟩
     go_wp2
     go_ret
     exact ⟨rfl, HF.out _⟩
    | false =>
     rw [if_neg (by simp)]
     by_cases h4 : 4096 < (l0_1.length : Int)
     ·
      rw [if_pos h4]
      have h4n : 4096 < l0_1.length := by omega
      go_enter Try.func14, Try.ntmps14
      go_wp2_with (go_at_call 34; refine (ho _).mono ?_; rintro e w' ⟨rfl, rfl⟩)
      refine k1.mono ?_
      rintro e w' ⟨rfl, q, rfl⟩
      go_wp2_with fail
      refine (k2 _).mono ?_
      rintro e w' ⟨rfl, q, rfl⟩
      go_wp2
      go_ret
      exact ⟨rfl, HF.out _⟩
     ·
      rw [if_neg h4]
      have h4n : ¬ 4096 < l0_1.length := by omega
      go_enter Try.func14, Try.ntmps14
      go_wp2_with (go_at_call 34; refine (ho _).mono ?_; rintro e w' ⟨rfl, rfl⟩)
      refine k1.mono ?_
      rintro e w' ⟨rfl, q, rfl⟩
      go_wp2_with fail
      refine (k2 _).mono ?_
      rintro e w' ⟨rfl, q, rfl⟩
      go_wp2
      go_ret
      exact ⟨rfl, HF.out _⟩
 ·
  rw [if_neg h2]
  have e2 : ((l0_0.length : Int) != (l0_1.length : Int)) = true := bne_iff_ne.2 h2
  have e3 : (l0_0.length == l0_1.length) = false := by simp; omega
  clear h2
  go_enter Try.func14, Try.ntmps14
  go_wp2
  go_ret
  exact ⟨rfl, HB.out⟩

theorem lin_right.calls (A0_0 : Option Addr) (c0_0 : Nat) (l0_0 : List Int) (A0_1 : Option Addr) (c0_1 : Nat) (l0_1 : List Int) (a0_2 : Int) (w : World) (hr0_0 : Kd.C (Kd.int .i64) w A0_0 l0_0.length l0_0) (hc0_0 : l0_0.length ≤ c0_0) (hr0_1 : Kd.C (Kd.int .i64) w A0_1 l0_1.length l0_1) (hc0_1 : l0_1.length ≤ c0_1) :
  Calls Try.prog 38 #[.agg #[.slice A0_0 l0_0.length c0_0, .slice A0_1 l0_1.length c0_1, .int .i64 a0_2]] w fun e w' => e = .returned (.int .i64 (lin_Check.val l0_0 l0_1 a0_2 65536)) ∧ Below w.heap.size w w' := by
 have hu24 := Try.underlying24
 have hb := (Below.refl w.heap.size w).alloc (Nat.le_refl _) (.cells #[.slice A0_0 l0_0.length c0_0, .slice A0_1 l0_1.length c0_1, .int .i64 a0_2] 24)
 have k := lin_Check.calls A0_0 c0_0 l0_0 A0_1 c0_1 l0_1 a0_2 65536 _ _ (Kd.C_below hr0_0 hb) hc0_0 (Kd.C_below hr0_1 hb) hc0_1 rfl
 generalize lin_Check.val l0_0 l0_1 a0_2 65536 = r at k ⊢
 clear hr0_0 hr0_1 hc0_0 hc0_1
 have HB := Lib.hid hb
 clear hb
 go_enter Try.func38, Try.ntmps38
 go_wp2_with (go_at_call 14; refine k.mono ?_; rintro e w1 ⟨rfl, hb1⟩)
 go_ret
 exact ⟨rfl, HB.out.trans (hb1.mono (by simp))⟩

end Go.Proofs.Ytmcljhjmmipagaa.PL
