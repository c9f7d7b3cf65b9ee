/- lin.Value answers what 'lin_Value.val' says, for slices that read as lists; the conditions stand in each statement. -/
import Derived.Test.YtmcljhjmmipagaaCheckG
import Derived.Test.YtmcljhjmmipagaaFoldG
import Derived.Deep.RegionHeld3
namespace Go.Proofs.Ytmcljhjmmipagaa.PL
open Go.RowKit Go.Proofs.YtmcljhjmmipagaaW.PrintWords Go.Proofs.YtmcljhjmmipagaaW.PrintLast Go.Proofs.YtmcljhjmmipagaaW.PrintMore
set_option linter.unusedVariables false
set_option linter.unusedSimpArgs false

def ofI (lit : Int) : Int := if lit < 0 then -lit else lit
def litT (a : List Bool) (lit : Int) : Bool := (if ofI lit < (a.length : Int) then rdOf false a (ofI lit) else false) == decide (0 < lit)
def dot (t : Int → Bool) : List Int → List Int → Int
 | c :: C, l :: L => (if t l = true then c else 0) + dot t C L
 | _, _ => 0
def okC (C : List Int) : Prop := ∀ c ∈ C, -1099511627776 ≤ c ∧ c ≤ 1099511627776
def okL (L : List Int) : Prop := ∀ l ∈ L, -65536 ≤ l ∧ l ≤ 65536 ∧ l ≠ 0

theorem val_zero {C L : List Int} {least : Int} (h : lin_Check.val C L least 65536 = 0) : C.length = L.length ∧ withinB least = true ∧ okC C ∧ okL L ∧ L.length ≤ 4096 := by
 unfold lin_Check.val at h
 rw [if_neg (by omega), if_neg (by omega)] at h
 by_cases h2 : (C.length : Int) = (L.length : Int)
 ·
  rw [if_pos h2] at h
  by_cases h3 : withinB least = true
  ·
   rw [if_pos h3] at h
   by_cases h4 : (C.any fun c => !withinB c) = true
   ·
    rw [if_pos h4] at h; omega
   ·
    rw [if_neg h4] at h
    by_cases h5 : (L.any (wrongB 65536)) = true
    ·
     rw [if_pos h5] at h; omega
    ·
     rw [if_neg h5] at h
     by_cases h6 : 4096 < (L.length : Int)
     ·
      rw [if_pos h6] at h; omega
     ·
      refine ⟨by omega, h3, fun c hc => ?_, fun l hl => ?_, by omega⟩
      ·
       have : withinB c = true := by
        cases e : withinB c with
        | true => rfl
        | false => exact absurd (List.any_eq_true.2 ⟨c, hc, by rw [e]; rfl⟩) h4
       simpa [withinB] using this
      ·
       have : wrongB 65536 l = false := by
        cases e : wrongB 65536 l with
        | false => rfl
        | true => exact absurd (List.any_eq_true.2 ⟨l, hl, e⟩) h5
       simp [wrongB] at this
       exact ⟨by omega, by omega, this.1⟩
  ·
   rw [if_neg h3] at h; omega
 ·
  rw [if_neg h2] at h; omega

theorem rd_mem {l : List Int} {k : Nat} (h : k < l.length) : rd l (k : Int) ∈ l := by
 have e : rd l (k : Int) = l[k] := by simp [rd, h]
 rw [e]; exact List.getElem_mem _
theorem take_rd {l : List Int} {k : Nat} (h : k < l.length) : l.take (k + 1) = l.take k ++ [rd l (k : Int)] := by
 rw [List.take_succ_eq_append_getElem h]
 congr 2
 simp [rd, h]
theorem dot_snoc (t : Int → Bool) : ∀ (C L : List Int) (c l : Int), C.length = L.length → dot t (C ++ [c]) (L ++ [l]) = dot t C L + (if t l = true then c else 0)
 | [], [], c, l, _ => by simp [dot]
 | a :: C, b :: L, c, l, h => by
  simp only [List.cons_append, dot]
  rw [dot_snoc t C L c l (by simpa using h)]
  omega
 | [], _ :: _, _, _, h => by simp at h
 | _ :: _, [], _, _, h => by simp at h
theorem dot_bound (t : Int → Bool) : ∀ (C L : List Int), okC C → -((C.length : Int) * 1099511627776) ≤ dot t C L ∧ dot t C L ≤ (C.length : Int) * 1099511627776
 | [], L, _ => by simp [dot]
 | a :: C, [], h => by simp only [dot, List.length_cons]; omega
 | a :: C, b :: L, h => by
  have ha := h a (by simp)
  have := dot_bound t C L (fun c hc => h c (by simp [hc]))
  simp only [dot, List.length_cons]
  split <;> omega

attribute [local go_sem] max2_int min2_int max_two min_two max_three min_three max_four min_four   -- for this text's walks alone
def ofW (lit : Int) : Int := if lit < wrap64 (-lit) then wrap64 (-lit) else lit
theorem ofW_eq {lit : Int} (h0 : -9223372036854775808 < lit) (h1 : lit ≤ 9223372036854775807) : ofW lit = ofI lit := by
 have e : wrap64 (-lit) = -lit := by unfold wrap64; omega
 unfold ofW ofI; rw [e]
 split <;> split <;> omega
theorem of_calls (lit : Int) (w : World) : Calls Try.prog 44 #[.int .i64 lit] w fun e w' => e = .returned (.int .i64 (ofW lit)) ∧ w = w' := by
 unfold ofW
 go_enter Try.func44, Try.ntmps44
 by_cases h : lit < wrap64 (-lit)
 ·
  go_wp2
  go_ret
  exact ⟨by simp [h], rfl⟩
 ·
  go_wp2
  go_ret
  exact ⟨by simp [h], rfl⟩

theorem ofI_nonneg (lit : Int) : 0 ≤ ofI lit := by unfold ofI; split <;> omega

set_option maxRecDepth 100000 in
theorem valStep_calls (n c lit : Int) (Bp : Nat) (Aa : Option Addr) (a : List Bool) (ca : Nat) (w : World) (hcell : w.cell? ⟨Bp, 0, none⟩ = some (.slice Aa a.length ca)) (hC : Kd.C Kd.bool w Aa a.length a) (hl0 : -65536 ≤ lit) (hl1 : lit ≤ 65536)
  (hn0 : -9223372036854775808 ≤ n + c) (hn1 : n + c ≤ 9223372036854775807) :
  Calls Try.prog 55 #[.int .i64 n, .int .i64 c, .int .i64 lit, .pointer (some ⟨Bp, 0, none⟩)] w fun e w' => e = .returned (.int .i64 (n + (if litT a lit = true then c else 0))) ∧ ∃ q, w' = w.drewN q := by
 have ho := of_calls lit
 rw [ofW_eq (by omega) (by omega)] at ho
 have hv0 := ofI_nonneg lit
 unfold litT
 generalize ofI lit = v at ho hv0 ⊢
 by_cases h : v < (a.length : Int)
 ·
  rw [if_pos h]
  obtain ⟨ad, rfl, hx⟩ := Kd.at_bool hC v hv0 h
  generalize rdOf false a v = b at hx ⊢
  clear hC
  by_cases hp : 0 < lit
  ·
   have e : decide (0 < lit) = true := decide_eq_true hp
   rw [e]
   cases b with
   | true =>
    go_enter Try.func55, Try.ntmps55
    go_wp2_with (go_at_call 44; refine (ho _).mono ?_; rintro e w' ⟨rfl, rfl⟩)
    go_ret
    exact ⟨by simp, 0, rfl⟩
   | false =>
    go_enter Try.func55, Try.ntmps55
    go_wp2_with (go_at_call 44; refine (ho _).mono ?_; rintro e w' ⟨rfl, rfl⟩)
    go_ret
    exact ⟨by simp, 0, rfl⟩
  ·
   have e : decide (0 < lit) = false := decide_eq_false hp
   rw [e]
   cases b with
   | true =>
    go_enter Try.func55, Try.ntmps55
    go_wp2_with (go_at_call 44; refine (ho _).mono ?_; rintro e w' ⟨rfl, rfl⟩)
    go_ret
    exact ⟨by simp, 0, rfl⟩
   | false =>
    go_enter Try.func55, Try.ntmps55
    go_wp2_with (go_at_call 44; refine (ho _).mono ?_; rintro e w' ⟨rfl, rfl⟩)
    go_ret
    exact ⟨by simp, 0, rfl⟩
 ·
  rw [if_neg h]
  clear hC
  by_cases hp : 0 < lit
  ·
   have e : decide (0 < lit) = true := decide_eq_true hp
   rw [e]
   go_enter Try.func55, Try.ntmps55
   go_wp2_with (go_at_call 44; refine (ho _).mono ?_; rintro e w' ⟨rfl, rfl⟩)
   go_ret
   exact ⟨by simp, 0, rfl⟩
  ·
   have e : decide (0 < lit) = false := decide_eq_false hp
   rw [e]
   go_enter Try.func55, Try.ntmps55
   go_wp2_with (go_at_call 44; refine (ho _).mono ?_; rintro e w' ⟨rfl, rfl⟩)
   go_ret
   exact ⟨by simp, 0, rfl⟩

theorem eg55 : ∀ args w, (callFunc 55 args).run Try.prog w = .ok (.enter 55 args) w := enters_of Try.func55 (by kernel_rfl) rfl

/-- The sum of the coefficients of the true literals, as the fold makes it. -/
theorem foldVal_calls (A0 : Option Addr) (c0 : Nat) (C : List Int) (A1 : Option Addr) (c1 : Nat) (L : List Int) (least : Int) (Bp : Nat) (Aa : Option Addr) (a : List Bool) (ca : Nat) (w : World)
  (hcell : w.cell? ⟨Bp, 0, none⟩ = some (.slice Aa a.length ca)) (hBp : Bp < w.heap.size) (ha : Kd.C Kd.bool w Aa a.length a) (hC : Kd.C (Kd.int .i64) w A0 C.length C) (hL : Kd.C (Kd.int .i64) w A1 L.length L)
  (hlen : C.length = L.length) (oc : okC C) (ol : okL L) (hm : L.length ≤ 4096) :
  Calls Try.prog 51 #[.agg #[.slice A0 C.length c0, .slice A1 L.length c1, .int .i64 least], .int .i64 0, .func (.func 55) #[] #[.pointer (some ⟨Bp, 0, none⟩)]] w fun e w' => e = .returned (.int .i64 (dot (litT a) C L)) ∧ Below w.heap.size w w' := by
 have hb0 := (Below.refl w.heap.size w).alloc (Nat.le_refl _) (.cells #[.slice A0 C.length c0, .slice A1 L.length c1, .int .i64 least] 24)
 have k := fold_int 55 #[.pointer (some ⟨Bp, 0, none⟩)] eg55 A0 c0 C A1 c1 L least (.int .i64 0) w hlen (by omega)
  (fun k v W => v = .int .i64 (dot (litT a) (C.take k) (L.take k)) ∧ Below (w.heap.size + 1) (w.alloc (.cells #[.slice A0 C.length c0, .slice A1 L.length c1, .int .i64 least] 24)) W)
  ⟨by simp [dot], Below.refl _ _⟩
  (fun k v W hJ => ⟨by have := hJ.2.cell (p := ⟨w.heap.size, 0, none⟩) (by simp); rw [this]; simp, Kd.C_below hC (hb0.trans (hJ.2.mono (by omega))), Kd.C_below hL (hb0.trans (hJ.2.mono (by omega)))⟩)
  (fun k v W hk hJ => ?_)
 ·
  refine k.mono ?_
  rintro e w' ⟨v, rfl, rfl, hb⟩
  refine ⟨by rw [List.take_of_length_le (by omega), List.take_of_length_le (by omega)], hb0.trans (hb.mono (by omega))⟩
 ·
  obtain ⟨rfl, hb⟩ := hJ
  have hbw := hb0.trans (hb.mono (show w.heap.size ≤ w.heap.size + 1 by omega))
  have hkC : k < C.length := by omega
  have hl := ol _ (rd_mem hk)
  have hc := oc _ (rd_mem hkC)
  have hd := dot_bound (litT a) (C.take k) (L.take k) (fun c h => oc c (List.mem_of_mem_take h))
  rw [List.length_take] at hd
  refine (valStep_calls (dot (litT a) (C.take k) (L.take k)) (rd C k) (rd L k) Bp Aa a ca W ((hbw.cell (p := ⟨Bp, 0, none⟩) hBp).trans hcell) (Kd.C_below ha hbw) hl.1 hl.2.1 (by omega) (by omega)).mono ?_
  rintro e w' ⟨rfl, q, rfl⟩
  refine ⟨_, rfl, ?_, ⟨hb.os, hb.tape, hb.output, hb.size, hb.block⟩⟩
  rw [take_rd hk, take_rd hkC, dot_snoc _ _ _ _ _ (by simp; omega)]

def lin_Value.val (C L : List Int) (least : Int) (a : List Bool) : Bool := if lin_Check.val C L least 65536 = 0 then decide (least ≤ dot (litT a) C L) else false
def lin_Value.f (C L : List Int) (least : Int) (a : List Bool) : Option Bool := some (lin_Value.val C L least a)

set_option maxRecDepth 100000 in
set_option maxHeartbeats 2000000 in
theorem lin_Value.calls (A0_0 : Option Addr) (c0_0 : Nat) (l0_0 : List Int) (A0_1 : Option Addr) (c0_1 : Nat) (l0_1 : List Int) (a0_2 : Int) (A1 : Option Addr) (c1 : Nat) (l1 : List Bool) (r : Bool) (w : World) (hr0_0 : Kd.C (Kd.int .i64) w A0_0 l0_0.length l0_0) (hc0_0 : l0_0.length ≤ c0_0) (hr0_1 : Kd.C (Kd.int .i64) w A0_1 l0_1.length l0_1) (hc0_1 : l0_1.length ≤ c0_1) (hr1 : Kd.C Kd.bool w A1 l1.length l1) (hc1 : l1.length ≤ c1) (h : lin_Value.f l0_0 l0_1 a0_2 l1 = some r) :
  Calls Try.prog 20 #[.agg #[.slice A0_0 l0_0.length c0_0, .slice A0_1 l0_1.length c0_1, .int .i64 a0_2], .slice A1 l1.length c1] w fun e w' => e = .returned (.bool r) ∧ Below w.heap.size w w' := by
 obtain rfl := Option.some.inj h
 clear h
 have hu24 := Try.underlying24
 have hb := ((Below.refl w.heap.size w).alloc (Nat.le_refl _) (.cells #[.slice A0_0 l0_0.length c0_0, .slice A0_1 l0_1.length c0_1, .int .i64 a0_2] 24)).alloc (by simp) (.cells #[.slice A1 l1.length c1] 34)
 have k1 := lin_right.calls A0_0 c0_0 l0_0 A0_1 c0_1 l0_1 a0_2 _ (Kd.C_below hr0_0 hb) hc0_0 (Kd.C_below hr0_1 hb) hc0_1
 unfold lin_Value.val
 by_cases h1 : lin_Check.val l0_0 l0_1 a0_2 65536 = 0
 ·
  rw [if_pos h1]
  rw [h1] at k1
  obtain ⟨hlen, hw, oc, ol, hm⟩ := val_zero h1
  clear h1
  have HB := Lib.hid hb
  have H0 := Lib.hid hr0_0
  have H1 := Lib.hid hr0_1
  have H2 := Lib.hid hr1
  have HL := Lib.hid hlen
  clear hb hr0_0 hr0_1 hr1 hlen
  have k2 : ∀ W, Below (w.heap.size + 2) ((w.alloc (.cells #[.slice A0_0 l0_0.length c0_0, .slice A0_1 l0_1.length c0_1, .int .i64 a0_2] 24)).alloc (.cells #[.slice A1 l1.length c1] 34)) W → Calls Try.prog 51 #[.agg #[.slice A0_0 l0_0.length c0_0, .slice A0_1 l0_1.length c0_1, .int .i64 a0_2], .int .i64 0, .func (.func 55) #[] #[.pointer (some ⟨w.heap.size + 1, 0, none⟩)]] W fun e w' => e = .returned (.int .i64 (dot (litT l1) l0_0 l0_1)) ∧ Below W.heap.size W w' := by
   intro W hbW
   have hbw := HB.out.trans (hbW.mono (show w.heap.size ≤ w.heap.size + 2 by omega))
   exact foldVal_calls A0_0 c0_0 l0_0 A0_1 c0_1 l0_1 a0_2 (w.heap.size + 1) A1 l1 c1 W (by rw [hbW.cell (p := ⟨w.heap.size + 1, 0, none⟩) (by simp)]; simp) (by have := hbW.size; simp at this; omega) (Kd.C_below H2.out hbw) (Kd.C_below H0.out hbw) (Kd.C_below H1.out hbw) HL.out oc ol hm
  generalize dot (litT l1) l0_0 l0_1 = d at k2 ⊢
  have K2 := Lib.hid k2
  clear k2
  go_enter Try.func20, Try.ntmps20
  go_wp2_with (go_at_call 38; refine k1.mono ?_; rintro e w1 ⟨rfl, hb1⟩)
  have q0 : w1.cell? ⟨w.heap.size, 0, none⟩ = some (.slice A0_0 l0_0.length c0_0) := by rw [hb1.cell (p := ⟨w.heap.size, 0, none⟩) (by simp; omega)]; simp
  have q1 : w1.cell? ⟨w.heap.size, 1, none⟩ = some (.slice A0_1 l0_1.length c0_1) := by rw [hb1.cell (p := ⟨w.heap.size, 1, none⟩) (by simp; omega)]; simp
  have q2 : w1.cell? ⟨w.heap.size, 2, none⟩ = some (.int .i64 a0_2) := by rw [hb1.cell (p := ⟨w.heap.size, 2, none⟩) (by simp; omega)]; simp
  have hs : w.heap.size + 1 < w1.heap.size := by have := hb1.size; simp at this; omega
  have hbT := HB.out.trans (hb1.mono (by simp; omega))
  have hb2 := hb1.mono (show w.heap.size + 2 ≤ _ by simp)
  clear hb1
  have HT := Lib.hid hbT
  have H2 := Lib.hid hb2
  clear hbT hb2
  go_region_held3 (fun w' => w'.cell? ⟨w.heap.size, 0, none⟩ = some (.slice A0_0 l0_0.length c0_0) ∧ w'.cell? ⟨w.heap.size, 1, none⟩ = some (.slice A0_1 l0_1.length c0_1) ∧ w'.cell? ⟨w.heap.size, 2, none⟩ = some (.int .i64 a0_2)) (first | exact ⟨r0, r1, r2⟩ | go_keep) (first | (go_at_call 51; refine (K2.out _ H2.out.drew).mono ?_; rintro e w' ⟨rfl, hb3⟩; have r0 := (hb3.cell (p := ⟨w.heap.size, 0, none⟩) (by simp; omega)).trans (by simpa using q0); have r1 := (hb3.cell (p := ⟨w.heap.size, 1, none⟩) (by simp; omega)).trans (by simpa using q1); have r2 := (hb3.cell (p := ⟨w.heap.size, 2, none⟩) (by simp; omega)).trans (by simpa using q2); have hb4 := HT.out.drew.trans (hb3.mono (by simp; omega)); clear hb3; have H4 := Lib.hid hb4; clear hb4))
  go_wp2
  go_ret
  exact ⟨rfl, H4.out⟩
 ·
  rw [if_neg h1]
  have e1 : (lin_Check.val l0_0 l0_1 a0_2 65536 != 0) = true := bne_iff_ne.2 h1
  generalize lin_Check.val l0_0 l0_1 a0_2 65536 = v at k1 e1
  have HB := Lib.hid hb
  clear hb hr0_0 hr0_1 hr1 h1
  go_enter Try.func20, Try.ntmps20
  go_wp2_with (go_at_call 38; refine k1.mono ?_; rintro e w1 ⟨rfl, hb1⟩)
  go_ret
  exact ⟨rfl, HB.out.trans (hb1.mono (by simp; omega))⟩

end Go.Proofs.Ytmcljhjmmipagaa.PL
