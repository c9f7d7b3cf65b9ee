/- The law LinNegation, walked. -/
import Derived.Test.YtmcljhjmmipagaaBoxG
import Derived.Deep.AppendLies
namespace Go.Proofs.Ytmcljhjmmipagaa.PL
open Go.RowKit Go.Proofs.YtmcljhjmmipagaaW.PrintWords Go.Proofs.YtmcljhjmmipagaaW.PrintLast Go.Proofs.YtmcljhjmmipagaaW.PrintMore
attribute [local go_sem] max2_int min2_int max_two min_two max_three min_three max_four min_four
set_option linter.unusedVariables false
set_option linter.unusedSimpArgs false

def negL (C : List Int) : List Int := C.map (fun c => -c)

/-- Between two rounds: the box of the argument, the box of the negation, whose row is the call's own. -/
structure NegF (w W : World) (gx : Nat) (A0 : Option Addr) (c0 : Nat) (C : List Int) (A1 : Option Addr) (c1 : Nat) (L : List Int) (a : Int) (k : Nat) (v : Value) : Prop where
 box : Bx W w.heap.size A0 c0 C A1 c1 L a
 blk : W.heap[gx]? = some (.cells #[v, .slice A1 L.length c1, .int .i64 (1 - a)] 24 (0, 0))
 own : W.ownsRow w.heap.size 3 1 v k ((negL (C.take k)).map (Value.int .i64))
 below : Below w.heap.size w W
 gt : w.heap.size < gx
namespace NegF
variable {w W W1 : World} {gx : Nat} {A0 A1 : Option Addr} {c0 c1 : Nat} {C L : List Int} {a : Int} {k : Nat} {v : Value}
theorem next (h : NegF w W gx A0 c0 C A1 c1 L a k v) (hb : Below W.heap.size W W1) : NegF w W1 gx A0 c0 C A1 c1 L a k v where
 box := h.box.below hb
 blk := blk_below h.blk hb
 own := own_move h.own (fun k hk => hb.block k (own_lt h.own k hk))
 below := below_step h.below hb
 gt := h.gt
theorem ne (h : NegF w W gx A0 c0 C A1 c1 L a k v) {g : Nat} {cs : Array Value} (hb : W.heap[g]? = some (.cells cs 24 (0, 0))) : v.ownBlock ≠ some g := fun e => by
 obtain ⟨cells, hc⟩ := own_typed h.own g e
 rw [hc] at hb
 injection hb with hb
 injection hb with _ hb
 exact absurd hb (by decide)
/-- Behind the append: the boxes lie as they lay; the rows of the arguments too. -/
theorem app (h : NegF w W gx A0 c0 C A1 c1 L a k v) (hr : Rw w A0 c0 C A1 c1 L) (hg : W.grownBy W1 v.ownBlock) : Bx W1 w.heap.size A0 c0 C A1 c1 L a ∧ W1.heap[gx]? = some (.cells #[v, .slice A1 L.length c1, .int .i64 (1 - a)] 24 (0, 0)) ∧ Below w.heap.size w W1 := by
 have hb := h.below.grown hg h.below.size (fun k e => own_base h.own k e)
 exact ⟨⟨blk_grown h.box.blk hg (Ne.symm (h.ne h.box.blk)), hr.below hb⟩, blk_grown h.blk hg (Ne.symm (h.ne h.blk)), hb⟩
/-- Behind the store. -/
theorem put {g cap : Nat} (h : Bx W1 w.heap.size A0 c0 C A1 c1 L a ∧ W1.heap[gx]? = some (.cells #[v, .slice A1 L.length c1, .int .i64 (1 - a)] 24 (0, 0)) ∧ Below w.heap.size w W1) (hr : Rw w A0 c0 C A1 c1 L) (hgt : w.heap.size < gx) (hown : W1.ownsRow w.heap.size 3 1 (.slice (some ⟨g, 0, none⟩) (k + 1) cap) (k + 1) ((negL (C.take (k + 1))).map (Value.int .i64))) :
  NegF w (W1.setCell ⟨gx, 0, none⟩ (.slice (some ⟨g, 0, none⟩) (k + 1) cap)) gx A0 c0 C A1 c1 L a (k + 1) (.slice (some ⟨g, 0, none⟩) (k + 1) cap) where
 box := by
  have hb := h.2.2.setCell (p := ⟨gx, 0, none⟩) (by simp only []; omega) (.slice (some ⟨g, 0, none⟩) (k + 1) cap)
  exact ⟨blk_far h.1.blk (by simp only []; omega) _, hr.below hb⟩
 blk := blk_put h.2.1 0 _ rfl
 own := own_move hown (fun k hk => Below.heap_setCell _ ⟨gx, 0, none⟩ _ k (fun e => by
  simp only [] at e
  subst e
  obtain ⟨cells, hc⟩ := own_typed hown k hk
  rw [hc] at h
  have h2 := h.2.1
  injection h2 with h2
  injection h2 with _ h2
  exact absurd h2 (by decide)))
 below := h.2.2.setCell (p := ⟨gx, 0, none⟩) (by simp only []; omega) _
 gt := hgt
end NegF

theorem C_none (W : World) (A : Option Addr) : Kd.C (Kd.int .i64) W A 0 [] := ⟨rfl, by omega, fun h => absurd h (by omega)⟩
theorem same_nil (G0 : Option Addr) (u0 : Nat) (G1 : Option Addr) (u1 : Nat) (b : Int) (W : World) : Calls Try.prog 16 #[.agg #[.slice G0 0 u0, .slice G1 0 u1, .int .i64 b], .agg #[.slice none 0 0, .slice none 0 0, .int .i64 b]] W fun e w' => e = .returned (.bool true) ∧ Below W.heap.size W w' := by
 obtain ⟨k, hS⟩ := (linSame_ev [] [] b [] [] b (by simp) (by simp)).got
 rw [show sameB [] [] b [] [] b = true by simp [sameB]] at hS
 exact lin_Same.calls k G0 u0 [] G1 u1 [] b none 0 [] none 0 [] b true W (C_none W G0) (Nat.zero_le _) (C_none W G1) (Nat.zero_le _) (C_none W none) (Nat.zero_le _) (C_none W none) (Nat.zero_le _) hS
/-- What the law asks of the constraint and its negation. -/
structure NegP (C L : List Int) (a : Int) (t : List Bool) : Prop where
 le : L.length ≤ 60
 check : lin_Check.val (negL C) L (1 - a) 65536 = 0
 value : lin_Value.val (negL C) L (1 - a) t = !lin_Value.val C L a t
 forces : (∃ fs gs, lin_Force.f C L a [] = some (fs, true) ∧ lin_Force.f (negL C) L (1 - a) [] = some (gs, true)) ∨
  (∃ fs gs, lin_Force.f C L a [] = some (fs, true) ∧ lin_Force.f (negL C) L (1 - a) [] = some (gs, false) ∧ lin_Norm.f C L a = some ([], [], 0)) ∨
  (∃ gs, lin_Force.f C L a [] = some ([], false) ∧ lin_Force.f (negL C) L (1 - a) [] = some (gs, true) ∧ lin_Norm.f C L a = some ([], [], 1))

set_option maxRecDepth 100000 in
set_option maxHeartbeats 4000000 in
theorem neg_walk (A0 : Option Addr) (c0 : Nat) (C : List Int) (A1 : Option Addr) (c1 : Nat) (L : List Int) (a : Int) (A2 : Option Addr) (c2 : Nat) (t : List Bool) (w : World) (h : Rw w A0 c0 C A1 c1 L) (ht : Kd.C Kd.bool w A2 t.length t) (htc : t.length ≤ c2) (hf : chalklinelaw12_few.f C L a = some true) (hl : t.length ≤ 100) (hv : lin_Check.val C L a 65536 = 0) (ha : a ≠ -1099511627776) (hC : C.length ≤ 60) (oc : okC C) (hw : -1099511627776 ≤ a ∧ a ≤ 1099511627776) (N : NegP C L a t) :
  Calls Try.prog 4 #[.agg #[.slice A0 C.length c0, .slice A1 L.length c1, .int .i64 a], .slice A2 t.length c2] w fun e w' => e = .returned (.bool true) ∧ Below w.heap.size w w' := by
 have hu24 := Try.underlying24
 have hb := below_alloc1 w (.cells #[.slice A0 C.length c0, .slice A1 L.length c1, .int .i64 a] 24)
 have hbx := Bx.new h a
 have HH := Lib.hid (And.intro hb hbx)
 have HF := Lib.hid hf
 have HV := Lib.hid hv
 have HR := Lib.hid h
 have HT := Lib.hid ht
 have t1 : decide (100 < (t.length : Int)) = false := decide_eq_false (by omega)
 have t2 : decide (100 < t.length) = false := decide_eq_false (by omega)
 have t3 : (a == -1099511627776) = false := beq_eq_false_iff_ne.2 ha
 have t4 : wrap64 (1 - a) = 1 - a := wrap_id (by omega) (by omega)
 clear hb hbx h hf hv ht
 obtain ⟨i0, hi0, hz⟩ := Option.map_eq_some_iff.1 (show (Try.prog.info? 3).map (fun i => (i.zero, i.size, i.bytes)) = some (some (.int .i64 0), 1, 8) by kernel_rfl)
 simp only [Prod.mk.injEq] at hz
 obtain ⟨hz0, hz1, hz2⟩ := hz
 have HZ := Lib.hid (And.intro hi0 (And.intro hz0 (And.intro hz1 hz2)))
 clear hi0 hz0 hz1 hz2
 go_enter Try.func4, Try.ntmps4
 go_wp2_with fail
 refine (chalklinelaw12_live.calls true _ rfl).mono ?_
 rintro e w1 ⟨rfl, hb1⟩
 have H1 := Lib.hid (And.intro (below_step HH.out.1 hb1) (HH.out.2.below hb1))
 clear HH hb1
 have q0 := H1.out.2.q0
 have q1 := H1.out.2.q1
 have q2 := H1.out.2.q2
 go_wp2_with fail
 refine (chalklinelaw12_few.calls A0 c0 C A1 c1 L a true w1 H1.out.2.rw.rC H1.out.2.rw.lC H1.out.2.rw.rL H1.out.2.rw.lL HF.out).mono ?_
 rintro e w2 ⟨rfl, hb2⟩
 have H2 := Lib.hid (And.intro (below_step H1.out.1 hb2) (H1.out.2.below hb2))
 clear H1 hb2 q0 q1 q2
 have q0 := H2.out.2.q0
 have q1 := H2.out.2.q1
 have q2 := H2.out.2.q2
 go_wp2_with fail
 refine (lin_Check.calls A0 c0 C A1 c1 L a 65536 0 w2 H2.out.2.rw.rC H2.out.2.rw.lC H2.out.2.rw.rL H2.out.2.rw.lL (by unfold lin_Check.f; rw [HV.out])).mono ?_
 rintro e w3 ⟨rfl, hb3⟩
 have H3 := Lib.hid (And.intro (below_step H2.out.1 hb3) (H2.out.2.below hb3))
 clear H2 hb3 q0 q1 q2 HF
 have q0 := H3.out.2.q0
 have q1 := H3.out.2.q1
 have q2 := H3.out.2.q2
 go_wp2
 have HN : Hid (NegF w (w3.alloc (.cells #[.slice none 0 0, .slice A1 L.length c1, .int .i64 (1 - a)] 24)) w3.heap.size A0 c0 C A1 c1 L a 0 (.slice none 0 0)) := Lib.hid ⟨H3.out.2.below (below_alloc1 _ _), blk_new w3 _, own_nil _ _ _ _, below_step H3.out.1 (below_alloc1 _ _), blk_lt H3.out.2.blk⟩
 generalize w3.alloc (.cells #[.slice none 0 0, .slice A1 L.length c1, .int .i64 (1 - a)] 24) = w4 at HN ⊢
 generalize w3.heap.size = gx at HN ⊢
 clear H3 q0 q1 q2 t1 t2 t3 t4
 go_loopg [6] C.length (fun gg s6 wr => ∃ (k : Nat) (v : Value), k ≤ C.length ∧ C.length - k ≤ gg ∧ s6 = .int .i64 (k : Int) ∧ Hid (NegF w wr gx A0 c0 C A1 c1 L a k v))
 case atStart => exact ⟨0, _, Nat.zero_le _, by omega, rfl, HN⟩
 case round =>
  clear HN
  obtain ⟨k, v, hk, hg, rfl, HN⟩ := hrel
  have q0 := HN.out.box.q0
  by_cases hlt : k < C.length
  ·
   have h1 : (k : Int) < (C.length : Int) := by omega
   obtain ⟨ad0, rfl, e0⟩ := HN.out.box.cC hlt
   have hc := oc _ (rd_mem hlt)
   have htk : (negL (C.take (k + 1))).map (Value.int .i64) = (negL (C.take k)).map (Value.int .i64) ++ [.int .i64 (-rd C (k : Int))] := by
    rw [take_rd hlt]; simp [negL]
   generalize rd C (k : Int) = c at e0 hc htk
   have hn : wrap64 (-c) = -c := wrap_id (by omega) (by omega)
   have hn2 : IntKind.i64.wrap (-c) = -c := by rw [IntKind.wrap_i64]; omega
   have x0 := (blk_cell HN.out.blk 0).trans rfl
   have x1 := blk_frozen HN.out.blk 0
   have HTK := Lib.hid htk
   clear htk hc
   go_wp2
   have HA : Hid (NegF w (wr.alloc (.cells #[.int .i64 (-c)] 3)).drew gx (some ad0) c0 C A1 c1 L a k v) := Lib.hid (HN.out.next ((Below.refl wr.heap.size wr).alloc (Nat.le_refl _) _).drew)
   have x4 : (wr.alloc (.cells #[.int .i64 (-c)] 3)).cell? ⟨gx, 0, none⟩ = some v := (blk_cell HA.out.blk 0).trans rfl
   have hk2 : k ≤ 60 := by omega
   go_region_law (first | (refine step_append_lies (wr.alloc (.cells #[.int .i64 (-c)] 3)).drew (by rfl) (.tmp 45) (.tmp 52) 22 (by rfl) w.heap.size 3 i0 (.int .i64 0) 1 8 Try.underlying22 HZ.out.1 HZ.out.2.1 HZ.out.2.2.1 HZ.out.2.2.2 rfl (by omega) v k ((negL (C.take k)).map (Value.int .i64)) (by rfl) HA.out.own ⟨wr.heap.size, 0, none⟩ 1 1 [.int .i64 (-c)] (by rfl) (by rfl) (World.news_of_block (blk_drew (blk_new wr _))) (by simp [Value.oneCell']) (by omega) (by unfold maxLen; omega) (by omega) HA.out.below.size _ rfl ?_; intro g cap w5 hown hgrow hat hglt; have HP := Lib.hid (HA.out.app HR.out hgrow); have HO : Hid (w5.ownsRow w.heap.size 3 1 (.slice (some ⟨g, 0, none⟩) (k + 1) cap) (k + 1) ((negL (C.take (k + 1))).map (Value.int .i64))) := Lib.hid (by rw [HTK.out]; exact hown); have x2 := (blk_cell HP.out.2.1 0).trans rfl; have x3 := blk_frozen HP.out.2.1 0; clear hown hgrow hat hglt))
   all_goals
    have HN2 : Hid (NegF w (w5.setCell ⟨gx, 0, none⟩ (.slice (some ⟨g, 0, none⟩) (k + 1) cap)) gx (some ad0) c0 C A1 c1 L a (k + 1) (.slice (some ⟨g, 0, none⟩) (k + 1) cap)) := Lib.hid (NegF.put HP.out HR.out HN.out.gt HO.out)
    clear HP HO x2 x3 HA HN q0 e0 x0 x1 x4
    generalize w5.setCell ⟨gx, 0, none⟩ (.slice (some ⟨g, 0, none⟩) (k + 1) cap) = w6 at HN2 ⊢
    go_wp2
    go_roundg (C.length - (k + 1))
    case measure => omega
    case rel => exact ⟨k + 1, _, by omega, by omega, by go_num, HN2⟩
  ·
   have h1 : decide ((k : Int) < (C.length : Int)) = false := decide_eq_false (by omega)
   obtain rfl : k = C.length := by omega
   have hown := HN.out.own
   rw [List.take_of_length_le (Nat.le_refl _)] at hown
   have hnl : (negL C).length = C.length := by simp [negL]
   rw [← hnl] at hown
   obtain ⟨E0, m0, rfl, j0, r0⟩ := Kd.R_reads (Kd.R_of_own (enc := Value.int .i64) (h1 := fun _ => rfl) (ok := fun _ => True) hown (fun _ _ => trivial))
   have HX : Hid (Bx wr gx E0 m0 (negL C) A1 c1 L (1 - a)) := Lib.hid ⟨HN.out.blk, r0, HN.out.box.rw.rL, j0, HN.out.box.rw.lL⟩
   have HL : Hid (Below w.heap.size w wr ∧ Bx wr w.heap.size A0 c0 C A1 c1 L a) := Lib.hid ⟨HN.out.below, HN.out.box⟩
   clear hown r0 j0 HN hk hg hlt hnl
   have q1 := HL.out.2.q1
   have q2 := HL.out.2.q2
   have HNP := Lib.hid N
   obtain ⟨fs, gs, o1, o2, hf1, hf2, hcase⟩ : ∃ fs gs o1 o2, lin_Force.f C L a [] = some (fs, o1) ∧ lin_Force.f (negL C) L (1 - a) [] = some (gs, o2) ∧ ((o1 = true ∧ o2 = true) ∨ (o1 = true ∧ o2 = false ∧ lin_Norm.f C L a = some ([], [], 0)) ∨ (o1 = false ∧ o2 = true ∧ fs = [] ∧ lin_Norm.f C L a = some ([], [], 1))) := by
    rcases N.forces with ⟨fs, gs, e1, e2⟩ | ⟨fs, gs, e1, e2, e3⟩ | ⟨gs, e1, e2, e3⟩
    ·
     exact ⟨fs, gs, _, _, e1, e2, .inl ⟨rfl, rfl⟩⟩
    ·
     exact ⟨fs, gs, _, _, e1, e2, .inr (.inl ⟨rfl, rfl, e3⟩)⟩
    ·
     exact ⟨[], gs, _, _, e1, e2, .inr (.inr ⟨rfl, rfl, rfl, e3⟩)⟩
   have HF1 := Lib.hid hf1
   have HF2 := Lib.hid hf2
   have HCS := Lib.hid hcase
   clear hf1 hf2 hcase N
   go_wp2_with fail
   have hh := lin_Force.calls A0 c0 C A1 c1 L a none 0 [] fs o1 wr HL.out.2.rw.rC HL.out.2.rw.lC HL.out.2.rw.rL HL.out.2.rw.lL (Kd.C_nil _ _) (by decide) HF1.out
   refine hh.mono ?_
   clear hh
   rintro e w7 ⟨v0, rfl, hx0, hb7⟩
   obtain ⟨F0, n0, rfl, _, _⟩ := Kd.R_reads hx0
   have HX7 := Lib.hid (HX.out.below hb7)
   have HL7 := Lib.hid (And.intro (below_step HL.out.1 hb7) (HL.out.2.below hb7))
   clear hx0 hb7 HX HL q0 q1 q2
   have q0 := HX7.out.q0
   have q1 := HX7.out.q1
   have q2 := HX7.out.q2
   go_wp2_with fail
   have hh := lin_Force.calls E0 m0 (negL C) A1 c1 L (1 - a) none 0 [] gs o2 w7 HX7.out.rw.rC HX7.out.rw.lC HX7.out.rw.rL HX7.out.rw.lL (Kd.C_nil _ _) (by decide) HF2.out
   refine hh.mono ?_
   clear hh
   rintro e w8 ⟨v0, rfl, hx0, hb8⟩
   obtain ⟨F1, n1, rfl, _, _⟩ := Kd.R_reads hx0
   have HX8 := Lib.hid (HX7.out.below hb8)
   have HL8 := Lib.hid (And.intro (below_step HL7.out.1 hb8) (HL7.out.2.below hb8))
   clear hx0 hb8 HX7 HL7 q0 q1 q2
   have q0 := HX8.out.q0
   have q1 := HX8.out.q1
   have q2 := HX8.out.q2
   have p0 := HL8.out.2.q0
   have p1 := HL8.out.2.q1
   have p2 := HL8.out.2.q2
   go_wp2
   rcases HCS.out with ⟨rfl, rfl⟩ | ⟨rfl, rfl, hnm⟩ | ⟨rfl, rfl, rfl, hnm⟩
   ·
    clear HCS HF1 HF2
    refine start_ (n := 45) (S := fun w' => w'.cell? ⟨gx, 0, none⟩ = some (.slice E0 (negL C).length m0) ∧ w'.cell? ⟨gx, 1, none⟩ = some (.slice A1 L.length c1) ∧ w'.cell? ⟨gx, 2, none⟩ = some (.int .i64 (1 - a)) ∧ w'.cell? ⟨w.heap.size, 0, none⟩ = some (.slice A0 C.length c0) ∧ w'.cell? ⟨w.heap.size, 1, none⟩ = some (.slice A1 L.length c1) ∧ w'.cell? ⟨w.heap.size, 2, none⟩ = some (.int .i64 a)) (ds := []) #[false, false, false, false, false, false, false, false, false, false, false, false, false, false, false, false, false, false, false, false, false, false, false, false, false, false, false, false, false, false, false, false, false, false, false, false, false, false, false, false, false, false, false, false, false] (by kernel_rfl) rfl rfl ⟨q0, q1, q2, p0, p1, p2⟩ (fun hHeld => ?_)
    refine take_ (i := 0) (N := some 65) (v := ?_) (a' := ?_) (bl 45 1) rfl rfl (by kernel_rfl) (fun _ _ _ h => h) (Or.inl ⟨by rfl, ?_⟩) hHeld ?_ ?_; rotate_left; · (rintro w' ⟨s0, s1, s2, s3, s4, s5⟩; go_simp; with_reducible rfl)
    rotate_left; · (simp only [Act.put, List.setIfInBounds_toArray, List.set_cons_zero, List.set_cons_succ, i64_w, i32_w]; rfl)
    refine one_ (i := 1) (N := some 66) (bl 45 3) rfl rfl (by kernel_rfl) (by decide) (fun K hK => ?_)
    refine goes_ Try.func14 (by kernel_rfl) rfl #[.agg #[.slice E0 (negL C).length m0, .slice A1 L.length c1, .int .i64 (1 - a)], .int .i64 65536] (by rfl) rfl rfl (by simp only [List.map_toArray, List.map_cons, List.map_nil]; rfl) ?_
    with_reducible refine (lin_Check.calls E0 m0 (negL C) A1 c1 L (1 - a) 65536 0 _ (Kd.C_below HX8.out.rw.rC (Below.refl w8.heap.size w8).drew) HX8.out.rw.lC (Kd.C_below HX8.out.rw.rL (Below.refl w8.heap.size w8).drew) HX8.out.rw.lL (by unfold lin_Check.f; rw [HNP.out.check])).mono ?_
    rintro e wa ⟨rfl, hb⟩
    refine ⟨_, rfl, ?_⟩
    have HB1 : Hid (Below w8.heap.size w8 wa) := Lib.hid (below_step (Below.refl w8.heap.size w8).drew hb)
    clear hb
    refine hK.out _ _ ⟨(HX8.out.below HB1.out).q0, (HX8.out.below HB1.out).q1, (HX8.out.below HB1.out).q2, (HL8.out.2.below HB1.out).q0, (HL8.out.2.below HB1.out).q1, (HL8.out.2.below HB1.out).q2⟩ (fun hHeld => ?_)
    clear hK K
    refine norm_ (a' := ?_) ?_ ?_
    rotate_left
    ·
     show Act.put _ (some 66) _ = _
     simp only [Act.put, List.setIfInBounds_toArray, List.set_cons_zero, List.set_cons_succ, i64_w, i32_w]
     rfl
    refine pure_ (i := 2) (N := some 67) (v := ?_) (a' := ?_) (bl 45 7) rfl rfl (by kernel_rfl) (fun _ _ _ h => h) (Or.inl ⟨by rfl, ?_⟩) ?_ ?_; rotate_left; · (intro w'; go_simp; with_reducible rfl)
    rotate_left; · (simp only [Act.put, List.setIfInBounds_toArray, List.set_cons_zero, List.set_cons_succ, i64_w, i32_w]; rfl)
    refine pure_ (i := 3) (N := some 68) (v := ?_) (a' := ?_) (bl 45 15) rfl rfl (by kernel_rfl) (fun _ _ _ h => h) (Or.inl ⟨by rfl, ?_⟩) ?_ ?_; rotate_left; · (intro w'; go_simp; with_reducible rfl)
    rotate_left; · (simp only [Act.put, List.setIfInBounds_toArray, List.set_cons_zero, List.set_cons_succ, i64_w, i32_w]; rfl)
    refine pure_ (i := 5) (N := some 70) (v := ?_) (a' := ?_) (bl 45 47) rfl rfl (by kernel_rfl) (fun _ _ _ h => h) (Or.inl ⟨by rfl, ?_⟩) ?_ ?_; rotate_left; · (intro w'; go_simp; with_reducible rfl)
    rotate_left; · (simp only [Act.put, List.setIfInBounds_toArray, List.set_cons_zero, List.set_cons_succ, i64_w, i32_w]; rfl)
    refine pure_ (i := 8) (N := some 73) (v := ?_) (a' := ?_) (bl 45 303) rfl rfl (by kernel_rfl) (fun _ _ _ h => h) (Or.inl ⟨by rfl, ?_⟩) ?_ ?_; rotate_left; · (intro w'; go_simp; with_reducible rfl)
    rotate_left; · (simp only [Act.put, List.setIfInBounds_toArray, List.set_cons_zero, List.set_cons_succ, i64_w, i32_w]; rfl)
    refine take_ (i := 4) (N := some 69) (v := ?_) (a' := ?_) (bl 45 319) rfl rfl (by kernel_rfl) (fun _ _ _ h => h) (Or.inl ⟨by rfl, ?_⟩) hHeld ?_ ?_; rotate_left; · (rintro w' ⟨s0, s1, s2, s3, s4, s5⟩; go_simp; with_reducible rfl)
    rotate_left; · (simp only [Act.put, List.setIfInBounds_toArray, List.set_cons_zero, List.set_cons_succ, i64_w, i32_w]; rfl)
    refine take_ (i := 7) (N := some 72) (v := ?_) (a' := ?_) (bl 45 447) rfl rfl (by kernel_rfl) (fun _ _ _ h => h) (Or.inl ⟨by rfl, ?_⟩) hHeld ?_ ?_; rotate_left; · (rintro w' ⟨s0, s1, s2, s3, s4, s5⟩; go_simp; with_reducible rfl)
    rotate_left; · (simp only [Act.put, List.setIfInBounds_toArray, List.set_cons_zero, List.set_cons_succ, i64_w, i32_w]; rfl)
    refine one_ (i := 6) (N := some 71) (bl 45 511) rfl rfl (by kernel_rfl) (by decide) (fun K hK => ?_)
    refine goes_ Try.func20 (by kernel_rfl) rfl #[.agg #[.slice E0 (negL C).length m0, .slice A1 L.length c1, .int .i64 (1 - a)], .slice A2 t.length c2] (by rfl) rfl rfl (by simp only [List.map_toArray, List.map_cons, List.map_nil]; rfl) ?_
    with_reducible refine (lin_Value.calls E0 m0 (negL C) A1 c1 L (1 - a) A2 c2 t (!lin_Value.val C L a t) _ (Kd.C_below HX8.out.rw.rC HB1.out) HX8.out.rw.lC (Kd.C_below HX8.out.rw.rL HB1.out) HX8.out.rw.lL (Kd.C_below HT.out (below_step HL8.out.1 HB1.out)) htc (by unfold lin_Value.f; rw [HNP.out.value])).mono ?_
    rintro e wb ⟨rfl, hb⟩
    refine ⟨_, rfl, ?_⟩
    have HB2 : Hid (Below w8.heap.size w8 wb) := Lib.hid (below_step HB1.out hb)
    clear hb
    refine hK.out _ _ ⟨(HX8.out.below HB2.out).q0, (HX8.out.below HB2.out).q1, (HX8.out.below HB2.out).q2, (HL8.out.2.below HB2.out).q0, (HL8.out.2.below HB2.out).q1, (HL8.out.2.below HB2.out).q2⟩ (fun hHeld => ?_)
    clear hK K
    refine norm_ (a' := ?_) ?_ ?_
    rotate_left
    ·
     show Act.put _ (some 71) _ = _
     simp only [Act.put, List.setIfInBounds_toArray, List.set_cons_zero, List.set_cons_succ, i64_w, i32_w]
     rfl
    refine one_ (i := 9) (N := some 74) (bl 45 1023) rfl rfl (by kernel_rfl) (by decide) (fun K hK => ?_)
    refine goes_ Try.func20 (by kernel_rfl) rfl #[.agg #[.slice A0 C.length c0, .slice A1 L.length c1, .int .i64 a], .slice A2 t.length c2] (by rfl) rfl rfl (by simp only [List.map_toArray, List.map_cons, List.map_nil]; rfl) ?_
    with_reducible refine (lin_Value.calls A0 c0 C A1 c1 L a A2 c2 t (lin_Value.val C L a t) _ (Kd.C_below HL8.out.2.rw.rC HB2.out) HL8.out.2.rw.lC (Kd.C_below HL8.out.2.rw.rL HB2.out) HL8.out.2.rw.lL (Kd.C_below HT.out (below_step HL8.out.1 HB2.out)) htc rfl).mono ?_
    rintro e wc ⟨rfl, hb⟩
    refine ⟨_, rfl, ?_⟩
    have HB3 : Hid (Below w8.heap.size w8 wc) := Lib.hid (below_step HB2.out hb)
    clear hb
    refine hK.out _ _ ⟨(HX8.out.below HB3.out).q0, (HX8.out.below HB3.out).q1, (HX8.out.below HB3.out).q2, (HL8.out.2.below HB3.out).q0, (HL8.out.2.below HB3.out).q1, (HL8.out.2.below HB3.out).q2⟩ (fun hHeld => ?_)
    clear hK K
    refine norm_ (a' := ?_) ?_ ?_
    rotate_left
    ·
     show Act.put _ (some 74) _ = _
     simp only [Act.put, List.setIfInBounds_toArray, List.set_cons_zero, List.set_cons_succ, i64_w, i32_w]
     rfl
    refine pure_ (i := 10) (N := some 75) (v := ?_) (a' := ?_) (bl 45 2047) rfl rfl (by kernel_rfl) (fun _ _ _ h => h) (Or.inl ⟨by rfl, ?_⟩) ?_ ?_; rotate_left; · (intro w'; go_simp; with_reducible rfl)
    rotate_left; · (simp only [Act.put, List.setIfInBounds_toArray, List.set_cons_zero, List.set_cons_succ, i64_w, i32_w]; rfl)
    refine pure_ (i := 11) (N := some 76) (v := ?_) (a' := ?_) (bl 45 4095) rfl rfl (by kernel_rfl) (fun _ _ _ h => h) (Or.inl ⟨by rfl, ?_⟩) ?_ ?_; rotate_left; · (intro w'; go_simp; with_reducible rfl)
    rotate_left; · (simp only [Act.put, List.setIfInBounds_toArray, List.set_cons_zero, List.set_cons_succ, i64_w, i32_w]; rfl)
    refine pure_ (i := 12) (N := some 77) (v := ?_) (a' := ?_) (bl 45 8191) rfl rfl (by kernel_rfl) (fun _ _ _ h => h) (Or.inl ⟨by rfl, ?_⟩) ?_ ?_; rotate_left; · (intro w'; go_simp; with_reducible rfl)
    rotate_left; · (simp only [Act.put, List.setIfInBounds_toArray, List.set_cons_zero, List.set_cons_succ, i64_w, i32_w]; rfl)
    refine pure_ (i := 13) (N := some 78) (v := ?_) (a' := ?_) (bl 45 16383) rfl rfl (by kernel_rfl) (fun _ _ _ h => h) (Or.inl ⟨by rfl, ?_⟩) ?_ ?_; rotate_left; · (intro w'; go_simp; with_reducible rfl)
    rotate_left; · (simp only [Act.put, List.setIfInBounds_toArray, List.set_cons_zero, List.set_cons_succ, i64_w, i32_w]; rfl)
    refine pure_ (i := 14) (N := some 79) (v := ?_) (a' := ?_) (bl 45 32767) rfl rfl (by kernel_rfl) (fun _ _ _ h => h) (Or.inl ⟨by rfl, ?_⟩) ?_ ?_; rotate_left; · (intro w'; go_simp; with_reducible rfl)
    rotate_left; · (simp only [Act.put, List.setIfInBounds_toArray, List.set_cons_zero, List.set_cons_succ, i64_w, i32_w]; rfl)
    refine pure_ (i := 15) (N := some 80) (v := undef) (a' := ?_) (bl 45 65535) rfl rfl (by kernel_rfl) (fun _ _ _ h => h) (Or.inr ⟨by rfl, rfl⟩) ?_ ?_
    rotate_left
    ·
     simp only [Act.put, List.setIfInBounds_toArray, List.set_cons_zero, List.set_cons_succ, i64_w, i32_w]
     rfl
    refine pure_ (i := 16) (N := some 81) (v := ?_) (a' := ?_) (bl 45 131071) rfl rfl (by kernel_rfl) (fun _ _ _ h => h) (Or.inl ⟨by rfl, ?_⟩) ?_ ?_; rotate_left; · (intro w'; go_simp; with_reducible rfl)
    rotate_left; · (simp only [Act.put, List.setIfInBounds_toArray, List.set_cons_zero, List.set_cons_succ, i64_w, i32_w]; rfl)
    refine pure_ (i := 17) (N := some 82) (v := ?_) (a' := ?_) (bl 45 262143) rfl rfl (by kernel_rfl) (fun _ _ _ h => h) (Or.inl ⟨by rfl, ?_⟩) ?_ ?_; rotate_left; · (intro w'; go_simp; with_reducible rfl)
    rotate_left; · (simp only [Act.put, List.setIfInBounds_toArray, List.set_cons_zero, List.set_cons_succ, i64_w, i32_w]; rfl)
    refine pure_ (i := 18) (N := some 83) (v := ?_) (a' := ?_) (bl 45 524287) rfl rfl (by kernel_rfl) (fun _ _ _ h => h) (Or.inl ⟨by rfl, ?_⟩) ?_ ?_; rotate_left; · (intro w'; go_simp; with_reducible rfl)
    rotate_left; · (simp only [Act.put, List.setIfInBounds_toArray, List.set_cons_zero, List.set_cons_succ, i64_w, i32_w]; rfl)
    refine pure_ (i := 19) (N := some 84) (v := ?_) (a' := ?_) (bl 45 1048575) rfl rfl (by kernel_rfl) (fun _ _ _ h => h) (Or.inl ⟨by rfl, ?_⟩) ?_ ?_; rotate_left; · (intro w'; go_simp; with_reducible rfl)
    rotate_left; · (simp only [Act.put, List.setIfInBounds_toArray, List.set_cons_zero, List.set_cons_succ, i64_w, i32_w]; rfl)
    refine pure_ (i := 20) (N := some 85) (v := ?_) (a' := ?_) (bl 45 2097151) rfl rfl (by kernel_rfl) (fun _ _ _ h => h) (Or.inl ⟨by rfl, ?_⟩) ?_ ?_; rotate_left; · (intro w'; go_simp; with_reducible rfl)
    rotate_left; · (simp only [Act.put, List.setIfInBounds_toArray, List.set_cons_zero, List.set_cons_succ, i64_w, i32_w]; rfl)
    refine pure_ (i := 21) (N := some 86) (v := undef) (a' := ?_) (bl 45 4194303) rfl rfl (by kernel_rfl) (fun _ _ _ h => h) (Or.inr ⟨by rfl, rfl⟩) ?_ ?_
    rotate_left
    ·
     simp only [Act.put, List.setIfInBounds_toArray, List.set_cons_zero, List.set_cons_succ, i64_w, i32_w]
     rfl
    refine pure_ (i := 22) (N := some 87) (v := undef) (a' := ?_) (bl 45 8388607) rfl rfl (by kernel_rfl) (fun _ _ _ h => h) (Or.inr ⟨by rfl, rfl⟩) ?_ ?_
    rotate_left
    ·
     simp only [Act.put, List.setIfInBounds_toArray, List.set_cons_zero, List.set_cons_succ, i64_w, i32_w]
     rfl
    refine pure_ (i := 23) (N := some 88) (v := undef) (a' := ?_) (bl 45 16777215) rfl rfl (by kernel_rfl) (fun _ _ _ h => h) (Or.inr ⟨by rfl, rfl⟩) ?_ ?_
    rotate_left
    ·
     simp only [Act.put, List.setIfInBounds_toArray, List.set_cons_zero, List.set_cons_succ, i64_w, i32_w]
     rfl
    refine pure_ (i := 24) (N := some 89) (v := ?_) (a' := ?_) (bl 45 33554431) rfl rfl (by kernel_rfl) (fun _ _ _ h => h) (Or.inl ⟨by rfl, ?_⟩) ?_ ?_; rotate_left; · (intro w'; go_simp; with_reducible rfl)
    rotate_left; · (simp only [Act.put, List.setIfInBounds_toArray, List.set_cons_zero, List.set_cons_succ, i64_w, i32_w]; rfl)
    refine pure_ (i := 25) (N := some 90) (v := ?_) (a' := ?_) (bl 45 67108863) rfl rfl (by kernel_rfl) (fun _ _ _ h => h) (Or.inl ⟨by rfl, ?_⟩) ?_ ?_; rotate_left; · (intro w'; go_simp; with_reducible rfl)
    rotate_left; · (simp only [Act.put, List.setIfInBounds_toArray, List.set_cons_zero, List.set_cons_succ, i64_w, i32_w]; rfl)
    refine pure_ (i := 26) (N := some 91) (v := ?_) (a' := ?_) (bl 45 134217727) rfl rfl (by kernel_rfl) (fun _ _ _ h => h) (Or.inl ⟨by rfl, ?_⟩) ?_ ?_; rotate_left; · (intro w'; go_simp; with_reducible rfl)
    rotate_left; · (simp only [Act.put, List.setIfInBounds_toArray, List.set_cons_zero, List.set_cons_succ, i64_w, i32_w]; rfl)
    refine pure_ (i := 27) (N := some 92) (v := ?_) (a' := ?_) (bl 45 268435455) rfl rfl (by kernel_rfl) (fun _ _ _ h => h) (Or.inl ⟨by rfl, ?_⟩) ?_ ?_; rotate_left; · (intro w'; go_simp; with_reducible rfl)
    rotate_left; · (simp only [Act.put, List.setIfInBounds_toArray, List.set_cons_zero, List.set_cons_succ, i64_w, i32_w]; rfl)
    refine pure_ (i := 28) (N := some 93) (v := ?_) (a' := ?_) (bl 45 536870911) rfl rfl (by kernel_rfl) (fun _ _ _ h => h) (Or.inl ⟨by rfl, ?_⟩) ?_ ?_; rotate_left; · (intro w'; go_simp; with_reducible rfl)
    rotate_left; · (simp only [Act.put, List.setIfInBounds_toArray, List.set_cons_zero, List.set_cons_succ, i64_w, i32_w]; rfl)
    refine pure_ (i := 29) (N := some 94) (v := undef) (a' := ?_) (bl 45 1073741823) rfl rfl (by kernel_rfl) (fun _ _ _ h => h) (Or.inr ⟨by rfl, rfl⟩) ?_ ?_
    rotate_left
    ·
     simp only [Act.put, List.setIfInBounds_toArray, List.set_cons_zero, List.set_cons_succ, i64_w, i32_w]
     rfl
    refine pure_ (i := 30) (N := some 95) (v := undef) (a' := ?_) (bl 45 2147483647) rfl rfl (by kernel_rfl) (fun _ _ _ h => h) (Or.inr ⟨by rfl, rfl⟩) ?_ ?_
    rotate_left
    ·
     simp only [Act.put, List.setIfInBounds_toArray, List.set_cons_zero, List.set_cons_succ, i64_w, i32_w]
     rfl
    refine pure_ (i := 31) (N := some 96) (v := undef) (a' := ?_) (bl 45 4294967295) rfl rfl (by kernel_rfl) (fun _ _ _ h => h) (Or.inr ⟨by rfl, rfl⟩) ?_ ?_
    rotate_left
    ·
     simp only [Act.put, List.setIfInBounds_toArray, List.set_cons_zero, List.set_cons_succ, i64_w, i32_w]
     rfl
    refine pure_ (i := 32) (N := some 97) (v := undef) (a' := ?_) (bl 45 8589934591) rfl rfl (by kernel_rfl) (fun _ _ _ h => h) (Or.inr ⟨by rfl, rfl⟩) ?_ ?_
    rotate_left
    ·
     simp only [Act.put, List.setIfInBounds_toArray, List.set_cons_zero, List.set_cons_succ, i64_w, i32_w]
     rfl
    refine pure_ (i := 33) (N := some 98) (v := ?_) (a' := ?_) (bl 45 17179869183) rfl rfl (by kernel_rfl) (fun _ _ _ h => h) (Or.inl ⟨by rfl, ?_⟩) ?_ ?_; rotate_left; · (intro w'; go_simp; with_reducible rfl)
    rotate_left; · (simp only [Act.put, List.setIfInBounds_toArray, List.set_cons_zero, List.set_cons_succ, i64_w, i32_w]; rfl)
    refine pure_ (i := 34) (N := some 99) (v := ?_) (a' := ?_) (bl 45 34359738367) rfl rfl (by kernel_rfl) (fun _ _ _ h => h) (Or.inl ⟨by rfl, ?_⟩) ?_ ?_; rotate_left; · (intro w'; go_simp; with_reducible rfl)
    rotate_left; · (simp only [Act.put, List.setIfInBounds_toArray, List.set_cons_zero, List.set_cons_succ, i64_w, i32_w]; rfl)
    refine pure_ (i := 35) (N := some 100) (v := ?_) (a' := ?_) (bl 45 68719476735) rfl rfl (by kernel_rfl) (fun _ _ _ h => h) (Or.inl ⟨by rfl, ?_⟩) ?_ ?_; rotate_left; · (intro w'; go_simp; with_reducible rfl)
    rotate_left; · (simp only [Act.put, List.setIfInBounds_toArray, List.set_cons_zero, List.set_cons_succ, i64_w, i32_w]; rfl)
    refine pure_ (i := 36) (N := some 101) (v := ?_) (a' := ?_) (bl 45 137438953471) rfl rfl (by kernel_rfl) (fun _ _ _ h => h) (Or.inl ⟨by rfl, ?_⟩) ?_ ?_; rotate_left; · (intro w'; go_simp; with_reducible rfl)
    rotate_left; · (simp only [Act.put, List.setIfInBounds_toArray, List.set_cons_zero, List.set_cons_succ, i64_w, i32_w]; rfl)
    refine pure_ (i := 37) (N := some 102) (v := ?_) (a' := ?_) (bl 45 274877906943) rfl rfl (by kernel_rfl) (fun _ _ _ h => h) (Or.inl ⟨by rfl, ?_⟩) ?_ ?_; rotate_left; · (intro w'; go_simp; with_reducible rfl)
    rotate_left; · (simp only [Act.put, List.setIfInBounds_toArray, List.set_cons_zero, List.set_cons_succ, i64_w, i32_w]; rfl)
    refine pure_ (i := 38) (N := some 103) (v := undef) (a' := ?_) (bl 45 549755813887) rfl rfl (by kernel_rfl) (fun _ _ _ h => h) (Or.inr ⟨by rfl, rfl⟩) ?_ ?_
    rotate_left
    ·
     simp only [Act.put, List.setIfInBounds_toArray, List.set_cons_zero, List.set_cons_succ, i64_w, i32_w]
     rfl
    refine pure_ (i := 39) (N := some 104) (v := undef) (a' := ?_) (bl 45 1099511627775) rfl rfl (by kernel_rfl) (fun _ _ _ h => h) (Or.inr ⟨by rfl, rfl⟩) ?_ ?_
    rotate_left
    ·
     simp only [Act.put, List.setIfInBounds_toArray, List.set_cons_zero, List.set_cons_succ, i64_w, i32_w]
     rfl
    refine pure_ (i := 40) (N := some 105) (v := undef) (a' := ?_) (bl 45 2199023255551) rfl rfl (by kernel_rfl) (fun _ _ _ h => h) (Or.inr ⟨by rfl, rfl⟩) ?_ ?_
    rotate_left
    ·
     simp only [Act.put, List.setIfInBounds_toArray, List.set_cons_zero, List.set_cons_succ, i64_w, i32_w]
     rfl
    refine pure_ (i := 41) (N := some 106) (v := undef) (a' := ?_) (bl 45 4398046511103) rfl rfl (by kernel_rfl) (fun _ _ _ h => h) (Or.inr ⟨by rfl, rfl⟩) ?_ ?_
    rotate_left
    ·
     simp only [Act.put, List.setIfInBounds_toArray, List.set_cons_zero, List.set_cons_succ, i64_w, i32_w]
     rfl
    refine pure_ (i := 42) (N := some 107) (v := ?_) (a' := ?_) (bl 45 8796093022207) rfl rfl (by kernel_rfl) (fun _ _ _ h => h) (Or.inl ⟨by rfl, ?_⟩) ?_ ?_; rotate_left; · (intro w'; go_simp; with_reducible rfl)
    rotate_left; · (simp only [Act.put, List.setIfInBounds_toArray, List.set_cons_zero, List.set_cons_succ, i64_w, i32_w]; rfl)
    refine pure_ (i := 43) (N := some 108) (v := ?_) (a' := ?_) (bl 45 17592186044415) rfl rfl (by kernel_rfl) (fun _ _ _ h => h) (Or.inl ⟨by rfl, ?_⟩) ?_ ?_; rotate_left; · (intro w'; go_simp; with_reducible rfl)
    rotate_left; · (simp only [Act.put, List.setIfInBounds_toArray, List.set_cons_zero, List.set_cons_succ, i64_w, i32_w]; rfl)
    refine pure_ (i := 44) (N := some 4) (v := ?_) (a' := ?_) (bl 45 35184372088831) rfl rfl (by kernel_rfl) (fun _ _ _ h => h) (Or.inl ⟨by rfl, ?_⟩) ?_ ?_; rotate_left; · (intro w'; go_simp; with_reducible rfl)
    rotate_left; · (simp only [Act.put, List.setIfInBounds_toArray, List.set_cons_zero, List.set_cons_succ, i64_w, i32_w]; rfl)
    refine done_ (by kernel_rfl) ?_
    go_wp2
    go_ret
    exact ⟨rfl, below_step HL8.out.1 HB3.out⟩
   ·
    have HNM := Lib.hid hnm
    clear HCS HF1 HF2 hnm
    refine start_ (n := 45) (S := fun w' => w'.cell? ⟨gx, 0, none⟩ = some (.slice E0 (negL C).length m0) ∧ w'.cell? ⟨gx, 1, none⟩ = some (.slice A1 L.length c1) ∧ w'.cell? ⟨gx, 2, none⟩ = some (.int .i64 (1 - a)) ∧ w'.cell? ⟨w.heap.size, 0, none⟩ = some (.slice A0 C.length c0) ∧ w'.cell? ⟨w.heap.size, 1, none⟩ = some (.slice A1 L.length c1) ∧ w'.cell? ⟨w.heap.size, 2, none⟩ = some (.int .i64 a)) (ds := []) #[false, false, false, false, false, false, false, false, false, false, false, false, false, false, false, false, false, false, false, false, false, false, false, false, false, false, false, false, false, false, false, false, false, false, false, false, false, false, false, false, false, false, false, false, false] (by kernel_rfl) rfl rfl ⟨q0, q1, q2, p0, p1, p2⟩ (fun hHeld => ?_)
    refine take_ (i := 0) (N := some 65) (v := ?_) (a' := ?_) (bl 45 1) rfl rfl (by kernel_rfl) (fun _ _ _ h => h) (Or.inl ⟨by rfl, ?_⟩) hHeld ?_ ?_; rotate_left; · (rintro w' ⟨s0, s1, s2, s3, s4, s5⟩; go_simp; with_reducible rfl)
    rotate_left; · (simp only [Act.put, List.setIfInBounds_toArray, List.set_cons_zero, List.set_cons_succ, i64_w, i32_w]; rfl)
    refine one_ (i := 1) (N := some 66) (bl 45 3) rfl rfl (by kernel_rfl) (by decide) (fun K hK => ?_)
    refine goes_ Try.func14 (by kernel_rfl) rfl #[.agg #[.slice E0 (negL C).length m0, .slice A1 L.length c1, .int .i64 (1 - a)], .int .i64 65536] (by rfl) rfl rfl (by simp only [List.map_toArray, List.map_cons, List.map_nil]; rfl) ?_
    with_reducible refine (lin_Check.calls E0 m0 (negL C) A1 c1 L (1 - a) 65536 0 _ (Kd.C_below HX8.out.rw.rC (Below.refl w8.heap.size w8).drew) HX8.out.rw.lC (Kd.C_below HX8.out.rw.rL (Below.refl w8.heap.size w8).drew) HX8.out.rw.lL (by unfold lin_Check.f; rw [HNP.out.check])).mono ?_
    rintro e wa ⟨rfl, hb⟩
    refine ⟨_, rfl, ?_⟩
    have HB1 : Hid (Below w8.heap.size w8 wa) := Lib.hid (below_step (Below.refl w8.heap.size w8).drew hb)
    clear hb
    refine hK.out _ _ ⟨(HX8.out.below HB1.out).q0, (HX8.out.below HB1.out).q1, (HX8.out.below HB1.out).q2, (HL8.out.2.below HB1.out).q0, (HL8.out.2.below HB1.out).q1, (HL8.out.2.below HB1.out).q2⟩ (fun hHeld => ?_)
    clear hK K
    refine norm_ (a' := ?_) ?_ ?_
    rotate_left
    ·
     show Act.put _ (some 66) _ = _
     simp only [Act.put, List.setIfInBounds_toArray, List.set_cons_zero, List.set_cons_succ, i64_w, i32_w]
     rfl
    refine pure_ (i := 2) (N := some 67) (v := ?_) (a' := ?_) (bl 45 7) rfl rfl (by kernel_rfl) (fun _ _ _ h => h) (Or.inl ⟨by rfl, ?_⟩) ?_ ?_; rotate_left; · (intro w'; go_simp; with_reducible rfl)
    rotate_left; · (simp only [Act.put, List.setIfInBounds_toArray, List.set_cons_zero, List.set_cons_succ, i64_w, i32_w]; rfl)
    refine pure_ (i := 3) (N := some 68) (v := ?_) (a' := ?_) (bl 45 15) rfl rfl (by kernel_rfl) (fun _ _ _ h => h) (Or.inl ⟨by rfl, ?_⟩) ?_ ?_; rotate_left; · (intro w'; go_simp; with_reducible rfl)
    rotate_left; · (simp only [Act.put, List.setIfInBounds_toArray, List.set_cons_zero, List.set_cons_succ, i64_w, i32_w]; rfl)
    refine pure_ (i := 5) (N := some 70) (v := ?_) (a' := ?_) (bl 45 47) rfl rfl (by kernel_rfl) (fun _ _ _ h => h) (Or.inl ⟨by rfl, ?_⟩) ?_ ?_; rotate_left; · (intro w'; go_simp; with_reducible rfl)
    rotate_left; · (simp only [Act.put, List.setIfInBounds_toArray, List.set_cons_zero, List.set_cons_succ, i64_w, i32_w]; rfl)
    refine pure_ (i := 8) (N := some 73) (v := ?_) (a' := ?_) (bl 45 303) rfl rfl (by kernel_rfl) (fun _ _ _ h => h) (Or.inl ⟨by rfl, ?_⟩) ?_ ?_; rotate_left; · (intro w'; go_simp; with_reducible rfl)
    rotate_left; · (simp only [Act.put, List.setIfInBounds_toArray, List.set_cons_zero, List.set_cons_succ, i64_w, i32_w]; rfl)
    refine take_ (i := 4) (N := some 69) (v := ?_) (a' := ?_) (bl 45 319) rfl rfl (by kernel_rfl) (fun _ _ _ h => h) (Or.inl ⟨by rfl, ?_⟩) hHeld ?_ ?_; rotate_left; · (rintro w' ⟨s0, s1, s2, s3, s4, s5⟩; go_simp; with_reducible rfl)
    rotate_left; · (simp only [Act.put, List.setIfInBounds_toArray, List.set_cons_zero, List.set_cons_succ, i64_w, i32_w]; rfl)
    refine take_ (i := 7) (N := some 72) (v := ?_) (a' := ?_) (bl 45 447) rfl rfl (by kernel_rfl) (fun _ _ _ h => h) (Or.inl ⟨by rfl, ?_⟩) hHeld ?_ ?_; rotate_left; · (rintro w' ⟨s0, s1, s2, s3, s4, s5⟩; go_simp; with_reducible rfl)
    rotate_left; · (simp only [Act.put, List.setIfInBounds_toArray, List.set_cons_zero, List.set_cons_succ, i64_w, i32_w]; rfl)
    refine one_ (i := 6) (N := some 71) (bl 45 511) rfl rfl (by kernel_rfl) (by decide) (fun K hK => ?_)
    refine goes_ Try.func20 (by kernel_rfl) rfl #[.agg #[.slice E0 (negL C).length m0, .slice A1 L.length c1, .int .i64 (1 - a)], .slice A2 t.length c2] (by rfl) rfl rfl (by simp only [List.map_toArray, List.map_cons, List.map_nil]; rfl) ?_
    with_reducible refine (lin_Value.calls E0 m0 (negL C) A1 c1 L (1 - a) A2 c2 t (!lin_Value.val C L a t) _ (Kd.C_below HX8.out.rw.rC HB1.out) HX8.out.rw.lC (Kd.C_below HX8.out.rw.rL HB1.out) HX8.out.rw.lL (Kd.C_below HT.out (below_step HL8.out.1 HB1.out)) htc (by unfold lin_Value.f; rw [HNP.out.value])).mono ?_
    rintro e wb ⟨rfl, hb⟩
    refine ⟨_, rfl, ?_⟩
    have HB2 : Hid (Below w8.heap.size w8 wb) := Lib.hid (below_step HB1.out hb)
    clear hb
    refine hK.out _ _ ⟨(HX8.out.below HB2.out).q0, (HX8.out.below HB2.out).q1, (HX8.out.below HB2.out).q2, (HL8.out.2.below HB2.out).q0, (HL8.out.2.below HB2.out).q1, (HL8.out.2.below HB2.out).q2⟩ (fun hHeld => ?_)
    clear hK K
    refine norm_ (a' := ?_) ?_ ?_
    rotate_left
    ·
     show Act.put _ (some 71) _ = _
     simp only [Act.put, List.setIfInBounds_toArray, List.set_cons_zero, List.set_cons_succ, i64_w, i32_w]
     rfl
    refine one_ (i := 9) (N := some 74) (bl 45 1023) rfl rfl (by kernel_rfl) (by decide) (fun K hK => ?_)
    refine goes_ Try.func20 (by kernel_rfl) rfl #[.agg #[.slice A0 C.length c0, .slice A1 L.length c1, .int .i64 a], .slice A2 t.length c2] (by rfl) rfl rfl (by simp only [List.map_toArray, List.map_cons, List.map_nil]; rfl) ?_
    with_reducible refine (lin_Value.calls A0 c0 C A1 c1 L a A2 c2 t (lin_Value.val C L a t) _ (Kd.C_below HL8.out.2.rw.rC HB2.out) HL8.out.2.rw.lC (Kd.C_below HL8.out.2.rw.rL HB2.out) HL8.out.2.rw.lL (Kd.C_below HT.out (below_step HL8.out.1 HB2.out)) htc rfl).mono ?_
    rintro e wc ⟨rfl, hb⟩
    refine ⟨_, rfl, ?_⟩
    have HB3 : Hid (Below w8.heap.size w8 wc) := Lib.hid (below_step HB2.out hb)
    clear hb
    refine hK.out _ _ ⟨(HX8.out.below HB3.out).q0, (HX8.out.below HB3.out).q1, (HX8.out.below HB3.out).q2, (HL8.out.2.below HB3.out).q0, (HL8.out.2.below HB3.out).q1, (HL8.out.2.below HB3.out).q2⟩ (fun hHeld => ?_)
    clear hK K
    refine norm_ (a' := ?_) ?_ ?_
    rotate_left
    ·
     show Act.put _ (some 74) _ = _
     simp only [Act.put, List.setIfInBounds_toArray, List.set_cons_zero, List.set_cons_succ, i64_w, i32_w]
     rfl
    refine pure_ (i := 10) (N := some 75) (v := ?_) (a' := ?_) (bl 45 2047) rfl rfl (by kernel_rfl) (fun _ _ _ h => h) (Or.inl ⟨by rfl, ?_⟩) ?_ ?_; rotate_left; · (intro w'; go_simp; with_reducible rfl)
    rotate_left; · (simp only [Act.put, List.setIfInBounds_toArray, List.set_cons_zero, List.set_cons_succ, i64_w, i32_w]; rfl)
    refine pure_ (i := 11) (N := some 76) (v := ?_) (a' := ?_) (bl 45 4095) rfl rfl (by kernel_rfl) (fun _ _ _ h => h) (Or.inl ⟨by rfl, ?_⟩) ?_ ?_; rotate_left; · (intro w'; go_simp; with_reducible rfl)
    rotate_left; · (simp only [Act.put, List.setIfInBounds_toArray, List.set_cons_zero, List.set_cons_succ, i64_w, i32_w]; rfl)
    refine pure_ (i := 12) (N := some 77) (v := ?_) (a' := ?_) (bl 45 8191) rfl rfl (by kernel_rfl) (fun _ _ _ h => h) (Or.inl ⟨by rfl, ?_⟩) ?_ ?_; rotate_left; · (intro w'; go_simp; with_reducible rfl)
    rotate_left; · (simp only [Act.put, List.setIfInBounds_toArray, List.set_cons_zero, List.set_cons_succ, i64_w, i32_w]; rfl)
    refine pure_ (i := 13) (N := some 78) (v := ?_) (a' := ?_) (bl 45 16383) rfl rfl (by kernel_rfl) (fun _ _ _ h => h) (Or.inl ⟨by rfl, ?_⟩) ?_ ?_; rotate_left; · (intro w'; go_simp; with_reducible rfl)
    rotate_left; · (simp only [Act.put, List.setIfInBounds_toArray, List.set_cons_zero, List.set_cons_succ, i64_w, i32_w]; rfl)
    refine pure_ (i := 14) (N := some 79) (v := ?_) (a' := ?_) (bl 45 32767) rfl rfl (by kernel_rfl) (fun _ _ _ h => h) (Or.inl ⟨by rfl, ?_⟩) ?_ ?_; rotate_left; · (intro w'; go_simp; with_reducible rfl)
    rotate_left; · (simp only [Act.put, List.setIfInBounds_toArray, List.set_cons_zero, List.set_cons_succ, i64_w, i32_w]; rfl)
    refine pure_ (i := 15) (N := some 80) (v := undef) (a' := ?_) (bl 45 65535) rfl rfl (by kernel_rfl) (fun _ _ _ h => h) (Or.inr ⟨by rfl, rfl⟩) ?_ ?_
    rotate_left
    ·
     simp only [Act.put, List.setIfInBounds_toArray, List.set_cons_zero, List.set_cons_succ, i64_w, i32_w]
     rfl
    refine pure_ (i := 16) (N := some 81) (v := ?_) (a' := ?_) (bl 45 131071) rfl rfl (by kernel_rfl) (fun _ _ _ h => h) (Or.inl ⟨by rfl, ?_⟩) ?_ ?_; rotate_left; · (intro w'; go_simp; with_reducible rfl)
    rotate_left; · (simp only [Act.put, List.setIfInBounds_toArray, List.set_cons_zero, List.set_cons_succ, i64_w, i32_w]; rfl)
    refine pure_ (i := 17) (N := some 82) (v := ?_) (a' := ?_) (bl 45 262143) rfl rfl (by kernel_rfl) (fun _ _ _ h => h) (Or.inl ⟨by rfl, ?_⟩) ?_ ?_; rotate_left; · (intro w'; go_simp; with_reducible rfl)
    rotate_left; · (simp only [Act.put, List.setIfInBounds_toArray, List.set_cons_zero, List.set_cons_succ, i64_w, i32_w]; rfl)
    refine pure_ (i := 18) (N := some 83) (v := ?_) (a' := ?_) (bl 45 524287) rfl rfl (by kernel_rfl) (fun _ _ _ h => h) (Or.inl ⟨by rfl, ?_⟩) ?_ ?_; rotate_left; · (intro w'; go_simp; with_reducible rfl)
    rotate_left; · (simp only [Act.put, List.setIfInBounds_toArray, List.set_cons_zero, List.set_cons_succ, i64_w, i32_w]; rfl)
    refine pure_ (i := 19) (N := some 84) (v := ?_) (a' := ?_) (bl 45 1048575) rfl rfl (by kernel_rfl) (fun _ _ _ h => h) (Or.inl ⟨by rfl, ?_⟩) ?_ ?_; rotate_left; · (intro w'; go_simp; with_reducible rfl)
    rotate_left; · (simp only [Act.put, List.setIfInBounds_toArray, List.set_cons_zero, List.set_cons_succ, i64_w, i32_w]; rfl)
    refine pure_ (i := 20) (N := some 85) (v := ?_) (a' := ?_) (bl 45 2097151) rfl rfl (by kernel_rfl) (fun _ _ _ h => h) (Or.inl ⟨by rfl, ?_⟩) ?_ ?_; rotate_left; · (intro w'; go_simp; with_reducible rfl)
    rotate_left; · (simp only [Act.put, List.setIfInBounds_toArray, List.set_cons_zero, List.set_cons_succ, i64_w, i32_w]; rfl)
    refine pure_ (i := 21) (N := some 86) (v := undef) (a' := ?_) (bl 45 4194303) rfl rfl (by kernel_rfl) (fun _ _ _ h => h) (Or.inr ⟨by rfl, rfl⟩) ?_ ?_
    rotate_left
    ·
     simp only [Act.put, List.setIfInBounds_toArray, List.set_cons_zero, List.set_cons_succ, i64_w, i32_w]
     rfl
    refine pure_ (i := 22) (N := some 87) (v := undef) (a' := ?_) (bl 45 8388607) rfl rfl (by kernel_rfl) (fun _ _ _ h => h) (Or.inr ⟨by rfl, rfl⟩) ?_ ?_
    rotate_left
    ·
     simp only [Act.put, List.setIfInBounds_toArray, List.set_cons_zero, List.set_cons_succ, i64_w, i32_w]
     rfl
    refine pure_ (i := 23) (N := some 88) (v := undef) (a' := ?_) (bl 45 16777215) rfl rfl (by kernel_rfl) (fun _ _ _ h => h) (Or.inr ⟨by rfl, rfl⟩) ?_ ?_
    rotate_left
    ·
     simp only [Act.put, List.setIfInBounds_toArray, List.set_cons_zero, List.set_cons_succ, i64_w, i32_w]
     rfl
    refine pure_ (i := 24) (N := some 89) (v := ?_) (a' := ?_) (bl 45 33554431) rfl rfl (by kernel_rfl) (fun _ _ _ h => h) (Or.inl ⟨by rfl, ?_⟩) ?_ ?_; rotate_left; · (intro w'; go_simp; with_reducible rfl)
    rotate_left; · (simp only [Act.put, List.setIfInBounds_toArray, List.set_cons_zero, List.set_cons_succ, i64_w, i32_w]; rfl)
    refine pure_ (i := 25) (N := some 90) (v := ?_) (a' := ?_) (bl 45 67108863) rfl rfl (by kernel_rfl) (fun _ _ _ h => h) (Or.inl ⟨by rfl, ?_⟩) ?_ ?_; rotate_left; · (intro w'; go_simp; with_reducible rfl)
    rotate_left; · (simp only [Act.put, List.setIfInBounds_toArray, List.set_cons_zero, List.set_cons_succ, i64_w, i32_w]; rfl)
    refine pure_ (i := 26) (N := some 91) (v := ?_) (a' := ?_) (bl 45 134217727) rfl rfl (by kernel_rfl) (fun _ _ _ h => h) (Or.inl ⟨by rfl, ?_⟩) ?_ ?_; rotate_left; · (intro w'; go_simp; with_reducible rfl)
    rotate_left; · (simp only [Act.put, List.setIfInBounds_toArray, List.set_cons_zero, List.set_cons_succ, i64_w, i32_w]; rfl)
    refine pure_ (i := 27) (N := some 92) (v := ?_) (a' := ?_) (bl 45 268435455) rfl rfl (by kernel_rfl) (fun _ _ _ h => h) (Or.inl ⟨by rfl, ?_⟩) ?_ ?_; rotate_left; · (intro w'; go_simp; with_reducible rfl)
    rotate_left; · (simp only [Act.put, List.setIfInBounds_toArray, List.set_cons_zero, List.set_cons_succ, i64_w, i32_w]; rfl)
    refine pure_ (i := 28) (N := some 93) (v := ?_) (a' := ?_) (bl 45 536870911) rfl rfl (by kernel_rfl) (fun _ _ _ h => h) (Or.inl ⟨by rfl, ?_⟩) ?_ ?_; rotate_left; · (intro w'; go_simp; with_reducible rfl)
    rotate_left; · (simp only [Act.put, List.setIfInBounds_toArray, List.set_cons_zero, List.set_cons_succ, i64_w, i32_w]; rfl)
    refine pure_ (i := 31) (N := some 96) (v := ?_) (a' := ?_) (bl 45 2684354559) rfl rfl (by kernel_rfl) (fun _ _ _ h => h) (Or.inl ⟨by rfl, ?_⟩) ?_ ?_; rotate_left; · (intro w'; go_simp; with_reducible rfl)
    rotate_left; · (simp only [Act.put, List.setIfInBounds_toArray, List.set_cons_zero, List.set_cons_succ, i64_w, i32_w]; rfl)
    refine take_ (i := 29) (N := some 94) (v := ?_) (a' := ?_) (bl 45 3221225471) rfl rfl (by kernel_rfl) (fun _ _ _ h => h) (Or.inl ⟨by rfl, ?_⟩) hHeld ?_ ?_; rotate_left; · (rintro w' ⟨s0, s1, s2, s3, s4, s5⟩; go_simp; with_reducible rfl)
    rotate_left; · (simp only [Act.put, List.setIfInBounds_toArray, List.set_cons_zero, List.set_cons_succ, i64_w, i32_w]; rfl)
    refine one_ (i := 30) (N := some 95) (bl 45 4294967295) rfl rfl (by kernel_rfl) (by decide) (fun K hK => ?_)
    refine goes_ Try.func17 (by kernel_rfl) rfl #[.agg #[.slice A0 C.length c0, .slice A1 L.length c1, .int .i64 a]] (by rfl) rfl rfl (by simp only [List.map_toArray, List.map_cons, List.map_nil]; rfl) ?_
    with_reducible refine (lin_Norm.calls A0 c0 C A1 c1 L a [] [] 0 _ (Kd.C_below HL8.out.2.rw.rC HB3.out) HL8.out.2.rw.lC (Kd.C_below HL8.out.2.rw.rL HB3.out) HL8.out.2.rw.lL HNM.out).mono ?_
    rintro e wd ⟨v0, v1, rfl, hx0, hx1, hb⟩
    refine ⟨_, rfl, ?_⟩
    obtain ⟨G0, u0, hv0, _, _⟩ := Kd.R_reads hx0
    obtain ⟨G1, u1, hv1, _, _⟩ := Kd.R_reads hx1
    rw [List.length_nil] at hv0 hv1
    subst hv0 hv1
    clear hx0 hx1
    have HB4 : Hid (Below w8.heap.size w8 wd) := Lib.hid (below_step HB3.out hb)
    clear hb
    refine hK.out _ _ ⟨(HX8.out.below HB4.out).q0, (HX8.out.below HB4.out).q1, (HX8.out.below HB4.out).q2, (HL8.out.2.below HB4.out).q0, (HL8.out.2.below HB4.out).q1, (HL8.out.2.below HB4.out).q2⟩ (fun hHeld => ?_)
    clear hK K
    refine norm_ (a' := ?_) ?_ ?_
    rotate_left
    ·
     show Act.put _ (some 95) _ = _
     simp only [Act.put, List.setIfInBounds_toArray, List.set_cons_zero, List.set_cons_succ, i64_w, i32_w]
     rfl
    refine one_ (i := 32) (N := some 97) (bl 45 8589934591) rfl rfl (by kernel_rfl) (by decide) (fun K hK => ?_)
    refine goes_ Try.func16 (by kernel_rfl) rfl #[.agg #[.slice G0 0 u0, .slice G1 0 u1, .int .i64 0], .agg #[.slice none 0 0, .slice none 0 0, .int .i64 0]] (by rfl) rfl rfl (by simp only [List.map_toArray, List.map_cons, List.map_nil]; rfl) ?_
    with_reducible refine (same_nil G0 u0 G1 u1 0 _).mono ?_
    rintro e we ⟨rfl, hb⟩
    refine ⟨_, rfl, ?_⟩
    have HB5 : Hid (Below w8.heap.size w8 we) := Lib.hid (below_step HB4.out hb)
    clear hb
    refine hK.out _ _ ⟨(HX8.out.below HB5.out).q0, (HX8.out.below HB5.out).q1, (HX8.out.below HB5.out).q2, (HL8.out.2.below HB5.out).q0, (HL8.out.2.below HB5.out).q1, (HL8.out.2.below HB5.out).q2⟩ (fun hHeld => ?_)
    clear hK K
    refine norm_ (a' := ?_) ?_ ?_
    rotate_left
    ·
     show Act.put _ (some 97) _ = _
     simp only [Act.put, List.setIfInBounds_toArray, List.set_cons_zero, List.set_cons_succ, i64_w, i32_w]
     rfl
    refine pure_ (i := 33) (N := some 98) (v := ?_) (a' := ?_) (bl 45 17179869183) rfl rfl (by kernel_rfl) (fun _ _ _ h => h) (Or.inl ⟨by rfl, ?_⟩) ?_ ?_; rotate_left; · (intro w'; go_simp; with_reducible rfl)
    rotate_left; · (simp only [Act.put, List.setIfInBounds_toArray, List.set_cons_zero, List.set_cons_succ, i64_w, i32_w]; rfl)
    refine pure_ (i := 34) (N := some 99) (v := ?_) (a' := ?_) (bl 45 34359738367) rfl rfl (by kernel_rfl) (fun _ _ _ h => h) (Or.inl ⟨by rfl, ?_⟩) ?_ ?_; rotate_left; · (intro w'; go_simp; with_reducible rfl)
    rotate_left; · (simp only [Act.put, List.setIfInBounds_toArray, List.set_cons_zero, List.set_cons_succ, i64_w, i32_w]; rfl)
    refine pure_ (i := 35) (N := some 100) (v := ?_) (a' := ?_) (bl 45 68719476735) rfl rfl (by kernel_rfl) (fun _ _ _ h => h) (Or.inl ⟨by rfl, ?_⟩) ?_ ?_; rotate_left; · (intro w'; go_simp; with_reducible rfl)
    rotate_left; · (simp only [Act.put, List.setIfInBounds_toArray, List.set_cons_zero, List.set_cons_succ, i64_w, i32_w]; rfl)
    refine pure_ (i := 36) (N := some 101) (v := ?_) (a' := ?_) (bl 45 137438953471) rfl rfl (by kernel_rfl) (fun _ _ _ h => h) (Or.inl ⟨by rfl, ?_⟩) ?_ ?_; rotate_left; · (intro w'; go_simp; with_reducible rfl)
    rotate_left; · (simp only [Act.put, List.setIfInBounds_toArray, List.set_cons_zero, List.set_cons_succ, i64_w, i32_w]; rfl)
    refine pure_ (i := 37) (N := some 102) (v := ?_) (a' := ?_) (bl 45 274877906943) rfl rfl (by kernel_rfl) (fun _ _ _ h => h) (Or.inl ⟨by rfl, ?_⟩) ?_ ?_; rotate_left; · (intro w'; go_simp; with_reducible rfl)
    rotate_left; · (simp only [Act.put, List.setIfInBounds_toArray, List.set_cons_zero, List.set_cons_succ, i64_w, i32_w]; rfl)
    refine pure_ (i := 38) (N := some 103) (v := undef) (a' := ?_) (bl 45 549755813887) rfl rfl (by kernel_rfl) (fun _ _ _ h => h) (Or.inr ⟨by rfl, rfl⟩) ?_ ?_
    rotate_left
    ·
     simp only [Act.put, List.setIfInBounds_toArray, List.set_cons_zero, List.set_cons_succ, i64_w, i32_w]
     rfl
    refine pure_ (i := 39) (N := some 104) (v := undef) (a' := ?_) (bl 45 1099511627775) rfl rfl (by kernel_rfl) (fun _ _ _ h => h) (Or.inr ⟨by rfl, rfl⟩) ?_ ?_
    rotate_left
    ·
     simp only [Act.put, List.setIfInBounds_toArray, List.set_cons_zero, List.set_cons_succ, i64_w, i32_w]
     rfl
    refine pure_ (i := 40) (N := some 105) (v := undef) (a' := ?_) (bl 45 2199023255551) rfl rfl (by kernel_rfl) (fun _ _ _ h => h) (Or.inr ⟨by rfl, rfl⟩) ?_ ?_
    rotate_left
    ·
     simp only [Act.put, List.setIfInBounds_toArray, List.set_cons_zero, List.set_cons_succ, i64_w, i32_w]
     rfl
    refine pure_ (i := 41) (N := some 106) (v := undef) (a' := ?_) (bl 45 4398046511103) rfl rfl (by kernel_rfl) (fun _ _ _ h => h) (Or.inr ⟨by rfl, rfl⟩) ?_ ?_
    rotate_left
    ·
     simp only [Act.put, List.setIfInBounds_toArray, List.set_cons_zero, List.set_cons_succ, i64_w, i32_w]
     rfl
    refine pure_ (i := 42) (N := some 107) (v := ?_) (a' := ?_) (bl 45 8796093022207) rfl rfl (by kernel_rfl) (fun _ _ _ h => h) (Or.inl ⟨by rfl, ?_⟩) ?_ ?_; rotate_left; · (intro w'; go_simp; with_reducible rfl)
    rotate_left; · (simp only [Act.put, List.setIfInBounds_toArray, List.set_cons_zero, List.set_cons_succ, i64_w, i32_w]; rfl)
    refine pure_ (i := 43) (N := some 108) (v := ?_) (a' := ?_) (bl 45 17592186044415) rfl rfl (by kernel_rfl) (fun _ _ _ h => h) (Or.inl ⟨by rfl, ?_⟩) ?_ ?_; rotate_left; · (intro w'; go_simp; with_reducible rfl)
    rotate_left; · (simp only [Act.put, List.setIfInBounds_toArray, List.set_cons_zero, List.set_cons_succ, i64_w, i32_w]; rfl)
    refine pure_ (i := 44) (N := some 4) (v := ?_) (a' := ?_) (bl 45 35184372088831) rfl rfl (by kernel_rfl) (fun _ _ _ h => h) (Or.inl ⟨by rfl, ?_⟩) ?_ ?_; rotate_left; · (intro w'; go_simp; with_reducible rfl)
    rotate_left; · (simp only [Act.put, List.setIfInBounds_toArray, List.set_cons_zero, List.set_cons_succ, i64_w, i32_w]; rfl)
    refine done_ (by kernel_rfl) ?_
    go_wp2
    go_ret
    exact ⟨rfl, below_step HL8.out.1 HB5.out⟩
   ·
    have HNM := Lib.hid hnm
    clear HCS HF1 HF2 hnm
    refine start_ (n := 45) (S := fun w' => w'.cell? ⟨gx, 0, none⟩ = some (.slice E0 (negL C).length m0) ∧ w'.cell? ⟨gx, 1, none⟩ = some (.slice A1 L.length c1) ∧ w'.cell? ⟨gx, 2, none⟩ = some (.int .i64 (1 - a)) ∧ w'.cell? ⟨w.heap.size, 0, none⟩ = some (.slice A0 C.length c0) ∧ w'.cell? ⟨w.heap.size, 1, none⟩ = some (.slice A1 L.length c1) ∧ w'.cell? ⟨w.heap.size, 2, none⟩ = some (.int .i64 a)) (ds := []) #[false, false, false, false, false, false, false, false, false, false, false, false, false, false, false, false, false, false, false, false, false, false, false, false, false, false, false, false, false, false, false, false, false, false, false, false, false, false, false, false, false, false, false, false, false] (by kernel_rfl) rfl rfl ⟨q0, q1, q2, p0, p1, p2⟩ (fun hHeld => ?_)
    refine take_ (i := 0) (N := some 65) (v := ?_) (a' := ?_) (bl 45 1) rfl rfl (by kernel_rfl) (fun _ _ _ h => h) (Or.inl ⟨by rfl, ?_⟩) hHeld ?_ ?_; rotate_left; · (rintro w' ⟨s0, s1, s2, s3, s4, s5⟩; go_simp; with_reducible rfl)
    rotate_left; · (simp only [Act.put, List.setIfInBounds_toArray, List.set_cons_zero, List.set_cons_succ, i64_w, i32_w]; rfl)
    refine one_ (i := 1) (N := some 66) (bl 45 3) rfl rfl (by kernel_rfl) (by decide) (fun K hK => ?_)
    refine goes_ Try.func14 (by kernel_rfl) rfl #[.agg #[.slice E0 (negL C).length m0, .slice A1 L.length c1, .int .i64 (1 - a)], .int .i64 65536] (by rfl) rfl rfl (by simp only [List.map_toArray, List.map_cons, List.map_nil]; rfl) ?_
    with_reducible refine (lin_Check.calls E0 m0 (negL C) A1 c1 L (1 - a) 65536 0 _ (Kd.C_below HX8.out.rw.rC (Below.refl w8.heap.size w8).drew) HX8.out.rw.lC (Kd.C_below HX8.out.rw.rL (Below.refl w8.heap.size w8).drew) HX8.out.rw.lL (by unfold lin_Check.f; rw [HNP.out.check])).mono ?_
    rintro e wa ⟨rfl, hb⟩
    refine ⟨_, rfl, ?_⟩
    have HB1 : Hid (Below w8.heap.size w8 wa) := Lib.hid (below_step (Below.refl w8.heap.size w8).drew hb)
    clear hb
    refine hK.out _ _ ⟨(HX8.out.below HB1.out).q0, (HX8.out.below HB1.out).q1, (HX8.out.below HB1.out).q2, (HL8.out.2.below HB1.out).q0, (HL8.out.2.below HB1.out).q1, (HL8.out.2.below HB1.out).q2⟩ (fun hHeld => ?_)
    clear hK K
    refine norm_ (a' := ?_) ?_ ?_
    rotate_left
    ·
     show Act.put _ (some 66) _ = _
     simp only [Act.put, List.setIfInBounds_toArray, List.set_cons_zero, List.set_cons_succ, i64_w, i32_w]
     rfl
    refine pure_ (i := 2) (N := some 67) (v := ?_) (a' := ?_) (bl 45 7) rfl rfl (by kernel_rfl) (fun _ _ _ h => h) (Or.inl ⟨by rfl, ?_⟩) ?_ ?_; rotate_left; · (intro w'; go_simp; with_reducible rfl)
    rotate_left; · (simp only [Act.put, List.setIfInBounds_toArray, List.set_cons_zero, List.set_cons_succ, i64_w, i32_w]; rfl)
    refine pure_ (i := 3) (N := some 68) (v := ?_) (a' := ?_) (bl 45 15) rfl rfl (by kernel_rfl) (fun _ _ _ h => h) (Or.inl ⟨by rfl, ?_⟩) ?_ ?_; rotate_left; · (intro w'; go_simp; with_reducible rfl)
    rotate_left; · (simp only [Act.put, List.setIfInBounds_toArray, List.set_cons_zero, List.set_cons_succ, i64_w, i32_w]; rfl)
    refine pure_ (i := 5) (N := some 70) (v := ?_) (a' := ?_) (bl 45 47) rfl rfl (by kernel_rfl) (fun _ _ _ h => h) (Or.inl ⟨by rfl, ?_⟩) ?_ ?_; rotate_left; · (intro w'; go_simp; with_reducible rfl)
    rotate_left; · (simp only [Act.put, List.setIfInBounds_toArray, List.set_cons_zero, List.set_cons_succ, i64_w, i32_w]; rfl)
    refine pure_ (i := 8) (N := some 73) (v := ?_) (a' := ?_) (bl 45 303) rfl rfl (by kernel_rfl) (fun _ _ _ h => h) (Or.inl ⟨by rfl, ?_⟩) ?_ ?_; rotate_left; · (intro w'; go_simp; with_reducible rfl)
    rotate_left; · (simp only [Act.put, List.setIfInBounds_toArray, List.set_cons_zero, List.set_cons_succ, i64_w, i32_w]; rfl)
    refine take_ (i := 4) (N := some 69) (v := ?_) (a' := ?_) (bl 45 319) rfl rfl (by kernel_rfl) (fun _ _ _ h => h) (Or.inl ⟨by rfl, ?_⟩) hHeld ?_ ?_; rotate_left; · (rintro w' ⟨s0, s1, s2, s3, s4, s5⟩; go_simp; with_reducible rfl)
    rotate_left; · (simp only [Act.put, List.setIfInBounds_toArray, List.set_cons_zero, List.set_cons_succ, i64_w, i32_w]; rfl)
    refine take_ (i := 7) (N := some 72) (v := ?_) (a' := ?_) (bl 45 447) rfl rfl (by kernel_rfl) (fun _ _ _ h => h) (Or.inl ⟨by rfl, ?_⟩) hHeld ?_ ?_; rotate_left; · (rintro w' ⟨s0, s1, s2, s3, s4, s5⟩; go_simp; with_reducible rfl)
    rotate_left; · (simp only [Act.put, List.setIfInBounds_toArray, List.set_cons_zero, List.set_cons_succ, i64_w, i32_w]; rfl)
    refine one_ (i := 6) (N := some 71) (bl 45 511) rfl rfl (by kernel_rfl) (by decide) (fun K hK => ?_)
    refine goes_ Try.func20 (by kernel_rfl) rfl #[.agg #[.slice E0 (negL C).length m0, .slice A1 L.length c1, .int .i64 (1 - a)], .slice A2 t.length c2] (by rfl) rfl rfl (by simp only [List.map_toArray, List.map_cons, List.map_nil]; rfl) ?_
    with_reducible refine (lin_Value.calls E0 m0 (negL C) A1 c1 L (1 - a) A2 c2 t (!lin_Value.val C L a t) _ (Kd.C_below HX8.out.rw.rC HB1.out) HX8.out.rw.lC (Kd.C_below HX8.out.rw.rL HB1.out) HX8.out.rw.lL (Kd.C_below HT.out (below_step HL8.out.1 HB1.out)) htc (by unfold lin_Value.f; rw [HNP.out.value])).mono ?_
    rintro e wb ⟨rfl, hb⟩
    refine ⟨_, rfl, ?_⟩
    have HB2 : Hid (Below w8.heap.size w8 wb) := Lib.hid (below_step HB1.out hb)
    clear hb
    refine hK.out _ _ ⟨(HX8.out.below HB2.out).q0, (HX8.out.below HB2.out).q1, (HX8.out.below HB2.out).q2, (HL8.out.2.below HB2.out).q0, (HL8.out.2.below HB2.out).q1, (HL8.out.2.below HB2.out).q2⟩ (fun hHeld => ?_)
    clear hK K
    refine norm_ (a' := ?_) ?_ ?_
    rotate_left
    ·
     show Act.put _ (some 71) _ = _
     simp only [Act.put, List.setIfInBounds_toArray, List.set_cons_zero, List.set_cons_succ, i64_w, i32_w]
     rfl
    refine one_ (i := 9) (N := some 74) (bl 45 1023) rfl rfl (by kernel_rfl) (by decide) (fun K hK => ?_)
    refine goes_ Try.func20 (by kernel_rfl) rfl #[.agg #[.slice A0 C.length c0, .slice A1 L.length c1, .int .i64 a], .slice A2 t.length c2] (by rfl) rfl rfl (by simp only [List.map_toArray, List.map_cons, List.map_nil]; rfl) ?_
    with_reducible refine (lin_Value.calls A0 c0 C A1 c1 L a A2 c2 t (lin_Value.val C L a t) _ (Kd.C_below HL8.out.2.rw.rC HB2.out) HL8.out.2.rw.lC (Kd.C_below HL8.out.2.rw.rL HB2.out) HL8.out.2.rw.lL (Kd.C_below HT.out (below_step HL8.out.1 HB2.out)) htc rfl).mono ?_
    rintro e wc ⟨rfl, hb⟩
    refine ⟨_, rfl, ?_⟩
    have HB3 : Hid (Below w8.heap.size w8 wc) := Lib.hid (below_step HB2.out hb)
    clear hb
    refine hK.out _ _ ⟨(HX8.out.below HB3.out).q0, (HX8.out.below HB3.out).q1, (HX8.out.below HB3.out).q2, (HL8.out.2.below HB3.out).q0, (HL8.out.2.below HB3.out).q1, (HL8.out.2.below HB3.out).q2⟩ (fun hHeld => ?_)
    clear hK K
    refine norm_ (a' := ?_) ?_ ?_
    rotate_left
    ·
     show Act.put _ (some 74) _ = _
     simp only [Act.put, List.setIfInBounds_toArray, List.set_cons_zero, List.set_cons_succ, i64_w, i32_w]
     rfl
    refine pure_ (i := 10) (N := some 75) (v := ?_) (a' := ?_) (bl 45 2047) rfl rfl (by kernel_rfl) (fun _ _ _ h => h) (Or.inl ⟨by rfl, ?_⟩) ?_ ?_; rotate_left; · (intro w'; go_simp; with_reducible rfl)
    rotate_left; · (simp only [Act.put, List.setIfInBounds_toArray, List.set_cons_zero, List.set_cons_succ, i64_w, i32_w]; rfl)
    refine pure_ (i := 11) (N := some 76) (v := ?_) (a' := ?_) (bl 45 4095) rfl rfl (by kernel_rfl) (fun _ _ _ h => h) (Or.inl ⟨by rfl, ?_⟩) ?_ ?_; rotate_left; · (intro w'; go_simp; with_reducible rfl)
    rotate_left; · (simp only [Act.put, List.setIfInBounds_toArray, List.set_cons_zero, List.set_cons_succ, i64_w, i32_w]; rfl)
    refine pure_ (i := 12) (N := some 77) (v := ?_) (a' := ?_) (bl 45 8191) rfl rfl (by kernel_rfl) (fun _ _ _ h => h) (Or.inl ⟨by rfl, ?_⟩) ?_ ?_; rotate_left; · (intro w'; go_simp; with_reducible rfl)
    rotate_left; · (simp only [Act.put, List.setIfInBounds_toArray, List.set_cons_zero, List.set_cons_succ, i64_w, i32_w]; rfl)
    refine pure_ (i := 13) (N := some 78) (v := ?_) (a' := ?_) (bl 45 16383) rfl rfl (by kernel_rfl) (fun _ _ _ h => h) (Or.inl ⟨by rfl, ?_⟩) ?_ ?_; rotate_left; · (intro w'; go_simp; with_reducible rfl)
    rotate_left; · (simp only [Act.put, List.setIfInBounds_toArray, List.set_cons_zero, List.set_cons_succ, i64_w, i32_w]; rfl)
    refine pure_ (i := 14) (N := some 79) (v := ?_) (a' := ?_) (bl 45 32767) rfl rfl (by kernel_rfl) (fun _ _ _ h => h) (Or.inl ⟨by rfl, ?_⟩) ?_ ?_; rotate_left; · (intro w'; go_simp; with_reducible rfl)
    rotate_left; · (simp only [Act.put, List.setIfInBounds_toArray, List.set_cons_zero, List.set_cons_succ, i64_w, i32_w]; rfl)
    refine pure_ (i := 15) (N := some 80) (v := ?_) (a' := ?_) (bl 45 65535) rfl rfl (by kernel_rfl) (fun _ _ _ h => h) (Or.inl ⟨by rfl, ?_⟩) ?_ ?_; rotate_left; · (intro w'; go_simp; with_reducible rfl)
    rotate_left; · (simp only [Act.put, List.setIfInBounds_toArray, List.set_cons_zero, List.set_cons_succ, i64_w, i32_w]; rfl)
    refine pure_ (i := 16) (N := some 81) (v := ?_) (a' := ?_) (bl 45 131071) rfl rfl (by kernel_rfl) (fun _ _ _ h => h) (Or.inl ⟨by rfl, ?_⟩) ?_ ?_; rotate_left; · (intro w'; go_simp; with_reducible rfl)
    rotate_left; · (simp only [Act.put, List.setIfInBounds_toArray, List.set_cons_zero, List.set_cons_succ, i64_w, i32_w]; rfl)
    refine pure_ (i := 17) (N := some 82) (v := ?_) (a' := ?_) (bl 45 262143) rfl rfl (by kernel_rfl) (fun _ _ _ h => h) (Or.inl ⟨by rfl, ?_⟩) ?_ ?_; rotate_left; · (intro w'; go_simp; with_reducible rfl)
    rotate_left; · (simp only [Act.put, List.setIfInBounds_toArray, List.set_cons_zero, List.set_cons_succ, i64_w, i32_w]; rfl)
    refine pure_ (i := 18) (N := some 83) (v := ?_) (a' := ?_) (bl 45 524287) rfl rfl (by kernel_rfl) (fun _ _ _ h => h) (Or.inl ⟨by rfl, ?_⟩) ?_ ?_; rotate_left; · (intro w'; go_simp; with_reducible rfl)
    rotate_left; · (simp only [Act.put, List.setIfInBounds_toArray, List.set_cons_zero, List.set_cons_succ, i64_w, i32_w]; rfl)
    refine pure_ (i := 19) (N := some 84) (v := ?_) (a' := ?_) (bl 45 1048575) rfl rfl (by kernel_rfl) (fun _ _ _ h => h) (Or.inl ⟨by rfl, ?_⟩) ?_ ?_; rotate_left; · (intro w'; go_simp; with_reducible rfl)
    rotate_left; · (simp only [Act.put, List.setIfInBounds_toArray, List.set_cons_zero, List.set_cons_succ, i64_w, i32_w]; rfl)
    refine pure_ (i := 20) (N := some 85) (v := ?_) (a' := ?_) (bl 45 2097151) rfl rfl (by kernel_rfl) (fun _ _ _ h => h) (Or.inl ⟨by rfl, ?_⟩) ?_ ?_; rotate_left; · (intro w'; go_simp; with_reducible rfl)
    rotate_left; · (simp only [Act.put, List.setIfInBounds_toArray, List.set_cons_zero, List.set_cons_succ, i64_w, i32_w]; rfl)
    refine pure_ (i := 21) (N := some 86) (v := ?_) (a' := ?_) (bl 45 4194303) rfl rfl (by kernel_rfl) (fun _ _ _ h => h) (Or.inl ⟨by rfl, ?_⟩) ?_ ?_; rotate_left; · (intro w'; go_simp; with_reducible rfl)
    rotate_left; · (simp only [Act.put, List.setIfInBounds_toArray, List.set_cons_zero, List.set_cons_succ, i64_w, i32_w]; rfl)
    refine pure_ (i := 22) (N := some 87) (v := ?_) (a' := ?_) (bl 45 8388607) rfl rfl (by kernel_rfl) (fun _ _ _ h => h) (Or.inl ⟨by rfl, ?_⟩) ?_ ?_; rotate_left; · (intro w'; go_simp; with_reducible rfl)
    rotate_left; · (simp only [Act.put, List.setIfInBounds_toArray, List.set_cons_zero, List.set_cons_succ, i64_w, i32_w]; rfl)
    refine pure_ (i := 23) (N := some 88) (v := ?_) (a' := ?_) (bl 45 16777215) rfl rfl (by kernel_rfl) (fun _ _ _ h => h) (Or.inl ⟨by rfl, ?_⟩) ?_ ?_; rotate_left; · (intro w'; go_simp; with_reducible rfl)
    rotate_left; · (simp only [Act.put, List.setIfInBounds_toArray, List.set_cons_zero, List.set_cons_succ, i64_w, i32_w]; rfl)
    refine pure_ (i := 24) (N := some 89) (v := ?_) (a' := ?_) (bl 45 33554431) rfl rfl (by kernel_rfl) (fun _ _ _ h => h) (Or.inl ⟨by rfl, ?_⟩) ?_ ?_; rotate_left; · (intro w'; go_simp; with_reducible rfl)
    rotate_left; · (simp only [Act.put, List.setIfInBounds_toArray, List.set_cons_zero, List.set_cons_succ, i64_w, i32_w]; rfl)
    refine pure_ (i := 25) (N := some 90) (v := ?_) (a' := ?_) (bl 45 67108863) rfl rfl (by kernel_rfl) (fun _ _ _ h => h) (Or.inl ⟨by rfl, ?_⟩) ?_ ?_; rotate_left; · (intro w'; go_simp; with_reducible rfl)
    rotate_left; · (simp only [Act.put, List.setIfInBounds_toArray, List.set_cons_zero, List.set_cons_succ, i64_w, i32_w]; rfl)
    refine pure_ (i := 26) (N := some 91) (v := ?_) (a' := ?_) (bl 45 134217727) rfl rfl (by kernel_rfl) (fun _ _ _ h => h) (Or.inl ⟨by rfl, ?_⟩) ?_ ?_; rotate_left; · (intro w'; go_simp; with_reducible rfl)
    rotate_left; · (simp only [Act.put, List.setIfInBounds_toArray, List.set_cons_zero, List.set_cons_succ, i64_w, i32_w]; rfl)
    refine pure_ (i := 27) (N := some 92) (v := ?_) (a' := ?_) (bl 45 268435455) rfl rfl (by kernel_rfl) (fun _ _ _ h => h) (Or.inl ⟨by rfl, ?_⟩) ?_ ?_; rotate_left; · (intro w'; go_simp; with_reducible rfl)
    rotate_left; · (simp only [Act.put, List.setIfInBounds_toArray, List.set_cons_zero, List.set_cons_succ, i64_w, i32_w]; rfl)
    refine pure_ (i := 28) (N := some 93) (v := ?_) (a' := ?_) (bl 45 536870911) rfl rfl (by kernel_rfl) (fun _ _ _ h => h) (Or.inl ⟨by rfl, ?_⟩) ?_ ?_; rotate_left; · (intro w'; go_simp; with_reducible rfl)
    rotate_left; · (simp only [Act.put, List.setIfInBounds_toArray, List.set_cons_zero, List.set_cons_succ, i64_w, i32_w]; rfl)
    refine pure_ (i := 29) (N := some 94) (v := undef) (a' := ?_) (bl 45 1073741823) rfl rfl (by kernel_rfl) (fun _ _ _ h => h) (Or.inr ⟨by rfl, rfl⟩) ?_ ?_
    rotate_left
    ·
     simp only [Act.put, List.setIfInBounds_toArray, List.set_cons_zero, List.set_cons_succ, i64_w, i32_w]
     rfl
    refine pure_ (i := 30) (N := some 95) (v := undef) (a' := ?_) (bl 45 2147483647) rfl rfl (by kernel_rfl) (fun _ _ _ h => h) (Or.inr ⟨by rfl, rfl⟩) ?_ ?_
    rotate_left
    ·
     simp only [Act.put, List.setIfInBounds_toArray, List.set_cons_zero, List.set_cons_succ, i64_w, i32_w]
     rfl
    refine pure_ (i := 31) (N := some 96) (v := undef) (a' := ?_) (bl 45 4294967295) rfl rfl (by kernel_rfl) (fun _ _ _ h => h) (Or.inr ⟨by rfl, rfl⟩) ?_ ?_
    rotate_left
    ·
     simp only [Act.put, List.setIfInBounds_toArray, List.set_cons_zero, List.set_cons_succ, i64_w, i32_w]
     rfl
    refine pure_ (i := 32) (N := some 97) (v := undef) (a' := ?_) (bl 45 8589934591) rfl rfl (by kernel_rfl) (fun _ _ _ h => h) (Or.inr ⟨by rfl, rfl⟩) ?_ ?_
    rotate_left
    ·
     simp only [Act.put, List.setIfInBounds_toArray, List.set_cons_zero, List.set_cons_succ, i64_w, i32_w]
     rfl
    refine pure_ (i := 33) (N := some 98) (v := ?_) (a' := ?_) (bl 45 17179869183) rfl rfl (by kernel_rfl) (fun _ _ _ h => h) (Or.inl ⟨by rfl, ?_⟩) ?_ ?_; rotate_left; · (intro w'; go_simp; with_reducible rfl)
    rotate_left; · (simp only [Act.put, List.setIfInBounds_toArray, List.set_cons_zero, List.set_cons_succ, i64_w, i32_w]; rfl)
    refine pure_ (i := 34) (N := some 99) (v := ?_) (a' := ?_) (bl 45 34359738367) rfl rfl (by kernel_rfl) (fun _ _ _ h => h) (Or.inl ⟨by rfl, ?_⟩) ?_ ?_; rotate_left; · (intro w'; go_simp; with_reducible rfl)
    rotate_left; · (simp only [Act.put, List.setIfInBounds_toArray, List.set_cons_zero, List.set_cons_succ, i64_w, i32_w]; rfl)
    refine pure_ (i := 35) (N := some 100) (v := ?_) (a' := ?_) (bl 45 68719476735) rfl rfl (by kernel_rfl) (fun _ _ _ h => h) (Or.inl ⟨by rfl, ?_⟩) ?_ ?_; rotate_left; · (intro w'; go_simp; with_reducible rfl)
    rotate_left; · (simp only [Act.put, List.setIfInBounds_toArray, List.set_cons_zero, List.set_cons_succ, i64_w, i32_w]; rfl)
    refine pure_ (i := 36) (N := some 101) (v := ?_) (a' := ?_) (bl 45 137438953471) rfl rfl (by kernel_rfl) (fun _ _ _ h => h) (Or.inl ⟨by rfl, ?_⟩) ?_ ?_; rotate_left; · (intro w'; go_simp; with_reducible rfl)
    rotate_left; · (simp only [Act.put, List.setIfInBounds_toArray, List.set_cons_zero, List.set_cons_succ, i64_w, i32_w]; rfl)
    refine pure_ (i := 37) (N := some 102) (v := ?_) (a' := ?_) (bl 45 274877906943) rfl rfl (by kernel_rfl) (fun _ _ _ h => h) (Or.inl ⟨by rfl, ?_⟩) ?_ ?_; rotate_left; · (intro w'; go_simp; with_reducible rfl)
    rotate_left; · (simp only [Act.put, List.setIfInBounds_toArray, List.set_cons_zero, List.set_cons_succ, i64_w, i32_w]; rfl)
    refine pure_ (i := 40) (N := some 105) (v := ?_) (a' := ?_) (bl 45 1374389534719) rfl rfl (by kernel_rfl) (fun _ _ _ h => h) (Or.inl ⟨by rfl, ?_⟩) ?_ ?_; rotate_left; · (intro w'; go_simp; with_reducible rfl)
    rotate_left; · (simp only [Act.put, List.setIfInBounds_toArray, List.set_cons_zero, List.set_cons_succ, i64_w, i32_w]; rfl)
    refine take_ (i := 38) (N := some 103) (v := ?_) (a' := ?_) (bl 45 1649267441663) rfl rfl (by kernel_rfl) (fun _ _ _ h => h) (Or.inl ⟨by rfl, ?_⟩) hHeld ?_ ?_; rotate_left; · (rintro w' ⟨s0, s1, s2, s3, s4, s5⟩; go_simp; with_reducible rfl)
    rotate_left; · (simp only [Act.put, List.setIfInBounds_toArray, List.set_cons_zero, List.set_cons_succ, i64_w, i32_w]; rfl)
    refine one_ (i := 39) (N := some 104) (bl 45 2199023255551) rfl rfl (by kernel_rfl) (by decide) (fun K hK => ?_)
    refine goes_ Try.func17 (by kernel_rfl) rfl #[.agg #[.slice A0 C.length c0, .slice A1 L.length c1, .int .i64 a]] (by rfl) rfl rfl (by simp only [List.map_toArray, List.map_cons, List.map_nil]; rfl) ?_
    with_reducible refine (lin_Norm.calls A0 c0 C A1 c1 L a [] [] 1 _ (Kd.C_below HL8.out.2.rw.rC HB3.out) HL8.out.2.rw.lC (Kd.C_below HL8.out.2.rw.rL HB3.out) HL8.out.2.rw.lL HNM.out).mono ?_
    rintro e wd ⟨v0, v1, rfl, hx0, hx1, hb⟩
    refine ⟨_, rfl, ?_⟩
    obtain ⟨G0, u0, hv0, _, _⟩ := Kd.R_reads hx0
    obtain ⟨G1, u1, hv1, _, _⟩ := Kd.R_reads hx1
    rw [List.length_nil] at hv0 hv1
    subst hv0 hv1
    clear hx0 hx1
    have HB4 : Hid (Below w8.heap.size w8 wd) := Lib.hid (below_step HB3.out hb)
    clear hb
    refine hK.out _ _ ⟨(HX8.out.below HB4.out).q0, (HX8.out.below HB4.out).q1, (HX8.out.below HB4.out).q2, (HL8.out.2.below HB4.out).q0, (HL8.out.2.below HB4.out).q1, (HL8.out.2.below HB4.out).q2⟩ (fun hHeld => ?_)
    clear hK K
    refine norm_ (a' := ?_) ?_ ?_
    rotate_left
    ·
     show Act.put _ (some 104) _ = _
     simp only [Act.put, List.setIfInBounds_toArray, List.set_cons_zero, List.set_cons_succ, i64_w, i32_w]
     rfl
    refine one_ (i := 41) (N := some 106) (bl 45 4398046511103) rfl rfl (by kernel_rfl) (by decide) (fun K hK => ?_)
    refine goes_ Try.func16 (by kernel_rfl) rfl #[.agg #[.slice G0 0 u0, .slice G1 0 u1, .int .i64 1], .agg #[.slice none 0 0, .slice none 0 0, .int .i64 1]] (by rfl) rfl rfl (by simp only [List.map_toArray, List.map_cons, List.map_nil]; rfl) ?_
    with_reducible refine (same_nil G0 u0 G1 u1 1 _).mono ?_
    rintro e we ⟨rfl, hb⟩
    refine ⟨_, rfl, ?_⟩
    have HB5 : Hid (Below w8.heap.size w8 we) := Lib.hid (below_step HB4.out hb)
    clear hb
    refine hK.out _ _ ⟨(HX8.out.below HB5.out).q0, (HX8.out.below HB5.out).q1, (HX8.out.below HB5.out).q2, (HL8.out.2.below HB5.out).q0, (HL8.out.2.below HB5.out).q1, (HL8.out.2.below HB5.out).q2⟩ (fun hHeld => ?_)
    clear hK K
    refine norm_ (a' := ?_) ?_ ?_
    rotate_left
    ·
     show Act.put _ (some 106) _ = _
     simp only [Act.put, List.setIfInBounds_toArray, List.set_cons_zero, List.set_cons_succ, i64_w, i32_w]
     rfl
    refine pure_ (i := 42) (N := some 107) (v := ?_) (a' := ?_) (bl 45 8796093022207) rfl rfl (by kernel_rfl) (fun _ _ _ h => h) (Or.inl ⟨by rfl, ?_⟩) ?_ ?_; rotate_left; · (intro w'; go_simp; with_reducible rfl)
    rotate_left; · (simp only [Act.put, List.setIfInBounds_toArray, List.set_cons_zero, List.set_cons_succ, i64_w, i32_w]; rfl)
    refine pure_ (i := 43) (N := some 108) (v := ?_) (a' := ?_) (bl 45 17592186044415) rfl rfl (by kernel_rfl) (fun _ _ _ h => h) (Or.inl ⟨by rfl, ?_⟩) ?_ ?_; rotate_left; · (intro w'; go_simp; with_reducible rfl)
    rotate_left; · (simp only [Act.put, List.setIfInBounds_toArray, List.set_cons_zero, List.set_cons_succ, i64_w, i32_w]; rfl)
    refine pure_ (i := 44) (N := some 4) (v := ?_) (a' := ?_) (bl 45 35184372088831) rfl rfl (by kernel_rfl) (fun _ _ _ h => h) (Or.inl ⟨by rfl, ?_⟩) ?_ ?_; rotate_left; · (intro w'; go_simp; with_reducible rfl)
    rotate_left; · (simp only [Act.put, List.setIfInBounds_toArray, List.set_cons_zero, List.set_cons_succ, i64_w, i32_w]; rfl)
    refine done_ (by kernel_rfl) ?_
    go_wp2
    go_ret
    exact ⟨rfl, below_step HL8.out.1 HB5.out⟩

end Go.Proofs.Ytmcljhjmmipagaa.PL
