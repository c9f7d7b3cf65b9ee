/- The law LinForceComplete, walked: it answers true where Force, the enumeration and the two tests are as 'FcP' says. -/
import Derived.Test.YtmcljhjmmipagaaBoxG
import Derived.Test.YtmcljhjmmipagaaPLx7
import Derived.Test.YtmcljhjmmipagaaPLx8
import Derived.Test.YtmcljhjmmipagaaPLx15
import Derived.Test.YtmcljhjmmipagaaPureE
namespace Go.Proofs.Ytmcljhjmmipagaa.PL
open Go.RowKit Go.Proofs.YtmcljhjmmipagaaW.PrintWords Go.Proofs.YtmcljhjmmipagaaW.PrintLast Go.Proofs.YtmcljhjmmipagaaW.PrintMore
set_option linter.unusedVariables false
set_option linter.unusedSimpArgs false

/-- One assignment's turn at the row of marks: variable v and all above it. -/
def markV (bits : Nat) (xs : List Bool) (v : Nat) : List Bool := if bitB (bits : Int) (v : Int) = true then xs.set (8 - v) false else xs.set (8 + v) false
def marks (bits : Nat) (xs : List Bool) (v : Nat) : List Bool := (List.range v).foldl (fun xs i => markV bits xs (i + 1)) xs
/-- The marks behind the assignments below j. -/
def marksAll (adm : Nat → Bool) : Nat → List Bool
 | 0 => List.replicate 17 true
 | j + 1 => if adm j = true then marks j (marksAll adm j) 8 else marksAll adm j
def canAll (adm : Nat → Bool) (j : Nat) : Bool := (List.range j).any adm
theorem markV_length (bits : Nat) (xs : List Bool) (v : Nat) : (markV bits xs v).length = xs.length := by unfold markV; split <;> simp
theorem marks_succ (bits : Nat) (xs : List Bool) (v : Nat) : marks bits xs (v + 1) = markV bits (marks bits xs v) (v + 1) := by simp [marks, List.range_succ]
theorem marks_length (bits : Nat) (xs : List Bool) : ∀ v, (marks bits xs v).length = xs.length
 | 0 => rfl
 | v + 1 => by rw [marks_succ, markV_length, marks_length bits xs v]
theorem marksAll_length (adm : Nat → Bool) : ∀ j, (marksAll adm j).length = 17
 | 0 => by simp [marksAll]
 | j + 1 => by
  unfold marksAll
  split
  ·
   rw [marks_length, marksAll_length adm j]
  ·
   exact marksAll_length adm j

theorem bit_form {j v : Nat} (hv : v < 8) : bitB (j : Int) ((v + 1 : Nat) : Int) = (Go.bits .and .i64 ((j : Int) / 2 ^ v) 1 == 1) := by
 have e1 : wrap64 (((v + 1 : Nat) : Int) - 1) = (v : Int) := (wrap_id (x := ((v + 1 : Nat) : Int) - 1) (by omega) (by omega)).trans (by omega)
 have e2 : IntKind.u64.wrap (v : Int) = (v : Int) := by rw [IntKind.wrap_u64]; omega
 unfold bitB shr
 rw [e1, e2, Int.toNat_natCast, Nat.min_eq_left (by show v ≤ 64; omega)]
theorem rep_set : ∀ k, k < 17 → (List.replicate k true ++ List.replicate (17 - k) false).set k true = List.replicate (k + 1) true ++ List.replicate (17 - (k + 1)) false := by decide
theorem canAll_succ (adm : Nat → Bool) (j : Nat) : canAll adm (j + 1) = (canAll adm j || adm j) := by simp [canAll, List.range_succ]

/-- What is known between two steps: the constraint's box, the forced literals' own row, the array of marks. -/
structure FcF (w W : World) (A0 : Option Addr) (c0 : Nat) (C : List Int) (A1 : Option Addr) (c1 : Nat) (L : List Int) (a : Int) (b : Nat) (F0 : Option Addr) (cF : Nat) (fs : List Int) (gA : Nat) (xs : List Bool) : Prop where
 box : Bx W w.heap.size A0 c0 C A1 c1 L a
 own : W.ownsRow b 3 1 (.slice F0 fs.length cF) fs.length (fs.map (Value.int .i64))
 arr : W.heap[gA]? = some (.cells (xs.map Value.bool).toArray 44 (0, 0))
 below : Below w.heap.size w W
 gt : w.heap.size < gA
namespace FcF
variable {w W W1 : World} {A0 : Option Addr} {c0 : Nat} {C : List Int} {A1 : Option Addr} {c1 : Nat} {L : List Int} {a : Int} {b : Nat} {F0 : Option Addr} {cF : Nat} {fs : List Int} {gA : Nat} {xs : List Bool}
theorem next (h : FcF w W A0 c0 C A1 c1 L a b F0 cF fs gA xs) (hb : Below W.heap.size W W1) : FcF w W1 A0 c0 C A1 c1 L a b F0 cF fs gA xs where
 box := h.box.below hb
 own := own_move h.own (fun k hk => hb.block k (own_lt h.own k hk))
 arr := blk_below h.arr hb
 below := below_step h.below hb
 gt := h.gt
theorem set (h : FcF w W A0 c0 C A1 c1 L a b F0 cF fs gA xs) (hr : Rw w A0 c0 C A1 c1 L) (i : Nat) (v : Bool) : FcF w (W.setCell ⟨gA, i, none⟩ (.bool v)) A0 c0 C A1 c1 L a b F0 cF fs gA (xs.set i v) where
 box := by
  have hb := h.below.setCell (p := ⟨gA, i, none⟩) (by have := h.gt; simp only []; omega) (.bool v)
  exact ⟨blk_far h.box.blk (by have := h.gt; simp only []; omega) _, hr.below hb⟩
 own := own_move h.own (fun k hk => Below.heap_setCell _ ⟨gA, i, none⟩ _ k (fun e => by
  simp only [] at e
  subst e
  obtain ⟨cells, hc⟩ := own_typed h.own k hk
  have h2 := h.arr
  rw [hc] at h2
  injection h2 with h2
  injection h2 with _ h2
  exact absurd h2 (by decide)))
 arr := blk_put h.arr i _ (by simp [List.map_set])
 below := h.below.setCell (p := ⟨gA, i, none⟩) (by have := h.gt; simp only []; omega) _
 gt := h.gt
theorem row (h : FcF w W A0 c0 C A1 c1 L a b F0 cF fs gA xs) : Kd.C (Kd.int .i64) W F0 fs.length fs ∧ fs.length ≤ cF := by
 obtain ⟨A, c, e, hl, hC⟩ := Kd.R_reads (R_own h.own (ok := fun _ => True) (fun _ _ => trivial))
 injection e with e1 e2 e3
 subst e1 e3
 exact ⟨hC, hl⟩
theorem cell (h : FcF w W A0 c0 C A1 c1 L a b F0 cF fs gA xs) {i : Nat} (hi : i < xs.length) : W.cell? ⟨gA, i, none⟩ = some (.bool (xs.getD i false)) := (blk_cell h.arr i).trans (by simp [hi])
end FcF

/-- What the law asks: with the literals in range and the constraint well-formed. -/
structure FcP (C L : List Int) (a : Int) (ls : List Int) (fs : List Int) (ok : Bool) (adm : Nat → Bool) : Prop where
 steps : ∀ j : Nat, j < 256 → ∃ k b1 b2, chalklinelaw12_agrees.f k ls (j : Int) = some b1 ∧ chalklinelaw12_holds.f k C L a (j : Int) = some b2 ∧ adm j = (b1 && b2)
 can : ok = canAll adm 256
 bad : ok = false → fs = []
 tests : ok = true → ∀ v : Nat, 1 ≤ v → v ≤ 8 → ∃ k h1 h2 f1 f2, chalklineref12_Has.f k ls (v : Int) = some h1 ∧ chalklineref12_Has.f k ls (-(v : Int)) = some h2 ∧ chalklineref12_Has.f k fs (v : Int) = some f1 ∧ chalklineref12_Has.f k fs (-(v : Int)) = some f2 ∧
  f1 = ((!h1 && !h2) && (marksAll adm 256).getD (8 + v) false) ∧ f2 = ((!h1 && !h2) && (marksAll adm 256).getD (8 - v) false)
 le : ok = true → fs.length ≤ 8

set_option maxRecDepth 100000 in
set_option maxHeartbeats 4000000 in
theorem fc_walk (A0 : Option Addr) (c0 : Nat) (C : List Int) (A1 : Option Addr) (c1 : Nat) (L : List Int) (a : Int) (A2 : Option Addr) (c2 : Nat) (ls : List Int) (w : World) (h : Rw w A0 c0 C A1 c1 L) (ht : Kd.C (Kd.int .i64) w A2 ls.length ls) (htc : ls.length ≤ c2) (ku : Nat) (hu : chalklineref12_Unlike.f ku ls 8 = some true) (hf : chalklinelaw12_few.f C L a = some true) (hl : ls.length ≤ 8) (hv : lin_Check.val C L a 8 = 0)
  (fs : List Int) (ok : Bool) (hff : lin_Force.f C L a ls = some (fs, ok)) (adm : Nat → Bool) (hP : FcP C L a ls fs ok adm) :
  Calls Try.prog 10 #[.agg #[.slice A0 C.length c0, .slice A1 L.length c1, .int .i64 a], .slice A2 ls.length c2] w fun e w' => e = .returned (.bool true) ∧ Below w.heap.size w w' := by
 have hu24 := Try.underlying24
 have hb := below_alloc1 w (.cells #[.slice A0 C.length c0, .slice A1 L.length c1, .int .i64 a] 24)
 have hbx := Bx.new h a
 have HH := Lib.hid (And.intro hb hbx)
 have HF := Lib.hid (And.intro hu (And.intro hf (And.intro hv hff)))
 have HP := Lib.hid hP
 have HR := Lib.hid h
 have HT := Lib.hid (And.intro ht htc)
 have t1 : decide (8 < (ls.length : Int)) = false := decide_eq_false (by omega)
 have t2 : decide (8 < ls.length) = false := decide_eq_false (by omega)
 clear hb hbx h hf hv ht hff hP hu htc
 go_enter Try.func10, Try.ntmps10
 go_wp2_with fail
 refine (chalklinelaw12_live.calls true _ rfl).mono ?_
 rintro e w1 ⟨rfl, hb1⟩
 have H1 := Lib.hid (And.intro (below_step HH.out.1 hb1) (HH.out.2.below hb1))
 clear HH hb1
 go_wp2_with fail
 refine (chalklineref12_Unlike.calls ku A2 c2 ls 8 true w1 (Kd.C_below HT.out.1 H1.out.1) HT.out.2 HF.out.1).mono ?_
 rintro e w2 ⟨rfl, hb2⟩
 have H2 := Lib.hid (And.intro (below_step H1.out.1 hb2) (H1.out.2.below hb2))
 clear H1 hb2
 have q0 := H2.out.2.q0
 have q1 := H2.out.2.q1
 have q2 := H2.out.2.q2
 go_wp2_with fail
 refine (chalklinelaw12_few.calls A0 c0 C A1 c1 L a true w2 H2.out.2.rw.rC H2.out.2.rw.lC H2.out.2.rw.rL H2.out.2.rw.lL HF.out.2.1).mono ?_
 rintro e w3 ⟨rfl, hb3⟩
 have H3 := Lib.hid (And.intro (below_step H2.out.1 hb3) (H2.out.2.below hb3))
 clear H2 hb3 q0 q1 q2
 have q0 := H3.out.2.q0
 have q1 := H3.out.2.q1
 have q2 := H3.out.2.q2
 go_wp2_with fail
 refine (lin_Check.calls A0 c0 C A1 c1 L a 8 0 w3 H3.out.2.rw.rC H3.out.2.rw.lC H3.out.2.rw.rL H3.out.2.rw.lL (by unfold lin_Check.f; rw [HF.out.2.2.1])).mono ?_
 rintro e w4 ⟨rfl, hb4⟩
 have H4 := Lib.hid (And.intro (below_step H3.out.1 hb4) (H3.out.2.below hb4))
 clear H3 hb4 q0 q1 q2
 have q0 := H4.out.2.q0
 have q1 := H4.out.2.q1
 have q2 := H4.out.2.q2
 go_wp2_with fail
 refine (lin_Force.calls A0 c0 C A1 c1 L a A2 c2 ls fs ok w4 H4.out.2.rw.rC H4.out.2.rw.lC H4.out.2.rw.rL H4.out.2.rw.lL (Kd.C_below HT.out.1 H4.out.1) HT.out.2 HF.out.2.2.2).mono ?_
 rintro e w5 ⟨v0, rfl, hx0, hb5⟩
 have hown := own_R hx0
 obtain ⟨F0, cF, rfl, _, _⟩ := Kd.R_reads hx0
 have H5 := Lib.hid (And.intro (below_step H4.out.1 hb5) (And.intro (H4.out.2.below hb5) hown))
 clear H4 hb5 hx0 hown q0 q1 q2 HF t1 t2
 go_wp2
 have HA : Hid (FcF w (w5.alloc (.cells #[.bool false, .bool false, .bool false, .bool false, .bool false, .bool false, .bool false, .bool false, .bool false, .bool false, .bool false, .bool false, .bool false, .bool false, .bool false, .bool false, .bool false] 44)) A0 c0 C A1 c1 L a w4.heap.size F0 cF fs w5.heap.size (List.replicate 17 false)) := Lib.hid ⟨H5.out.2.1.below (below_alloc1 _ _), own_move H5.out.2.2 (fun k hk => (below_alloc1 w5 _).block k (own_lt H5.out.2.2 k hk)), blk_new w5 _, below_step H5.out.1 (below_alloc1 _ _), blk_lt H5.out.2.1.blk⟩
 generalize w5.alloc (.cells #[.bool false, .bool false, .bool false, .bool false, .bool false, .bool false, .bool false, .bool false, .bool false, .bool false, .bool false, .bool false, .bool false, .bool false, .bool false, .bool false, .bool false] 44) = w6 at HA ⊢
 generalize w5.heap.size = gA at HA ⊢
 generalize w4.heap.size = gB at HA
 clear H5
 go_loopg [10] 17 (fun gg s10 wr => ∃ k : Nat, k ≤ 17 ∧ 17 - k ≤ gg ∧ s10 = .int .i64 (k : Int) ∧ Hid (FcF w wr A0 c0 C A1 c1 L a gB F0 cF fs gA (List.replicate k true ++ List.replicate (17 - k) false)))
 case atStart => exact ⟨0, by omega, by omega, rfl, HA⟩
 case round =>
  clear HA
  obtain ⟨k, hk, hg, rfl, HN⟩ := hrel
  by_cases hlt : k < 17
  ·
   have h1 : (k : Int) < 17 := by omega
   have q0 := HN.out.cell (i := k) (by simp; omega)
   have q1 := blk_frozen HN.out.arr k
   have HN2 := Lib.hid (HN.out.set HR.out k true)
   rw [rep_set k hlt] at HN2
   clear HN
   go_wp2
   generalize wr.setCell ⟨gA, k, none⟩ (.bool true) = wr2 at HN2 ⊢
   go_roundg (17 - (k + 1))
   case measure => omega
   case rel => exact ⟨k + 1, by omega, by omega, by go_num, HN2⟩
  ·
   have h1 : decide ((k : Int) < 17) = false := decide_eq_false (by omega)
   obtain rfl : k = 17 := by omega
   have HN2 : Hid (FcF w wr A0 c0 C A1 c1 L a gB F0 cF fs gA (marksAll adm 0)) := HN
   clear HN hk hg hlt
   go_wp2
   clear h1
   go_loopg [8, 11] 256 (fun gg s8 s11 wr => ∃ j : Nat, j ≤ 256 ∧ 256 - j ≤ gg ∧ s8 = .bool (canAll adm j) ∧ s11 = .int .i64 (j : Int) ∧ Hid (FcF w wr A0 c0 C A1 c1 L a gB F0 cF fs gA (marksAll adm j)))
   case atStart => exact ⟨0, by omega, by omega, rfl, rfl, HN2⟩
   case round =>
    clear HN2
    obtain ⟨j, hj, hg, rfl, rfl, HN⟩ := hrel
    by_cases hlt : j < 256
    ·
     have h1 : (j : Int) < 256 := by omega
     obtain ⟨kk, b1, b2, e1, e2, e3⟩ := HP.out.steps j hlt
     have HE := Lib.hid (And.intro e1 (And.intro e2 e3))
     clear e1 e2 e3
     go_wp2_with fail
     refine (chalklinelaw12_agrees.calls kk A2 c2 ls (j : Int) b1 wr (Kd.C_below HT.out.1 HN.out.below) HT.out.2 HE.out.1).mono ?_
     rintro e w7 ⟨rfl, hb7⟩
     have HN7 := Lib.hid (HN.out.next hb7)
     clear HN hb7
     cases b1 with
     | false =>
      have HM : Hid (FcF w w7 A0 c0 C A1 c1 L a gB F0 cF fs gA (marksAll adm (j + 1))) := Lib.hid (by
       have h3 : adm j = false := HE.out.2.2
       unfold marksAll
       rw [h3, if_neg (by simp)]
       exact HN7.out)
      have HC : Hid (canAll adm (j + 1) = canAll adm j) := Lib.hid (by rw [canAll_succ, HE.out.2.2]; simp)
      clear HN7 HE
      go_wp2
      go_roundg (256 - (j + 1))
      case measure => omega
      case rel => exact ⟨j + 1, by omega, by omega, by rw [HC.out], by go_num, HM⟩
     | true =>
      have q0 := HN7.out.box.q0
      have q1 := HN7.out.box.q1
      have q2 := HN7.out.box.q2
      go_wp2_with fail
      refine (chalklinelaw12_holds.calls kk A0 c0 C A1 c1 L a (j : Int) b2 w7 HN7.out.box.rw.rC HN7.out.box.rw.lC HN7.out.box.rw.rL HN7.out.box.rw.lL HE.out.2.1).mono ?_
      rintro e w8 ⟨rfl, hb8⟩
      have HN8 := Lib.hid (HN7.out.next hb8)
      clear HN7 hb8 q0 q1 q2
      cases b2 with
      | false =>
       have HM : Hid (FcF w w8 A0 c0 C A1 c1 L a gB F0 cF fs gA (marksAll adm (j + 1))) := Lib.hid (by
        have h3 : adm j = false := HE.out.2.2
        unfold marksAll
        rw [h3, if_neg (by simp)]
        exact HN8.out)
       have HC : Hid (canAll adm (j + 1) = canAll adm j) := Lib.hid (by rw [canAll_succ, HE.out.2.2]; simp)
       clear HN8 HE
       go_wp2
       go_roundg (256 - (j + 1))
       case measure => omega
       case rel => exact ⟨j + 1, by omega, by omega, by rw [HC.out], by go_num, HM⟩
      | true =>
       have HD : Hid (marksAll adm (j + 1) = marks j (marksAll adm j) 8) := Lib.hid (by
        have h3 : adm j = true := HE.out.2.2
        rw [marksAll, h3, if_pos rfl])
       have HC : Hid (canAll adm (j + 1) = true) := Lib.hid (by rw [canAll_succ, HE.out.2.2]; simp)
       have HN9 : Hid (FcF w w8 A0 c0 C A1 c1 L a gB F0 cF fs gA (marks j (marksAll adm j) 0)) := HN8
       clear HN8 HE
       go_wp2
       go_loopg [12] 8 (fun gg s12 wr => ∃ v : Nat, v ≤ 8 ∧ 8 - v ≤ gg ∧ s12 = .int .i64 ((v + 1 : Nat) : Int) ∧ Hid (FcF w wr A0 c0 C A1 c1 L a gB F0 cF fs gA (marks j (marksAll adm j) v)))
       case atStart => exact ⟨0, by omega, by omega, rfl, HN9⟩
       case round =>
        clear HN9
        obtain ⟨v, hv, hgv, rfl, HNv⟩ := hrel
        by_cases hlv : v < 8
        ·
         have h2 : ((v + 1 : Nat) : Int) ≤ 8 := by omega
         have hbf := bit_form (j := j) hlv
         have hml : (marks j (marksAll adm j) v).length = 17 := by rw [marks_length, marksAll_length]
         have hms := marks_succ j (marksAll adm j) v
         unfold markV at hms
         rw [show 8 - (v + 1) = 7 - v by omega] at hms
         have q0 := HNv.out.cell (i := 7 - v) (by omega)
         have q1 := blk_frozen HNv.out.arr (7 - v)
         have q2 := HNv.out.cell (i := 8 + (v + 1)) (by omega)
         have q3 := blk_frozen HNv.out.arr (8 + (v + 1))
         have HB := Lib.hid (And.intro hbf hms)
         clear hbf hms hml
         go_wp2
         ·
          have hb := HB.out.1.trans ‹(Go.bits .and .i64 ((j : Int) / 2 ^ v) 1 == 1) = true›
          have hms := HB.out.2
          rw [if_pos hb] at hms
          have HN10 := Lib.hid (HNv.out.set HR.out (7 - v) false)
          rw [← hms] at HN10
          clear hms HNv hb HB q0 q1 q2 q3
          generalize wr.setCell ⟨gA, 7 - v, none⟩ (.bool false) = wr2 at HN10 ⊢
          go_roundg (8 - (v + 1))
          case measure => omega
          case rel => exact ⟨v + 1, by omega, by omega, by go_num, HN10⟩
         ·
          have hb := HB.out.1.trans ‹(Go.bits .and .i64 ((j : Int) / 2 ^ v) 1 == 1) = false›
          have hms := HB.out.2
          rw [if_neg (by rw [hb]; simp)] at hms
          have HN10 := Lib.hid (HNv.out.set HR.out (8 + (v + 1)) false)
          rw [← hms] at HN10
          clear hms HNv hb HB q0 q1 q2 q3
          generalize wr.setCell ⟨gA, 8 + (v + 1), none⟩ (.bool false) = wr2 at HN10 ⊢
          go_roundg (8 - (v + 1))
          case measure => omega
          case rel => exact ⟨v + 1, by omega, by omega, by go_num, HN10⟩
        ·
         have h2 : decide (((v + 1 : Nat) : Int) ≤ 8) = false := decide_eq_false (by omega)
         have h3 : decide ((v : Int) + 1 ≤ 8) = false := decide_eq_false (by omega)
         obtain rfl : v = 8 := by omega
         have HN11 : Hid (FcF w wr A0 c0 C A1 c1 L a gB F0 cF fs gA (marksAll adm (j + 1))) := Lib.hid (by rw [HD.out]; exact HNv.out)
         clear HNv hv hgv hlv
         go_wp2
         go_roundg (256 - (j + 1))
         case measure => omega
         case rel => exact ⟨j + 1, by omega, by omega, by rw [HC.out], by go_num, HN11⟩
    ·
     have h1 : decide ((j : Int) < 256) = false := decide_eq_false (by omega)
     obtain rfl : j = 256 := by omega
     clear hj hg hlt
     have hcan := HP.out.can
     rw [← hcan]
     cases ok with
     | false =>
      have hbad := HP.out.bad rfl
      subst hbad
      clear hcan
      go_wp2
      go_ret
      exact ⟨rfl, HN.out.below⟩
     | true =>
      have HT2 := Lib.hid (HP.out.tests rfl)
      have HL2 := Lib.hid (HP.out.le rfl)
      clear hcan
      go_wp2
      go_loopg [13] 8 (fun gg s13 wr => ∃ m : Nat, 1 ≤ m ∧ m ≤ 9 ∧ 9 - m ≤ gg ∧ s13 = .int .i64 (m : Int) ∧ Hid (FcF w wr A0 c0 C A1 c1 L a gB F0 cF fs gA (marksAll adm 256)))
      case atStart => exact ⟨1, by omega, by omega, by omega, rfl, HN⟩
      case round =>
       clear HN
       obtain ⟨m, hm1, hm, hgm, rfl, HN0⟩ := hrel
       by_cases hlm : m < 9
       ·
        have hm8 : (m : Int) ≤ 8 := by omega
        obtain ⟨kk, h1, h2, f1, f2, e1, e2, e3, e4, e5, e6⟩ := HT2.out m hm1 (by omega)
        have hw : wrap64 (-(m : Int)) = -(m : Int) := wrap_id (by omega) (by omega)
        have HE := Lib.hid (And.intro e1 (And.intro e2 (And.intro e3 e4)))
        have hml : (marksAll adm 256).length = 17 := marksAll_length adm 256
        have HX : Hid (∀ W, FcF w W A0 c0 C A1 c1 L a gB F0 cF fs gA (marksAll adm 256) → W.cell? ⟨gA, 8 + m, none⟩ = some (.bool ((marksAll adm 256).getD (8 + m) false)) ∧ W.cell? ⟨gA, 8 - m, none⟩ = some (.bool ((marksAll adm 256).getD (8 - m) false))) := Lib.hid (fun W h => ⟨h.cell (by omega), h.cell (by omega)⟩)
        clear e1 e2 e3 e4 hml
        generalize (marksAll adm 256).getD (8 + m) false = x at HX e5
        generalize (marksAll adm 256).getD (8 - m) false = y at HX e6
        go_wp2_with fail
        refine (chalklineref12_Has.calls kk A2 c2 ls ((m : Int)) h1 _ (Kd.C_below HT.out.1 HN0.out.below) HT.out.2 HE.out.1).mono ?_
        rintro e z1 ⟨rfl, hb⟩
        have HN1 := Lib.hid (HN0.out.next hb.below)
        clear HN0 hb
        cases h1 with
        | true =>
         simp only [Bool.not_true, Bool.false_and] at e5 e6
         subst e5 e6
         go_wp2_with fail
         refine (chalklineref12_Has.calls kk F0 cF fs ((m : Int)) false _ HN1.out.row.1 HN1.out.row.2 HE.out.2.2.1).mono ?_
         rintro e z2 ⟨rfl, hb⟩
         have HN2 := Lib.hid (HN1.out.next hb.below)
         clear HN1 hb
         go_wp2_with fail
         refine (chalklineref12_Has.calls kk F0 cF fs (-(m : Int)) false _ HN2.out.row.1 HN2.out.row.2 HE.out.2.2.2).mono ?_
         rintro e z3 ⟨rfl, hb⟩
         have HN3 := Lib.hid (HN2.out.next hb.below)
         clear HN2 hb
         go_wp2
         go_roundg (9 - (m + 1))
         case measure => omega
         case rel => exact ⟨m + 1, by omega, by omega, by omega, by go_num, HN3⟩
        | false =>
         go_wp2_with fail
         refine (chalklineref12_Has.calls kk A2 c2 ls (-(m : Int)) h2 _ (Kd.C_below HT.out.1 HN1.out.below) HT.out.2 HE.out.2.1).mono ?_
         rintro e z2 ⟨rfl, hb⟩
         have HN2 := Lib.hid (HN1.out.next hb.below)
         clear HN1 hb
         cases h2 with
         | true =>
          simp only [Bool.not_true, Bool.not_false, Bool.and_false, Bool.false_and] at e5 e6
          subst e5 e6
          go_wp2_with fail
          refine (chalklineref12_Has.calls kk F0 cF fs ((m : Int)) false _ HN2.out.row.1 HN2.out.row.2 HE.out.2.2.1).mono ?_
          rintro e z3 ⟨rfl, hb⟩
          have HN3 := Lib.hid (HN2.out.next hb.below)
          clear HN2 hb
          go_wp2_with fail
          refine (chalklineref12_Has.calls kk F0 cF fs (-(m : Int)) false _ HN3.out.row.1 HN3.out.row.2 HE.out.2.2.2).mono ?_
          rintro e z4 ⟨rfl, hb⟩
          have HN4 := Lib.hid (HN3.out.next hb.below)
          clear HN3 hb
          go_wp2
          go_roundg (9 - (m + 1))
          case measure => omega
          case rel => exact ⟨m + 1, by omega, by omega, by omega, by go_num, HN4⟩
         | false =>
          simp only [Bool.not_false, Bool.and_true, Bool.true_and] at e5 e6
          subst e5 e6
          go_wp2_with fail
          refine (chalklineref12_Has.calls kk F0 cF fs ((m : Int)) f1 _ HN2.out.row.1 HN2.out.row.2 HE.out.2.2.1).mono ?_
          rintro e z3 ⟨rfl, hb⟩
          have HN3 := Lib.hid (HN2.out.next hb.below)
          clear HN2 hb
          have x0 := (HX.out _ HN3.out).1
          go_wp2_with fail
          refine (chalklineref12_Has.calls kk F0 cF fs (-(m : Int)) f2 _ HN3.out.row.1 HN3.out.row.2 HE.out.2.2.2).mono ?_
          rintro e z4 ⟨rfl, hb⟩
          have HN4 := Lib.hid (HN3.out.next hb.below)
          clear HN3 hb
          clear x0
          have x0 := (HX.out _ HN4.out).2
          go_wp2
          go_roundg (9 - (m + 1))
          case measure => omega
          case rel => exact ⟨m + 1, by omega, by omega, by omega, by go_num, HN4⟩
       ·
        have hm8 : decide ((m : Int) ≤ 8) = false := decide_eq_false (by omega)
        obtain rfl : m = 9 := by omega
        have l1 : decide ((fs.length : Int) ≤ 8) = true := decide_eq_true (by have := HL2.out; omega)
        have l2 : decide (fs.length ≤ 8) = true := decide_eq_true HL2.out
        clear hm1 hm hgm hlm
        go_wp2
        go_ret
        exact ⟨rfl, HN0.out.below⟩

end Go.Proofs.Ytmcljhjmmipagaa.PL
