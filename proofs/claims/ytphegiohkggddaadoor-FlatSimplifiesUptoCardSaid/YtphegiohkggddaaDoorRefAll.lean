/- The reference's may answers whether every node is well-formed. What the reference's Size, joined, least, simple and Same tell with rounds enough. No program in sight. The reference's Check (over 65536 variables) and Simple answer what flat's do. The law FlatSimplifies answers true. FlatSimplifies: the law answers true wherever the tree is not too large. -/
import Derived.Test.YtphegiohkggddaaDoorValuesG
import Derived.Test.YtphegiohkggddaaDoorPureU
import Derived.Test.YtphegiohkggddaaDoorPFb
import Derived.Test.YtphegiohkggddaaDoorPFc
import Derived.Test.YtphegiohkggddaaDoorSimpleG
namespace Go.Proofs.YtphegiohkggddaaDoor.PF
open Go.RowKit Go.Proofs.YtphegiohkggddaaDoorW.PrintWords Go.Proofs.YtphegiohkggddaaDoorW.PrintLast Go.Proofs.YtphegiohkggddaaDoorW.PrintMore
set_option linter.unusedVariables false
set_option linter.unusedSimpArgs false

theorem nodesL_allB {p : S24 → Bool} : ∀ {l : List S24}, (nodesL l).all p = l.all fun x => (nodesT x).all p
  | [] => rfl
  | x :: l => by rw [nodesL, List.all_append, nodesL_allB, List.all_cons]
theorem nodes_allB {p : S24 → Bool} {a b c : Int} {l : List S24} : (nodesT ⟨a, b, c, l⟩).all p = (p ⟨a, b, c, l⟩ && l.all fun x => (nodesT x).all p) := by
  rw [nodesT, List.all_cons, nodesL_allB]

def MayAt (n : Int) (t : S24) : Prop :=
  ∀ (A0 : Option Addr) (c0 : Nat) (w : World), k24.C w A0 t.f3.length t.f3 → t.f3.length ≤ c0 →
    Calls Tryd.prog 46 #[.agg #[.int .i64 t.f0, .int .i64 t.f1, .int .i64 t.f2, .slice A0 t.f3.length c0], .int .i64 n] w fun e w' => e = .returned (.bool ((nodesT t).all (formedB n))) ∧ Below w.heap.size w w'

set_option maxHeartbeats 16000000 in
theorem may_at (n : Int) : ∀ t, MayAt n t := by
  refine S24_ind fun a b c l ih => ?_
  intro A0 c0 w hC hc0
  replace hC : k24.C w A0 l.length l := hC
  replace hc0 : l.length ≤ c0 := hc0
  show Calls Tryd.prog 46 #[.agg #[.int .i64 a, .int .i64 b, .int .i64 c, .slice A0 l.length c0], .int .i64 n] w _
  have hu24 := Tryd.underlying24
  obtain ⟨w0, hw0⟩ : ∃ w0, w.alloc (.cells #[.int .i64 a, .int .i64 b, .int .i64 c, .slice A0 l.length c0] 24) = w0 := ⟨_, rfl⟩
  have hb0 : Below w.heap.size w w0 := by rw [← hw0]; exact (Below.refl w.heap.size w).alloc (Nat.le_refl _) _
  have hx0 : TBox w0 w.heap.size ⟨a, b, c, l⟩ A0 c0 := by rw [← hw0]; exact World.alloc_heap_new w _
  have e0 : w0.cell? ⟨w.heap.size, 0, none⟩ = some (.int .i64 a) := hx0.e0
  have e1 : w0.cell? ⟨w.heap.size, 1, none⟩ = some (.int .i64 b) := hx0.e1
  have e2 : w0.cell? ⟨w.heap.size, 2, none⟩ = some (.int .i64 c) := hx0.e2
  have e3 : w0.cell? ⟨w.heap.size, 3, none⟩ = some (.slice A0 l.length c0) := hx0.e3
  have hbig := hC.2.1
  have HB0 := Lib.hid hb0
  have HX0 := Lib.hid hx0
  have HC := Lib.hid hC
  have HI := Lib.hid ih
  have HL := Lib.hid hc0
  clear hb0 hx0 hC ih hc0
  obtain ⟨r, hr⟩ : ∃ r, (nodesT ⟨a, b, c, l⟩).all (formedB n) = r := ⟨_, rfl⟩
  rw [hr]
  rw [nodes_allB] at hr
  have HR := Lib.hid hr
  clear hr
  by_cases h1 : a = 1
  · subst h1
    by_cases p0 : b = 0
    · by_cases p1 : c = 0
      · by_cases p2 : (l.length : Int) = 0
        · have hf : formedB n ⟨1, b, c, l⟩ = true := by
            unfold formedB
            (repeat' split) <;> simp only [] at * <;> first | rfl | (exfalso; omega) | exact beq_iff_eq.2 (by omega) | exact beq_eq_false_iff_ne.2 (by omega) | exact decide_eq_true (by omega) | exact decide_eq_false (by omega)
          have hr := HR.out
          rw [hf] at hr
          have HRR : Hid ((l.all fun x => (nodesT x).all (formedB n)) = r) := Lib.hid (by rw [← hr]; rfl)
          clear hf HR hr
          have xp0 : (b != 0) = false := bne_eq_false_iff_eq.2 p0
          have xp1 : (c != 0) = false := bne_eq_false_iff_eq.2 p1
          have xp2 : ((l.length : Int) != 0) = false := bne_eq_false_iff_eq.2 p2
          clear p0 p1 p2
          go_enter Tryd.func46, Tryd.ntmps46
          go_wp2
          go_loopg [5] l.length (fun gg s5 wr => ∃ kk : Nat, kk ≤ l.length ∧ l.length - kk ≤ gg ∧ s5 = .int .i64 kk ∧ Aside0 (Below w0.heap.size w0 wr) ∧ Aside0 ((l.take kk).all (fun x => (nodesT x).all (formedB n)) = true))
          case atStart => exact ⟨0, Nat.zero_le _, by omega, rfl, ⟨by first | exact Below.refl _ _ | (rw [hw0]; exact Below.refl _ _)⟩, ⟨by simp⟩⟩
          case round =>
            obtain ⟨kk, hkk, hg, rfl, HB3, HS⟩ := hrel
            have q3 : wr.cell? ⟨w.heap.size, 3, none⟩ = some (.slice A0 l.length c0) := (HX0.out.below HB3.out).e3
            by_cases hlt : kk < l.length
            · have hltz : (kk : Int) < (l.length : Int) := by omega
              have hm := rd_mem hlt
              have htk : l.take (kk + 1) = l.take kk ++ [rd_T24 l (kk : Int)] := by
                rw [List.take_succ_eq_append_getElem hlt]
                have : rd_T24 l (kk : Int) = l[kk] := by simp [rd_T24, hlt]
                rw [this]
              obtain ⟨ad, A3, c3, rfl, hx0, hx1, hx2, hx3, hl3, hi3⟩ := at_T24 HC.out (kk : Int) (by omega) hltz
              have hbw : Below w.heap.size w wr := below_step HB0.out HB3.out
              replace hx0 := (hbw.cell (World.block_lt_of_cell? w _ hx0)).trans hx0
              replace hx1 := (hbw.cell (World.block_lt_of_cell? w _ hx1)).trans hx1
              replace hx2 := (hbw.cell (World.block_lt_of_cell? w _ hx2)).trans hx2
              replace hx3 := (hbw.cell (World.block_lt_of_cell? w _ hx3)).trans hx3
              rw [Int.toNat_natCast] at hx0 hx1 hx2 hx3
              have k := HI.out _ hm A3 c3 wr (Kd.C_below hi3 hbw) hl3
              generalize rd_T24 l (kk : Int) = y at hx0 hx1 hx2 hx3 k hm htk
              obtain ⟨β, hβ⟩ : ∃ β, (nodesT y).all (formedB n) = β := ⟨_, rfl⟩
              rw [hβ] at k
              have K := Lib.hid k
              have HM := Lib.hid hm
              have HT := Lib.hid htk
              have HY := Lib.hid hβ
              clear k hm hi3 hl3 hbw htk hβ
              go_wp2_with fail
              refine K.out.mono ?_
              rintro e w5 ⟨rfl, hb5⟩
              have HB5 := Lib.hid (below_step HB3.out hb5)
              clear hb5 K
              cases β with
              | true =>
                go_wp2
                go_roundg (l.length - (kk + 1))
                case measure => omega
                case rel => exact ⟨kk + 1, by omega, by omega, by go_num, ⟨HB5.out⟩, ⟨by rw [HT.out, List.all_append, HS.out]; simp [HY.out]⟩⟩
              | false =>
                have hrf : r = false := by
                  rw [← HRR.out, List.all_eq_false]
                  exact ⟨y, HM.out, by simp [HY.out]⟩
                subst hrf
                go_wp2
                go_ret
                exact ⟨rfl, below_step HB0.out HB5.out⟩
            · have hltz : ¬ (kk : Int) < (l.length : Int) := by omega
              have hkl : kk = l.length := by omega
              have hrt : r = true := by
                rw [← HRR.out, ← HS.out, hkl, List.take_length]
              clear hkl
              subst hrt
              go_wp2
              go_ret
              exact ⟨rfl, below_step HB0.out HB3.out⟩
        · have hf : formedB n ⟨1, b, c, l⟩ = false := by
            unfold formedB
            (repeat' split) <;> simp only [] at * <;> first | rfl | (exfalso; omega) | exact beq_iff_eq.2 (by omega) | exact beq_eq_false_iff_ne.2 (by omega) | exact decide_eq_true (by omega) | exact decide_eq_false (by omega)
          have hr := HR.out
          rw [hf] at hr
          obtain rfl : false = r := hr
          clear hf HR
          have xp0 : (b != 0) = false := bne_eq_false_iff_eq.2 p0
          have xp1 : (c != 0) = false := bne_eq_false_iff_eq.2 p1
          have xp2 : ((l.length : Int) != 0) = true := bne_iff_ne.2 p2
          clear p0 p1 p2
          go_enter Tryd.func46, Tryd.ntmps46
          go_wp2
          go_ret
          exact ⟨rfl, HB0.out⟩
      · have hf : formedB n ⟨1, b, c, l⟩ = false := by
          unfold formedB
          (repeat' split) <;> simp only [] at * <;> first | rfl | (exfalso; omega) | exact beq_iff_eq.2 (by omega) | exact beq_eq_false_iff_ne.2 (by omega) | exact decide_eq_true (by omega) | exact decide_eq_false (by omega)
        have hr := HR.out
        rw [hf] at hr
        obtain rfl : false = r := hr
        clear hf HR
        have xp0 : (b != 0) = false := bne_eq_false_iff_eq.2 p0
        have xp1 : (c != 0) = true := bne_iff_ne.2 p1
        clear p0 p1
        go_enter Tryd.func46, Tryd.ntmps46
        go_wp2
        go_ret
        exact ⟨rfl, HB0.out⟩
    · by_cases p3 : b = 1
      · by_cases p4 : c = 0
        · by_cases p5 : (l.length : Int) = 0
          · have hf : formedB n ⟨1, b, c, l⟩ = true := by
              unfold formedB
              (repeat' split) <;> simp only [] at * <;> first | rfl | (exfalso; omega) | exact beq_iff_eq.2 (by omega) | exact beq_eq_false_iff_ne.2 (by omega) | exact decide_eq_true (by omega) | exact decide_eq_false (by omega)
            have hr := HR.out
            rw [hf] at hr
            have HRR : Hid ((l.all fun x => (nodesT x).all (formedB n)) = r) := Lib.hid (by rw [← hr]; rfl)
            clear hf HR hr
            have xp0 : (b != 0) = true := bne_iff_ne.2 p0
            have xp3 : (b != 1) = false := bne_eq_false_iff_eq.2 p3
            have xp4 : (c != 0) = false := bne_eq_false_iff_eq.2 p4
            have xp5 : ((l.length : Int) != 0) = false := bne_eq_false_iff_eq.2 p5
            clear p0 p3 p4 p5
            go_enter Tryd.func46, Tryd.ntmps46
            go_wp2
            go_loopg [5] l.length (fun gg s5 wr => ∃ kk : Nat, kk ≤ l.length ∧ l.length - kk ≤ gg ∧ s5 = .int .i64 kk ∧ Aside0 (Below w0.heap.size w0 wr) ∧ Aside0 ((l.take kk).all (fun x => (nodesT x).all (formedB n)) = true))
            case atStart => exact ⟨0, Nat.zero_le _, by omega, rfl, ⟨by first | exact Below.refl _ _ | (rw [hw0]; exact Below.refl _ _)⟩, ⟨by simp⟩⟩
            case round =>
              obtain ⟨kk, hkk, hg, rfl, HB3, HS⟩ := hrel
              have q3 : wr.cell? ⟨w.heap.size, 3, none⟩ = some (.slice A0 l.length c0) := (HX0.out.below HB3.out).e3
              by_cases hlt : kk < l.length
              · have hltz : (kk : Int) < (l.length : Int) := by omega
                have hm := rd_mem hlt
                have htk : l.take (kk + 1) = l.take kk ++ [rd_T24 l (kk : Int)] := by
                  rw [List.take_succ_eq_append_getElem hlt]
                  have : rd_T24 l (kk : Int) = l[kk] := by simp [rd_T24, hlt]
                  rw [this]
                obtain ⟨ad, A3, c3, rfl, hx0, hx1, hx2, hx3, hl3, hi3⟩ := at_T24 HC.out (kk : Int) (by omega) hltz
                have hbw : Below w.heap.size w wr := below_step HB0.out HB3.out
                replace hx0 := (hbw.cell (World.block_lt_of_cell? w _ hx0)).trans hx0
                replace hx1 := (hbw.cell (World.block_lt_of_cell? w _ hx1)).trans hx1
                replace hx2 := (hbw.cell (World.block_lt_of_cell? w _ hx2)).trans hx2
                replace hx3 := (hbw.cell (World.block_lt_of_cell? w _ hx3)).trans hx3
                rw [Int.toNat_natCast] at hx0 hx1 hx2 hx3
                have k := HI.out _ hm A3 c3 wr (Kd.C_below hi3 hbw) hl3
                generalize rd_T24 l (kk : Int) = y at hx0 hx1 hx2 hx3 k hm htk
                obtain ⟨β, hβ⟩ : ∃ β, (nodesT y).all (formedB n) = β := ⟨_, rfl⟩
                rw [hβ] at k
                have K := Lib.hid k
                have HM := Lib.hid hm
                have HT := Lib.hid htk
                have HY := Lib.hid hβ
                clear k hm hi3 hl3 hbw htk hβ
                go_wp2_with fail
                refine K.out.mono ?_
                rintro e w5 ⟨rfl, hb5⟩
                have HB5 := Lib.hid (below_step HB3.out hb5)
                clear hb5 K
                cases β with
                | true =>
                  go_wp2
                  go_roundg (l.length - (kk + 1))
                  case measure => omega
                  case rel => exact ⟨kk + 1, by omega, by omega, by go_num, ⟨HB5.out⟩, ⟨by rw [HT.out, List.all_append, HS.out]; simp [HY.out]⟩⟩
                | false =>
                  have hrf : r = false := by
                    rw [← HRR.out, List.all_eq_false]
                    exact ⟨y, HM.out, by simp [HY.out]⟩
                  subst hrf
                  go_wp2
                  go_ret
                  exact ⟨rfl, below_step HB0.out HB5.out⟩
              · have hltz : ¬ (kk : Int) < (l.length : Int) := by omega
                have hkl : kk = l.length := by omega
                have hrt : r = true := by
                  rw [← HRR.out, ← HS.out, hkl, List.take_length]
                clear hkl
                subst hrt
                go_wp2
                go_ret
                exact ⟨rfl, below_step HB0.out HB3.out⟩
          · have hf : formedB n ⟨1, b, c, l⟩ = false := by
              unfold formedB
              (repeat' split) <;> simp only [] at * <;> first | rfl | (exfalso; omega) | exact beq_iff_eq.2 (by omega) | exact beq_eq_false_iff_ne.2 (by omega) | exact decide_eq_true (by omega) | exact decide_eq_false (by omega)
            have hr := HR.out
            rw [hf] at hr
            obtain rfl : false = r := hr
            clear hf HR
            have xp0 : (b != 0) = true := bne_iff_ne.2 p0
            have xp3 : (b != 1) = false := bne_eq_false_iff_eq.2 p3
            have xp4 : (c != 0) = false := bne_eq_false_iff_eq.2 p4
            have xp5 : ((l.length : Int) != 0) = true := bne_iff_ne.2 p5
            clear p0 p3 p4 p5
            go_enter Tryd.func46, Tryd.ntmps46
            go_wp2
            go_ret
            exact ⟨rfl, HB0.out⟩
        · have hf : formedB n ⟨1, b, c, l⟩ = false := by
            unfold formedB
            (repeat' split) <;> simp only [] at * <;> first | rfl | (exfalso; omega) | exact beq_iff_eq.2 (by omega) | exact beq_eq_false_iff_ne.2 (by omega) | exact decide_eq_true (by omega) | exact decide_eq_false (by omega)
          have hr := HR.out
          rw [hf] at hr
          obtain rfl : false = r := hr
          clear hf HR
          have xp0 : (b != 0) = true := bne_iff_ne.2 p0
          have xp3 : (b != 1) = false := bne_eq_false_iff_eq.2 p3
          have xp4 : (c != 0) = true := bne_iff_ne.2 p4
          clear p0 p3 p4
          go_enter Tryd.func46, Tryd.ntmps46
          go_wp2
          go_ret
          exact ⟨rfl, HB0.out⟩
      · have hf : formedB n ⟨1, b, c, l⟩ = false := by
          unfold formedB
          (repeat' split) <;> simp only [] at * <;> first | rfl | (exfalso; omega) | exact beq_iff_eq.2 (by omega) | exact beq_eq_false_iff_ne.2 (by omega) | exact decide_eq_true (by omega) | exact decide_eq_false (by omega)
        have hr := HR.out
        rw [hf] at hr
        obtain rfl : false = r := hr
        clear hf HR
        have xp0 : (b != 0) = true := bne_iff_ne.2 p0
        have xp3 : (b != 1) = true := bne_iff_ne.2 p3
        clear p0 p3
        go_enter Tryd.func46, Tryd.ntmps46
        go_wp2
        go_ret
        exact ⟨rfl, HB0.out⟩
  by_cases h2 : a = 2
  · subst h2
    clear h1
    by_cases p6 : b < 1
    · have hf : formedB n ⟨2, b, c, l⟩ = false := by
        unfold formedB
        (repeat' split) <;> simp only [] at * <;> first | rfl | (exfalso; omega) | exact beq_iff_eq.2 (by omega) | exact beq_eq_false_iff_ne.2 (by omega) | exact decide_eq_true (by omega) | exact decide_eq_false (by omega)
      have hr := HR.out
      rw [hf] at hr
      obtain rfl : false = r := hr
      clear hf HR
      go_enter Tryd.func46, Tryd.ntmps46
      go_wp2
      go_ret
      exact ⟨rfl, HB0.out⟩
    · by_cases p7 : n < b
      · have hf : formedB n ⟨2, b, c, l⟩ = false := by
          unfold formedB
          (repeat' split) <;> simp only [] at * <;> first | rfl | (exfalso; omega) | exact beq_iff_eq.2 (by omega) | exact beq_eq_false_iff_ne.2 (by omega) | exact decide_eq_true (by omega) | exact decide_eq_false (by omega)
        have hr := HR.out
        rw [hf] at hr
        obtain rfl : false = r := hr
        clear hf HR
        go_enter Tryd.func46, Tryd.ntmps46
        go_wp2
        go_ret
        exact ⟨rfl, HB0.out⟩
      · by_cases p8 : c = 0
        · by_cases p9 : (l.length : Int) = 0
          · have hf : formedB n ⟨2, b, c, l⟩ = true := by
              unfold formedB
              (repeat' split) <;> simp only [] at * <;> first | rfl | (exfalso; omega) | exact beq_iff_eq.2 (by omega) | exact beq_eq_false_iff_ne.2 (by omega) | exact decide_eq_true (by omega) | exact decide_eq_false (by omega)
            have hr := HR.out
            rw [hf] at hr
            have HRR : Hid ((l.all fun x => (nodesT x).all (formedB n)) = r) := Lib.hid (by rw [← hr]; rfl)
            clear hf HR hr
            have xp8 : (c != 0) = false := bne_eq_false_iff_eq.2 p8
            have xp9 : ((l.length : Int) != 0) = false := bne_eq_false_iff_eq.2 p9
            clear p8 p9
            go_enter Tryd.func46, Tryd.ntmps46
            go_wp2
            go_loopg [5] l.length (fun gg s5 wr => ∃ kk : Nat, kk ≤ l.length ∧ l.length - kk ≤ gg ∧ s5 = .int .i64 kk ∧ Aside0 (Below w0.heap.size w0 wr) ∧ Aside0 ((l.take kk).all (fun x => (nodesT x).all (formedB n)) = true))
            case atStart => exact ⟨0, Nat.zero_le _, by omega, rfl, ⟨by first | exact Below.refl _ _ | (rw [hw0]; exact Below.refl _ _)⟩, ⟨by simp⟩⟩
            case round =>
              obtain ⟨kk, hkk, hg, rfl, HB3, HS⟩ := hrel
              have q3 : wr.cell? ⟨w.heap.size, 3, none⟩ = some (.slice A0 l.length c0) := (HX0.out.below HB3.out).e3
              by_cases hlt : kk < l.length
              · have hltz : (kk : Int) < (l.length : Int) := by omega
                have hm := rd_mem hlt
                have htk : l.take (kk + 1) = l.take kk ++ [rd_T24 l (kk : Int)] := by
                  rw [List.take_succ_eq_append_getElem hlt]
                  have : rd_T24 l (kk : Int) = l[kk] := by simp [rd_T24, hlt]
                  rw [this]
                obtain ⟨ad, A3, c3, rfl, hx0, hx1, hx2, hx3, hl3, hi3⟩ := at_T24 HC.out (kk : Int) (by omega) hltz
                have hbw : Below w.heap.size w wr := below_step HB0.out HB3.out
                replace hx0 := (hbw.cell (World.block_lt_of_cell? w _ hx0)).trans hx0
                replace hx1 := (hbw.cell (World.block_lt_of_cell? w _ hx1)).trans hx1
                replace hx2 := (hbw.cell (World.block_lt_of_cell? w _ hx2)).trans hx2
                replace hx3 := (hbw.cell (World.block_lt_of_cell? w _ hx3)).trans hx3
                rw [Int.toNat_natCast] at hx0 hx1 hx2 hx3
                have k := HI.out _ hm A3 c3 wr (Kd.C_below hi3 hbw) hl3
                generalize rd_T24 l (kk : Int) = y at hx0 hx1 hx2 hx3 k hm htk
                obtain ⟨β, hβ⟩ : ∃ β, (nodesT y).all (formedB n) = β := ⟨_, rfl⟩
                rw [hβ] at k
                have K := Lib.hid k
                have HM := Lib.hid hm
                have HT := Lib.hid htk
                have HY := Lib.hid hβ
                clear k hm hi3 hl3 hbw htk hβ
                go_wp2_with fail
                refine K.out.mono ?_
                rintro e w5 ⟨rfl, hb5⟩
                have HB5 := Lib.hid (below_step HB3.out hb5)
                clear hb5 K
                cases β with
                | true =>
                  go_wp2
                  go_roundg (l.length - (kk + 1))
                  case measure => omega
                  case rel => exact ⟨kk + 1, by omega, by omega, by go_num, ⟨HB5.out⟩, ⟨by rw [HT.out, List.all_append, HS.out]; simp [HY.out]⟩⟩
                | false =>
                  have hrf : r = false := by
                    rw [← HRR.out, List.all_eq_false]
                    exact ⟨y, HM.out, by simp [HY.out]⟩
                  subst hrf
                  go_wp2
                  go_ret
                  exact ⟨rfl, below_step HB0.out HB5.out⟩
              · have hltz : ¬ (kk : Int) < (l.length : Int) := by omega
                have hkl : kk = l.length := by omega
                have hrt : r = true := by
                  rw [← HRR.out, ← HS.out, hkl, List.take_length]
                clear hkl
                subst hrt
                go_wp2
                go_ret
                exact ⟨rfl, below_step HB0.out HB3.out⟩
          · have hf : formedB n ⟨2, b, c, l⟩ = false := by
              unfold formedB
              (repeat' split) <;> simp only [] at * <;> first | rfl | (exfalso; omega) | exact beq_iff_eq.2 (by omega) | exact beq_eq_false_iff_ne.2 (by omega) | exact decide_eq_true (by omega) | exact decide_eq_false (by omega)
            have hr := HR.out
            rw [hf] at hr
            obtain rfl : false = r := hr
            clear hf HR
            have xp8 : (c != 0) = false := bne_eq_false_iff_eq.2 p8
            have xp9 : ((l.length : Int) != 0) = true := bne_iff_ne.2 p9
            clear p8 p9
            go_enter Tryd.func46, Tryd.ntmps46
            go_wp2
            go_ret
            exact ⟨rfl, HB0.out⟩
        · have hf : formedB n ⟨2, b, c, l⟩ = false := by
            unfold formedB
            (repeat' split) <;> simp only [] at * <;> first | rfl | (exfalso; omega) | exact beq_iff_eq.2 (by omega) | exact beq_eq_false_iff_ne.2 (by omega) | exact decide_eq_true (by omega) | exact decide_eq_false (by omega)
          have hr := HR.out
          rw [hf] at hr
          obtain rfl : false = r := hr
          clear hf HR
          have xp8 : (c != 0) = true := bne_iff_ne.2 p8
          clear p8
          go_enter Tryd.func46, Tryd.ntmps46
          go_wp2
          go_ret
          exact ⟨rfl, HB0.out⟩
  by_cases h3 : a = 3
  · subst h3
    clear h1
    clear h2
    by_cases p10 : b = 0
    · by_cases p11 : c = 0
      · by_cases p12 : (l.length : Int) = 1
        · have hf : formedB n ⟨3, b, c, l⟩ = true := by
            unfold formedB
            (repeat' split) <;> simp only [] at * <;> first | rfl | (exfalso; omega) | exact beq_iff_eq.2 (by omega) | exact beq_eq_false_iff_ne.2 (by omega) | exact decide_eq_true (by omega) | exact decide_eq_false (by omega)
          have hr := HR.out
          rw [hf] at hr
          have HRR : Hid ((l.all fun x => (nodesT x).all (formedB n)) = r) := Lib.hid (by rw [← hr]; rfl)
          clear hf HR hr
          have xp10 : (b != 0) = false := bne_eq_false_iff_eq.2 p10
          have xp11 : (c != 0) = false := bne_eq_false_iff_eq.2 p11
          have xp12 : ((l.length : Int) != 1) = false := bne_eq_false_iff_eq.2 p12
          clear p10 p11 p12
          go_enter Tryd.func46, Tryd.ntmps46
          go_wp2
          go_loopg [5] l.length (fun gg s5 wr => ∃ kk : Nat, kk ≤ l.length ∧ l.length - kk ≤ gg ∧ s5 = .int .i64 kk ∧ Aside0 (Below w0.heap.size w0 wr) ∧ Aside0 ((l.take kk).all (fun x => (nodesT x).all (formedB n)) = true))
          case atStart => exact ⟨0, Nat.zero_le _, by omega, rfl, ⟨by first | exact Below.refl _ _ | (rw [hw0]; exact Below.refl _ _)⟩, ⟨by simp⟩⟩
          case round =>
            obtain ⟨kk, hkk, hg, rfl, HB3, HS⟩ := hrel
            have q3 : wr.cell? ⟨w.heap.size, 3, none⟩ = some (.slice A0 l.length c0) := (HX0.out.below HB3.out).e3
            by_cases hlt : kk < l.length
            · have hltz : (kk : Int) < (l.length : Int) := by omega
              have hm := rd_mem hlt
              have htk : l.take (kk + 1) = l.take kk ++ [rd_T24 l (kk : Int)] := by
                rw [List.take_succ_eq_append_getElem hlt]
                have : rd_T24 l (kk : Int) = l[kk] := by simp [rd_T24, hlt]
                rw [this]
              obtain ⟨ad, A3, c3, rfl, hx0, hx1, hx2, hx3, hl3, hi3⟩ := at_T24 HC.out (kk : Int) (by omega) hltz
              have hbw : Below w.heap.size w wr := below_step HB0.out HB3.out
              replace hx0 := (hbw.cell (World.block_lt_of_cell? w _ hx0)).trans hx0
              replace hx1 := (hbw.cell (World.block_lt_of_cell? w _ hx1)).trans hx1
              replace hx2 := (hbw.cell (World.block_lt_of_cell? w _ hx2)).trans hx2
              replace hx3 := (hbw.cell (World.block_lt_of_cell? w _ hx3)).trans hx3
              rw [Int.toNat_natCast] at hx0 hx1 hx2 hx3
              have k := HI.out _ hm A3 c3 wr (Kd.C_below hi3 hbw) hl3
              generalize rd_T24 l (kk : Int) = y at hx0 hx1 hx2 hx3 k hm htk
              obtain ⟨β, hβ⟩ : ∃ β, (nodesT y).all (formedB n) = β := ⟨_, rfl⟩
              rw [hβ] at k
              have K := Lib.hid k
              have HM := Lib.hid hm
              have HT := Lib.hid htk
              have HY := Lib.hid hβ
              clear k hm hi3 hl3 hbw htk hβ
              go_wp2_with fail
              refine K.out.mono ?_
              rintro e w5 ⟨rfl, hb5⟩
              have HB5 := Lib.hid (below_step HB3.out hb5)
              clear hb5 K
              cases β with
              | true =>
                go_wp2
                go_roundg (l.length - (kk + 1))
                case measure => omega
                case rel => exact ⟨kk + 1, by omega, by omega, by go_num, ⟨HB5.out⟩, ⟨by rw [HT.out, List.all_append, HS.out]; simp [HY.out]⟩⟩
              | false =>
                have hrf : r = false := by
                  rw [← HRR.out, List.all_eq_false]
                  exact ⟨y, HM.out, by simp [HY.out]⟩
                subst hrf
                go_wp2
                go_ret
                exact ⟨rfl, below_step HB0.out HB5.out⟩
            · have hltz : ¬ (kk : Int) < (l.length : Int) := by omega
              have hkl : kk = l.length := by omega
              have hrt : r = true := by
                rw [← HRR.out, ← HS.out, hkl, List.take_length]
              clear hkl
              subst hrt
              go_wp2
              go_ret
              exact ⟨rfl, below_step HB0.out HB3.out⟩
        · have hf : formedB n ⟨3, b, c, l⟩ = false := by
            unfold formedB
            (repeat' split) <;> simp only [] at * <;> first | rfl | (exfalso; omega) | exact beq_iff_eq.2 (by omega) | exact beq_eq_false_iff_ne.2 (by omega) | exact decide_eq_true (by omega) | exact decide_eq_false (by omega)
          have hr := HR.out
          rw [hf] at hr
          obtain rfl : false = r := hr
          clear hf HR
          have xp10 : (b != 0) = false := bne_eq_false_iff_eq.2 p10
          have xp11 : (c != 0) = false := bne_eq_false_iff_eq.2 p11
          have xp12 : ((l.length : Int) != 1) = true := bne_iff_ne.2 p12
          clear p10 p11 p12
          go_enter Tryd.func46, Tryd.ntmps46
          go_wp2
          go_ret
          exact ⟨rfl, HB0.out⟩
      · have hf : formedB n ⟨3, b, c, l⟩ = false := by
          unfold formedB
          (repeat' split) <;> simp only [] at * <;> first | rfl | (exfalso; omega) | exact beq_iff_eq.2 (by omega) | exact beq_eq_false_iff_ne.2 (by omega) | exact decide_eq_true (by omega) | exact decide_eq_false (by omega)
        have hr := HR.out
        rw [hf] at hr
        obtain rfl : false = r := hr
        clear hf HR
        have xp10 : (b != 0) = false := bne_eq_false_iff_eq.2 p10
        have xp11 : (c != 0) = true := bne_iff_ne.2 p11
        clear p10 p11
        go_enter Tryd.func46, Tryd.ntmps46
        go_wp2
        go_ret
        exact ⟨rfl, HB0.out⟩
    · have hf : formedB n ⟨3, b, c, l⟩ = false := by
        unfold formedB
        (repeat' split) <;> simp only [] at * <;> first | rfl | (exfalso; omega) | exact beq_iff_eq.2 (by omega) | exact beq_eq_false_iff_ne.2 (by omega) | exact decide_eq_true (by omega) | exact decide_eq_false (by omega)
      have hr := HR.out
      rw [hf] at hr
      obtain rfl : false = r := hr
      clear hf HR
      have xp10 : (b != 0) = true := bne_iff_ne.2 p10
      clear p10
      go_enter Tryd.func46, Tryd.ntmps46
      go_wp2
      go_ret
      exact ⟨rfl, HB0.out⟩
  by_cases h4 : a = 4
  · subst h4
    clear h1
    clear h2
    clear h3
    by_cases p13 : b = 0
    · by_cases p14 : c = 0
      · have hf : formedB n ⟨4, b, c, l⟩ = true := by
          unfold formedB
          (repeat' split) <;> simp only [] at * <;> first | rfl | (exfalso; omega) | exact beq_iff_eq.2 (by omega) | exact beq_eq_false_iff_ne.2 (by omega) | exact decide_eq_true (by omega) | exact decide_eq_false (by omega)
        have hr := HR.out
        rw [hf] at hr
        have HRR : Hid ((l.all fun x => (nodesT x).all (formedB n)) = r) := Lib.hid (by rw [← hr]; rfl)
        clear hf HR hr
        have xp13 : (b != 0) = false := bne_eq_false_iff_eq.2 p13
        have xp14 : (c != 0) = false := bne_eq_false_iff_eq.2 p14
        clear p13 p14
        go_enter Tryd.func46, Tryd.ntmps46
        go_wp2
        go_loopg [5] l.length (fun gg s5 wr => ∃ kk : Nat, kk ≤ l.length ∧ l.length - kk ≤ gg ∧ s5 = .int .i64 kk ∧ Aside0 (Below w0.heap.size w0 wr) ∧ Aside0 ((l.take kk).all (fun x => (nodesT x).all (formedB n)) = true))
        case atStart => exact ⟨0, Nat.zero_le _, by omega, rfl, ⟨by first | exact Below.refl _ _ | (rw [hw0]; exact Below.refl _ _)⟩, ⟨by simp⟩⟩
        case round =>
          obtain ⟨kk, hkk, hg, rfl, HB3, HS⟩ := hrel
          have q3 : wr.cell? ⟨w.heap.size, 3, none⟩ = some (.slice A0 l.length c0) := (HX0.out.below HB3.out).e3
          by_cases hlt : kk < l.length
          · have hltz : (kk : Int) < (l.length : Int) := by omega
            have hm := rd_mem hlt
            have htk : l.take (kk + 1) = l.take kk ++ [rd_T24 l (kk : Int)] := by
              rw [List.take_succ_eq_append_getElem hlt]
              have : rd_T24 l (kk : Int) = l[kk] := by simp [rd_T24, hlt]
              rw [this]
            obtain ⟨ad, A3, c3, rfl, hx0, hx1, hx2, hx3, hl3, hi3⟩ := at_T24 HC.out (kk : Int) (by omega) hltz
            have hbw : Below w.heap.size w wr := below_step HB0.out HB3.out
            replace hx0 := (hbw.cell (World.block_lt_of_cell? w _ hx0)).trans hx0
            replace hx1 := (hbw.cell (World.block_lt_of_cell? w _ hx1)).trans hx1
            replace hx2 := (hbw.cell (World.block_lt_of_cell? w _ hx2)).trans hx2
            replace hx3 := (hbw.cell (World.block_lt_of_cell? w _ hx3)).trans hx3
            rw [Int.toNat_natCast] at hx0 hx1 hx2 hx3
            have k := HI.out _ hm A3 c3 wr (Kd.C_below hi3 hbw) hl3
            generalize rd_T24 l (kk : Int) = y at hx0 hx1 hx2 hx3 k hm htk
            obtain ⟨β, hβ⟩ : ∃ β, (nodesT y).all (formedB n) = β := ⟨_, rfl⟩
            rw [hβ] at k
            have K := Lib.hid k
            have HM := Lib.hid hm
            have HT := Lib.hid htk
            have HY := Lib.hid hβ
            clear k hm hi3 hl3 hbw htk hβ
            go_wp2_with fail
            refine K.out.mono ?_
            rintro e w5 ⟨rfl, hb5⟩
            have HB5 := Lib.hid (below_step HB3.out hb5)
            clear hb5 K
            cases β with
            | true =>
              go_wp2
              go_roundg (l.length - (kk + 1))
              case measure => omega
              case rel => exact ⟨kk + 1, by omega, by omega, by go_num, ⟨HB5.out⟩, ⟨by rw [HT.out, List.all_append, HS.out]; simp [HY.out]⟩⟩
            | false =>
              have hrf : r = false := by
                rw [← HRR.out, List.all_eq_false]
                exact ⟨y, HM.out, by simp [HY.out]⟩
              subst hrf
              go_wp2
              go_ret
              exact ⟨rfl, below_step HB0.out HB5.out⟩
          · have hltz : ¬ (kk : Int) < (l.length : Int) := by omega
            have hkl : kk = l.length := by omega
            have hrt : r = true := by
              rw [← HRR.out, ← HS.out, hkl, List.take_length]
            clear hkl
            subst hrt
            go_wp2
            go_ret
            exact ⟨rfl, below_step HB0.out HB3.out⟩
      · have hf : formedB n ⟨4, b, c, l⟩ = false := by
          unfold formedB
          (repeat' split) <;> simp only [] at * <;> first | rfl | (exfalso; omega) | exact beq_iff_eq.2 (by omega) | exact beq_eq_false_iff_ne.2 (by omega) | exact decide_eq_true (by omega) | exact decide_eq_false (by omega)
        have hr := HR.out
        rw [hf] at hr
        obtain rfl : false = r := hr
        clear hf HR
        have xp13 : (b != 0) = false := bne_eq_false_iff_eq.2 p13
        have xp14 : (c != 0) = true := bne_iff_ne.2 p14
        clear p13 p14
        go_enter Tryd.func46, Tryd.ntmps46
        go_wp2
        go_ret
        exact ⟨rfl, HB0.out⟩
    · have hf : formedB n ⟨4, b, c, l⟩ = false := by
        unfold formedB
        (repeat' split) <;> simp only [] at * <;> first | rfl | (exfalso; omega) | exact beq_iff_eq.2 (by omega) | exact beq_eq_false_iff_ne.2 (by omega) | exact decide_eq_true (by omega) | exact decide_eq_false (by omega)
      have hr := HR.out
      rw [hf] at hr
      obtain rfl : false = r := hr
      clear hf HR
      have xp13 : (b != 0) = true := bne_iff_ne.2 p13
      clear p13
      go_enter Tryd.func46, Tryd.ntmps46
      go_wp2
      go_ret
      exact ⟨rfl, HB0.out⟩
  by_cases h5 : a = 5
  · subst h5
    clear h1
    clear h2
    clear h3
    clear h4
    by_cases p15 : b = 0
    · by_cases p16 : c = 0
      · have hf : formedB n ⟨5, b, c, l⟩ = true := by
          unfold formedB
          (repeat' split) <;> simp only [] at * <;> first | rfl | (exfalso; omega) | exact beq_iff_eq.2 (by omega) | exact beq_eq_false_iff_ne.2 (by omega) | exact decide_eq_true (by omega) | exact decide_eq_false (by omega)
        have hr := HR.out
        rw [hf] at hr
        have HRR : Hid ((l.all fun x => (nodesT x).all (formedB n)) = r) := Lib.hid (by rw [← hr]; rfl)
        clear hf HR hr
        have xp15 : (b != 0) = false := bne_eq_false_iff_eq.2 p15
        have xp16 : (c != 0) = false := bne_eq_false_iff_eq.2 p16
        clear p15 p16
        go_enter Tryd.func46, Tryd.ntmps46
        go_wp2
        go_loopg [5] l.length (fun gg s5 wr => ∃ kk : Nat, kk ≤ l.length ∧ l.length - kk ≤ gg ∧ s5 = .int .i64 kk ∧ Aside0 (Below w0.heap.size w0 wr) ∧ Aside0 ((l.take kk).all (fun x => (nodesT x).all (formedB n)) = true))
        case atStart => exact ⟨0, Nat.zero_le _, by omega, rfl, ⟨by first | exact Below.refl _ _ | (rw [hw0]; exact Below.refl _ _)⟩, ⟨by simp⟩⟩
        case round =>
          obtain ⟨kk, hkk, hg, rfl, HB3, HS⟩ := hrel
          have q3 : wr.cell? ⟨w.heap.size, 3, none⟩ = some (.slice A0 l.length c0) := (HX0.out.below HB3.out).e3
          by_cases hlt : kk < l.length
          · have hltz : (kk : Int) < (l.length : Int) := by omega
            have hm := rd_mem hlt
            have htk : l.take (kk + 1) = l.take kk ++ [rd_T24 l (kk : Int)] := by
              rw [List.take_succ_eq_append_getElem hlt]
              have : rd_T24 l (kk : Int) = l[kk] := by simp [rd_T24, hlt]
              rw [this]
            obtain ⟨ad, A3, c3, rfl, hx0, hx1, hx2, hx3, hl3, hi3⟩ := at_T24 HC.out (kk : Int) (by omega) hltz
            have hbw : Below w.heap.size w wr := below_step HB0.out HB3.out
            replace hx0 := (hbw.cell (World.block_lt_of_cell? w _ hx0)).trans hx0
            replace hx1 := (hbw.cell (World.block_lt_of_cell? w _ hx1)).trans hx1
            replace hx2 := (hbw.cell (World.block_lt_of_cell? w _ hx2)).trans hx2
            replace hx3 := (hbw.cell (World.block_lt_of_cell? w _ hx3)).trans hx3
            rw [Int.toNat_natCast] at hx0 hx1 hx2 hx3
            have k := HI.out _ hm A3 c3 wr (Kd.C_below hi3 hbw) hl3
            generalize rd_T24 l (kk : Int) = y at hx0 hx1 hx2 hx3 k hm htk
            obtain ⟨β, hβ⟩ : ∃ β, (nodesT y).all (formedB n) = β := ⟨_, rfl⟩
            rw [hβ] at k
            have K := Lib.hid k
            have HM := Lib.hid hm
            have HT := Lib.hid htk
            have HY := Lib.hid hβ
            clear k hm hi3 hl3 hbw htk hβ
            go_wp2_with fail
            refine K.out.mono ?_
            rintro e w5 ⟨rfl, hb5⟩
            have HB5 := Lib.hid (below_step HB3.out hb5)
            clear hb5 K
            cases β with
            | true =>
              go_wp2
              go_roundg (l.length - (kk + 1))
              case measure => omega
              case rel => exact ⟨kk + 1, by omega, by omega, by go_num, ⟨HB5.out⟩, ⟨by rw [HT.out, List.all_append, HS.out]; simp [HY.out]⟩⟩
            | false =>
              have hrf : r = false := by
                rw [← HRR.out, List.all_eq_false]
                exact ⟨y, HM.out, by simp [HY.out]⟩
              subst hrf
              go_wp2
              go_ret
              exact ⟨rfl, below_step HB0.out HB5.out⟩
          · have hltz : ¬ (kk : Int) < (l.length : Int) := by omega
            have hkl : kk = l.length := by omega
            have hrt : r = true := by
              rw [← HRR.out, ← HS.out, hkl, List.take_length]
            clear hkl
            subst hrt
            go_wp2
            go_ret
            exact ⟨rfl, below_step HB0.out HB3.out⟩
      · have hf : formedB n ⟨5, b, c, l⟩ = false := by
          unfold formedB
          (repeat' split) <;> simp only [] at * <;> first | rfl | (exfalso; omega) | exact beq_iff_eq.2 (by omega) | exact beq_eq_false_iff_ne.2 (by omega) | exact decide_eq_true (by omega) | exact decide_eq_false (by omega)
        have hr := HR.out
        rw [hf] at hr
        obtain rfl : false = r := hr
        clear hf HR
        have xp15 : (b != 0) = false := bne_eq_false_iff_eq.2 p15
        have xp16 : (c != 0) = true := bne_iff_ne.2 p16
        clear p15 p16
        go_enter Tryd.func46, Tryd.ntmps46
        go_wp2
        go_ret
        exact ⟨rfl, HB0.out⟩
    · have hf : formedB n ⟨5, b, c, l⟩ = false := by
        unfold formedB
        (repeat' split) <;> simp only [] at * <;> first | rfl | (exfalso; omega) | exact beq_iff_eq.2 (by omega) | exact beq_eq_false_iff_ne.2 (by omega) | exact decide_eq_true (by omega) | exact decide_eq_false (by omega)
      have hr := HR.out
      rw [hf] at hr
      obtain rfl : false = r := hr
      clear hf HR
      have xp15 : (b != 0) = true := bne_iff_ne.2 p15
      clear p15
      go_enter Tryd.func46, Tryd.ntmps46
      go_wp2
      go_ret
      exact ⟨rfl, HB0.out⟩
  by_cases h6 : a = 6
  · subst h6
    clear h1
    clear h2
    clear h3
    clear h4
    clear h5
    by_cases p17 : b = 0
    · by_cases p18 : c < 0
      · have hf : formedB n ⟨6, b, c, l⟩ = false := by
          unfold formedB
          (repeat' split) <;> simp only [] at * <;> first | rfl | (exfalso; omega) | exact beq_iff_eq.2 (by omega) | exact beq_eq_false_iff_ne.2 (by omega) | exact decide_eq_true (by omega) | exact decide_eq_false (by omega)
        have hr := HR.out
        rw [hf] at hr
        obtain rfl : false = r := hr
        clear hf HR
        have xp17 : (b != 0) = false := bne_eq_false_iff_eq.2 p17
        clear p17
        go_enter Tryd.func46, Tryd.ntmps46
        go_wp2
        go_ret
        exact ⟨rfl, HB0.out⟩
      · by_cases p19 : 1099511627776 < c
        · have hf : formedB n ⟨6, b, c, l⟩ = false := by
            unfold formedB
            (repeat' split) <;> simp only [] at * <;> first | rfl | (exfalso; omega) | exact beq_iff_eq.2 (by omega) | exact beq_eq_false_iff_ne.2 (by omega) | exact decide_eq_true (by omega) | exact decide_eq_false (by omega)
          have hr := HR.out
          rw [hf] at hr
          obtain rfl : false = r := hr
          clear hf HR
          have xp17 : (b != 0) = false := bne_eq_false_iff_eq.2 p17
          clear p17
          go_enter Tryd.func46, Tryd.ntmps46
          go_wp2
          go_ret
          exact ⟨rfl, HB0.out⟩
        · have hf : formedB n ⟨6, b, c, l⟩ = true := by
            unfold formedB
            (repeat' split) <;> simp only [] at * <;> first | rfl | (exfalso; omega) | exact beq_iff_eq.2 (by omega) | exact beq_eq_false_iff_ne.2 (by omega) | exact decide_eq_true (by omega) | exact decide_eq_false (by omega)
          have hr := HR.out
          rw [hf] at hr
          have HRR : Hid ((l.all fun x => (nodesT x).all (formedB n)) = r) := Lib.hid (by rw [← hr]; rfl)
          clear hf HR hr
          have xp17 : (b != 0) = false := bne_eq_false_iff_eq.2 p17
          clear p17
          go_enter Tryd.func46, Tryd.ntmps46
          go_wp2
          go_loopg [5] l.length (fun gg s5 wr => ∃ kk : Nat, kk ≤ l.length ∧ l.length - kk ≤ gg ∧ s5 = .int .i64 kk ∧ Aside0 (Below w0.heap.size w0 wr) ∧ Aside0 ((l.take kk).all (fun x => (nodesT x).all (formedB n)) = true))
          case atStart => exact ⟨0, Nat.zero_le _, by omega, rfl, ⟨by first | exact Below.refl _ _ | (rw [hw0]; exact Below.refl _ _)⟩, ⟨by simp⟩⟩
          case round =>
            obtain ⟨kk, hkk, hg, rfl, HB3, HS⟩ := hrel
            have q3 : wr.cell? ⟨w.heap.size, 3, none⟩ = some (.slice A0 l.length c0) := (HX0.out.below HB3.out).e3
            by_cases hlt : kk < l.length
            · have hltz : (kk : Int) < (l.length : Int) := by omega
              have hm := rd_mem hlt
              have htk : l.take (kk + 1) = l.take kk ++ [rd_T24 l (kk : Int)] := by
                rw [List.take_succ_eq_append_getElem hlt]
                have : rd_T24 l (kk : Int) = l[kk] := by simp [rd_T24, hlt]
                rw [this]
              obtain ⟨ad, A3, c3, rfl, hx0, hx1, hx2, hx3, hl3, hi3⟩ := at_T24 HC.out (kk : Int) (by omega) hltz
              have hbw : Below w.heap.size w wr := below_step HB0.out HB3.out
              replace hx0 := (hbw.cell (World.block_lt_of_cell? w _ hx0)).trans hx0
              replace hx1 := (hbw.cell (World.block_lt_of_cell? w _ hx1)).trans hx1
              replace hx2 := (hbw.cell (World.block_lt_of_cell? w _ hx2)).trans hx2
              replace hx3 := (hbw.cell (World.block_lt_of_cell? w _ hx3)).trans hx3
              rw [Int.toNat_natCast] at hx0 hx1 hx2 hx3
              have k := HI.out _ hm A3 c3 wr (Kd.C_below hi3 hbw) hl3
              generalize rd_T24 l (kk : Int) = y at hx0 hx1 hx2 hx3 k hm htk
              obtain ⟨β, hβ⟩ : ∃ β, (nodesT y).all (formedB n) = β := ⟨_, rfl⟩
              rw [hβ] at k
              have K := Lib.hid k
              have HM := Lib.hid hm
              have HT := Lib.hid htk
              have HY := Lib.hid hβ
              clear k hm hi3 hl3 hbw htk hβ
              go_wp2_with fail
              refine K.out.mono ?_
              rintro e w5 ⟨rfl, hb5⟩
              have HB5 := Lib.hid (below_step HB3.out hb5)
              clear hb5 K
              cases β with
              | true =>
                go_wp2
                go_roundg (l.length - (kk + 1))
                case measure => omega
                case rel => exact ⟨kk + 1, by omega, by omega, by go_num, ⟨HB5.out⟩, ⟨by rw [HT.out, List.all_append, HS.out]; simp [HY.out]⟩⟩
              | false =>
                have hrf : r = false := by
                  rw [← HRR.out, List.all_eq_false]
                  exact ⟨y, HM.out, by simp [HY.out]⟩
                subst hrf
                go_wp2
                go_ret
                exact ⟨rfl, below_step HB0.out HB5.out⟩
            · have hltz : ¬ (kk : Int) < (l.length : Int) := by omega
              have hkl : kk = l.length := by omega
              have hrt : r = true := by
                rw [← HRR.out, ← HS.out, hkl, List.take_length]
              clear hkl
              subst hrt
              go_wp2
              go_ret
              exact ⟨rfl, below_step HB0.out HB3.out⟩
    · have hf : formedB n ⟨6, b, c, l⟩ = false := by
        unfold formedB
        (repeat' split) <;> simp only [] at * <;> first | rfl | (exfalso; omega) | exact beq_iff_eq.2 (by omega) | exact beq_eq_false_iff_ne.2 (by omega) | exact decide_eq_true (by omega) | exact decide_eq_false (by omega)
      have hr := HR.out
      rw [hf] at hr
      obtain rfl : false = r := hr
      clear hf HR
      have xp17 : (b != 0) = true := bne_iff_ne.2 p17
      clear p17
      go_enter Tryd.func46, Tryd.ntmps46
      go_wp2
      go_ret
      exact ⟨rfl, HB0.out⟩
  have hf : formedB n ⟨a, b, c, l⟩ = false := by
    unfold formedB
    (repeat' split) <;> simp only [] at * <;> first | rfl | (exfalso; omega) | exact beq_iff_eq.2 (by omega) | exact beq_eq_false_iff_ne.2 (by omega) | exact decide_eq_true (by omega) | exact decide_eq_false (by omega)
  have hr := HR.out
  rw [hf] at hr
  obtain rfl : false = r := hr
  clear hf HR
  have xh1 : (a == 1) = false := beq_eq_false_iff_ne.2 h1
  have xh2 : (a == 2) = false := beq_eq_false_iff_ne.2 h2
  have xh3 : (a == 3) = false := beq_eq_false_iff_ne.2 h3
  have xh4 : (a == 4) = false := beq_eq_false_iff_ne.2 h4
  have xh5 : (a == 5) = false := beq_eq_false_iff_ne.2 h5
  have xh6 : (a == 6) = false := beq_eq_false_iff_ne.2 h6
  clear h1 h2 h3 h4 h5 h6
  go_enter Tryd.func46, Tryd.ntmps46
  go_wp2
  go_ret
  exact ⟨rfl, HB0.out⟩

end Go.Proofs.YtphegiohkggddaaDoor.PF

namespace Go.Proofs.YtphegiohkggddaaDoor.PF
open Go.RowKit Go.Proofs.YtphegiohkggddaaDoorW.PrintWords
set_option linter.unusedVariables false
set_option linter.unusedSimpArgs false

theorem eta24 (y : S24) : (⟨y.f0, y.f1, y.f2, y.f3⟩ : S24) = y := by cases y; rfl
/-- A tree's four parts. -/
def tup (t : S24) : Int × Int × Int × List S24 := (t.f0, t.f1, t.f2, t.f3)

theorem Size_ev : ∀ t : S24, (nodesT t).length < 1099511627776 → Ev (fun k => chalklineref11_Size.f k t.f0 t.f1 t.f2 t.f3) ((nodesT t).length : Int) := by
  refine S24_ind fun a b c l ih hs => ?_
  have hks := kids_size hs
  have loop : ∀ (m j : Nat) (acc : Nat), l.length - j = m → j ≤ l.length → acc + (nodesL (l.drop j)).length < 1099511627776 → Ev (fun k => chalklineref11_Size.l0 k (acc : Int) (j : Int) a b c l) ((acc + (nodesL (l.drop j)).length : Nat) : Int) := by
    intro m
    induction m with
    | zero =>
      intro j acc hm hj ha
      rw [List.drop_of_length_le (by omega)]
      refine Ev.step (Ev.pure _) (fun k => ?_)
      rw [chalklineref11_Size.l0, if_neg (by omega)]
      simp [nodesL]
    | succ m ihm =>
      intro j acc hm hj ha
      have hlt : j < l.length := by omega
      have he1 := ih _ (rd_mem hlt) (hks _ (rd_mem hlt))
      have hll := nodesL_len l
      simp only [nodesT, List.length_cons] at hs
      rw [nodesL_drop hlt, List.length_append] at ha ⊢
      have h := ihm (j + 1) (acc + (nodesT (rd_T24 l (j : Int))).length) (by omega) (by omega) (by omega)
      refine Ev.told (Ev.step (Ev.bind he1 (G := fun k t => chalklineref11_Size.l0 k (wrap64 ((acc : Int) + t)) (wrap64 ((j : Int) + 1)) a b c l) ?_) (fun k => ?_)) (show ((acc + (nodesT (rd_T24 l (j : Int))).length + (nodesL (l.drop (j + 1))).length : Nat) : Int) = _ by omega)
      · refine Ev.congr h (fun k => ?_)
        rw [wrap_succ (by omega), wrap_id (by omega) (by omega)]
        congr 1
      · rw [chalklineref11_Size.l0, if_pos (by omega), if_pos (by omega)]
  simp only [nodesT, List.length_cons] at hs ⊢
  have h0 := loop _ 0 1 rfl (Nat.zero_le _) (by rw [List.drop_zero]; omega)
  rw [List.drop_zero] at h0
  refine Ev.told (Ev.step h0 (fun k => ?_)) (by omega)
  show chalklineref11_Size.f (k + 1) a b c l = _
  rw [chalklineref11_Size.f]
  rfl

/-! ### joined -/
def badB (w0 : Int) (x : S24) : Bool := if x.f0 = 1 then x.f1 != w0 else false
def jfin (kd w0 : Int) (o : List S24) : S24 := if (o.length : Int) = 0 then ⟨1, w0, 0, []⟩ else if (o.length : Int) = 1 then rd_T24 o 0 else ⟨kd, 0, 0, o⟩
def J2 (kd w0 : Int) (acc r : List S24) : S24 := if r.any (badB w0) = true then ⟨1, 1 - w0, 0, []⟩ else jfin kd w0 (acc ++ flatL kd (r.filter fun x => x.f0 != 1))
theorem join_J2 (kd : Int) (m : List S24) : join_val kd m = J2 kd (idleV kd) [] m := by
  unfold join_val J2
  have e : (m.any fun x => if x.f0 = 1 then x.f1 != idleV kd else false) = m.any (badB (idleV kd)) := rfl
  rw [e]
  split
  · rfl
  · rw [List.nil_append]
    generalize flatL kd (m.filter fun x => x.f0 != 1) = o
    unfold jfin
    match o with
    | [] => rfl
    | [x] => rfl
    | x :: y :: r =>
      rw [if_neg (by simp only [List.length_cons]; omega), if_neg (by simp only [List.length_cons]; omega)]
theorem joined_ev {kd w0 : Int} (hk : kd = 4 ∧ w0 = 1 ∨ kd = 5 ∧ w0 = 0) (m : List S24) (hs : (nodesL m).length < 1099511627776) : Ev (fun k => chalklineref11_joined.f k kd w0 m) (tup (join_val kd m)) := by
  have hid : idleV kd = w0 := by rcases hk with ⟨rfl, rfl⟩ | ⟨rfl, rfl⟩ <;> rfl
  have hkd : kd ≠ 1 := by omega
  have hw : wrap64 (1 - w0) = 1 - w0 := wrap_bit (by omega)
  rw [join_J2, hid]
  have loop : ∀ (d j : Nat) (acc : List S24), m.length - j = d → j ≤ m.length → acc.length + (nodesL (m.drop j)).length < 1099511627776 → Ev (fun k => chalklineref11_joined.l0 k kd w0 m acc (j : Int)) (tup (J2 kd w0 acc (m.drop j))) := by
    intro d
    induction d with
    | zero =>
      intro j acc hd hj ha
      rw [List.drop_of_length_le (by omega)]
      refine Ev.step (Ev.pure _) (fun k => ?_)
      rw [chalklineref11_joined.l0, if_neg (by omega)]
      unfold J2 jfin
      rw [if_neg (show ¬ ([] : List S24).any (badB w0) = true by simp), List.filter_nil, flatL, List.append_nil]
      by_cases h0 : (acc.length : Int) = 0
      · rw [if_pos h0, if_pos h0]; rfl
      · rw [if_neg h0, if_neg h0]
        by_cases h1 : (acc.length : Int) = 1
        · rw [if_pos h1, if_pos h1, if_pos (by omega)]; rfl
        · rw [if_neg h1, if_neg h1]; rfl
    | succ d ihd =>
      intro j acc hd hj ha
      have hlt : j < m.length := by omega
      have hll := nodesL_len m
      rw [nodesL_drop hlt, List.length_append] at ha
      rw [drop_rd hlt]
      have hx := nodesT_kids (rd_T24 m (j : Int))
      have hx3 := nodesL_len (rd_T24 m (j : Int)).f3
      by_cases h1 : (rd_T24 m (j : Int)).f0 = kd
      · have h := ihd (j + 1) (acc ++ (rd_T24 m (j : Int)).f3) (by omega) (by omega) (by rw [List.length_append]; omega)
        refine Ev.told (Ev.step h (fun k => ?_)) ?_
        · rw [chalklineref11_joined.l0, if_pos (by omega), if_pos (by omega), if_pos h1, if_pos (by omega), wrap_succ (by omega)]
        · congr 1
          unfold J2
          have hb : badB w0 (rd_T24 m (j : Int)) = false := by unfold badB; rw [if_neg (by omega)]
          have hn : ((rd_T24 m (j : Int)).f0 != 1) = true := bne_iff_ne.2 (by omega)
          rw [List.any_cons, hb, Bool.false_or, List.filter_cons, if_pos hn, flatL, if_pos h1, List.append_assoc]
      by_cases h2 : (rd_T24 m (j : Int)).f0 = 1
      · by_cases h3 : (rd_T24 m (j : Int)).f1 = w0
        · have h := ihd (j + 1) acc (by omega) (by omega) (by omega)
          refine Ev.told (Ev.step h (fun k => ?_)) ?_
          · rw [chalklineref11_joined.l0, if_pos (by omega), if_pos (by omega), if_neg h1, if_pos h2, if_pos h3, wrap_succ (by omega)]
          · congr 1
            unfold J2
            have hb : badB w0 (rd_T24 m (j : Int)) = false := by unfold badB; rw [if_pos h2]; exact bne_eq_false_iff_eq.2 h3
            have hn : ¬ ((rd_T24 m (j : Int)).f0 != 1) = true := by rw [bne_iff_ne]; omega
            rw [List.any_cons, hb, Bool.false_or, List.filter_cons, if_neg hn]
        · refine Ev.told (Ev.step (Ev.pure (1, 1 - w0, 0, [])) (fun k => ?_)) ?_
          · rw [chalklineref11_joined.l0, if_pos (by omega), if_pos (by omega), if_neg h1, if_pos h2, if_neg h3, hw]
            rfl
          · unfold J2
            have hb : badB w0 (rd_T24 m (j : Int)) = true := by unfold badB; rw [if_pos h2]; exact bne_iff_ne.2 h3
            rw [List.any_cons, hb, Bool.true_or, if_pos rfl]
            rfl
      · have h := ihd (j + 1) (acc ++ [rd_T24 m (j : Int)]) (by omega) (by omega) (by rw [List.length_append, List.length_singleton]; omega)
        refine Ev.told (Ev.step h (fun k => ?_)) ?_
        · rw [chalklineref11_joined.l0, if_pos (by omega), if_pos (by omega), if_neg h1, if_neg h2, if_pos (by omega), wrap_succ (by omega), eta24]
        · congr 1
          unfold J2
          have hb : badB w0 (rd_T24 m (j : Int)) = false := by unfold badB; rw [if_neg h2]
          have hn : ((rd_T24 m (j : Int)).f0 != 1) = true := bne_iff_ne.2 h2
          rw [List.any_cons, hb, Bool.false_or, List.filter_cons, if_pos hn, flatL, if_neg h1, List.append_assoc]
  have h0 := loop _ 0 [] rfl (Nat.zero_le _) (by rw [List.drop_zero]; simpa using hs)
  rw [List.drop_zero] at h0
  exact h0

/-! ### least -/
theorem least_ev (c : Int) (h0 : 0 ≤ c) (h1 : c ≤ 1099511627776) (m : List S24) (hs : (nodesL m).length < 1099511627776) : Ev (fun k => chalklineref11_least.f k c m) (tup (least_val c m)) := by
  have loop : ∀ (d j : Nat) (x0 : Int) (acc : List S24), m.length - j = d → j ≤ m.length → -(j : Int) ≤ x0 → x0 ≤ 1099511627776 → (nodesL acc).length + (nodesL (m.drop j)).length < 1099511627776 → Ev (fun k => chalklineref11_least.l0 k x0 m acc (j : Int)) (tup (least2_val (x0 - (((m.drop j).filter oneB).length : Int)) (acc ++ (m.drop j).filter fun x => x.f0 != 1))) := by
    intro d
    induction d with
    | zero =>
      intro j x0 acc hd hj hx0 hx1 ha
      rw [List.drop_of_length_le (by omega)] at ha ⊢
      have hacc : (nodesL acc).length < 1099511627776 := by omega
      rw [List.filter_nil, List.filter_nil, List.append_nil, List.length_nil]
      have e : x0 - ((0 : Nat) : Int) = x0 := by omega
      rw [e]
      unfold least2_val
      have st : ∀ k, chalklineref11_least.l0 (k + 1) x0 m acc (j : Int) = _ := fun k => by rw [chalklineref11_least.l0, if_neg (by omega)]
      by_cases g1 : x0 ≤ 0
      · rw [if_pos g1]
        exact Ev.step (Ev.pure _) (fun k => by rw [st, if_pos g1]; rfl)
      rw [if_neg g1]
      by_cases g2 : (acc.length : Int) < x0
      · rw [if_pos g2]
        exact Ev.step (Ev.pure _) (fun k => by rw [st, if_neg g1, if_pos g2]; rfl)
      rw [if_neg g2]
      by_cases g3 : x0 = (acc.length : Int)
      · rw [if_pos g3]
        refine Ev.step (Ev.bind (joined_ev (kd := 4) (w0 := 1) (.inl ⟨rfl, rfl⟩) acc hacc) (G := fun k bt => some (bt.1, bt.2.1, bt.2.2.1, bt.2.2.2)) (Ev.pure _)) (fun k => by rw [st, if_neg g1, if_neg g2, if_pos g3])
      rw [if_neg g3]
      by_cases g4 : x0 = 1
      · rw [if_pos g4]
        refine Ev.step (Ev.bind (joined_ev (kd := 5) (w0 := 0) (.inr ⟨rfl, rfl⟩) acc hacc) (G := fun k bt => some (bt.1, bt.2.1, bt.2.2.1, bt.2.2.2)) (Ev.pure _)) (fun k => by rw [st, if_neg g1, if_neg g2, if_neg g3, if_pos g4])
      rw [if_neg g4]
      exact Ev.step (Ev.pure _) (fun k => by rw [st, if_neg g1, if_neg g2, if_neg g3, if_neg g4]; rfl)
    | succ d ihd =>
      intro j x0 acc hd hj hx0 hx1 ha
      have hlt : j < m.length := by omega
      have hll := nodesL_len m
      rw [nodesL_drop hlt, List.length_append] at ha
      rw [drop_rd hlt]
      have hx := nodesT_kids (rd_T24 m (j : Int))
      have hacc := nodesL_len acc
      by_cases h2 : (rd_T24 m (j : Int)).f0 = 1
      · have hn : ¬ ((rd_T24 m (j : Int)).f0 != 1) = true := by rw [bne_iff_ne]; omega
        by_cases h3 : (rd_T24 m (j : Int)).f1 = 1
        · have h := ihd (j + 1) (x0 - 1) acc (by omega) (by omega) (by omega) (by omega) (by omega)
          have ho : oneB (rd_T24 m (j : Int)) = true := by unfold oneB; rw [if_pos h2]; exact beq_iff_eq.2 h3
          refine Ev.told (Ev.step h (fun k => ?_)) ?_
          · rw [chalklineref11_least.l0, if_pos (by omega), if_pos (by omega), if_pos h2, if_pos h3, wrap_succ (by omega), wrap_id (by omega) (by omega)]
          · rw [List.filter_cons, if_pos ho, List.filter_cons, if_neg hn, List.length_cons]
            congr 2
            omega
        · have h := ihd (j + 1) x0 acc (by omega) (by omega) (by omega) (by omega) (by omega)
          have ho : ¬ oneB (rd_T24 m (j : Int)) = true := by unfold oneB; rw [if_pos h2, beq_iff_eq]; exact h3
          refine Ev.told (Ev.step h (fun k => ?_)) ?_
          · rw [chalklineref11_least.l0, if_pos (by omega), if_pos (by omega), if_pos h2, if_neg h3, wrap_succ (by omega)]
          · rw [List.filter_cons, if_neg ho, List.filter_cons, if_neg hn]
      · have hn : ((rd_T24 m (j : Int)).f0 != 1) = true := bne_iff_ne.2 h2
        have ho : ¬ oneB (rd_T24 m (j : Int)) = true := by unfold oneB; rw [if_neg h2]; simp
        have h := ihd (j + 1) x0 (acc ++ [rd_T24 m (j : Int)]) (by omega) (by omega) (by omega) (by omega) (by rw [nodesL_append, List.length_append]; simp only [nodesL, List.append_nil]; omega)
        refine Ev.told (Ev.step h (fun k => ?_)) ?_
        · rw [chalklineref11_least.l0, if_pos (by omega), if_pos (by omega), if_neg h2, if_pos (by omega), wrap_succ (by omega), eta24]
        · rw [List.filter_cons, if_neg ho, List.filter_cons, if_pos hn, List.append_assoc]
          rfl
  have g := loop _ 0 c [] rfl (Nat.zero_le _) (by omega) h1 (by rw [List.drop_zero]; simpa [nodesL] using hs)
  rw [List.drop_zero, List.nil_append] at g
  refine Ev.told (Ev.congr g (fun k => rfl)) ?_
  unfold least_val
  have hl := List.length_filter_le oneB m
  have hll := nodesL_len m
  rw [wrap_id (by omega) (by omega)]

/-! ### simple -/
theorem simple_ev (n : Int) : ∀ t : S24, WF n t → (nodesT t).length < 1099511627776 → Ev (fun k => chalklineref11_simple.f k t.f0 t.f1 t.f2 t.f3) (tup (made_val t)) := by
  refine S24_ind fun a b c l ih hw hs => ?_
  obtain ⟨hf, hk⟩ := WF_mk.1 hw
  have hks := kids_size hs
  have hm : ∀ x ∈ l.map made_val, WF n x := by
    intro x hx
    obtain ⟨y, hy, rfl⟩ := List.mem_map.1 hx
    exact (made_good n y (hk y hy) (hks y hy)).1
  have hms : (nodesL (l.map made_val)).length ≤ (nodesL l).length := map_size fun x hx => (made_good n x (hk x hx) (hks x hx)).2
  have hml : (l.map made_val).length = l.length := List.length_map ..
  have hll := nodesL_len l
  have hsl : (nodesL l).length < 1099511627776 := by simp only [nodesT, List.length_cons] at hs; omega
  have fin : ∀ j : Nat, ¬ (j : Int) < (l.length : Int) → Ev (fun k => chalklineref11_simple.l0 k (l.map made_val) (j : Int) a b c l) (tup (made_val ⟨a, b, c, l⟩)) := by
    intro j hj
    rw [made_val_eq]
    generalize l.map made_val = m at hm hms hml
    have st : ∀ k, chalklineref11_simple.l0 (k + 1) m (j : Int) a b c l = _ := fun k => by rw [chalklineref11_simple.l0, if_neg hj]
    unfold node_val
    by_cases h3 : a = 3
    · rw [if_pos h3]
      have hl1 := (formed_not hf h3).2.2
      replace hl1 : l.length = 1 := hl1
      have hy := hm _ (rd_mem (show 0 < m.length by omega))
      replace hy : WF n (rd_T24 m 0) := hy
      unfold not_val
      by_cases g1 : (rd_T24 m 0).f0 = 1
      · rw [if_pos g1]
        exact Ev.step (Ev.pure _) (fun k => by rw [st, if_pos h3, if_pos (by omega), if_pos g1]; rfl)
      rw [if_neg g1]
      by_cases g2 : (rd_T24 m 0).f0 = 3
      · rw [if_pos g2]
        have := (formed_not (WF_root hy) g2).2.2
        exact Ev.step (Ev.pure _) (fun k => by rw [st, if_pos h3, if_pos (by omega), if_neg g1, if_pos g2, if_pos (by omega)]; rfl)
      rw [if_neg g2]
      exact Ev.step (Ev.pure _) (fun k => by rw [st, if_pos h3, if_pos (by omega), if_neg g1, if_neg g2]; rfl)
    rw [if_neg h3]
    by_cases h4 : a = 4
    · rw [if_pos h4]
      exact Ev.step (Ev.bind (joined_ev (kd := 4) (w0 := 1) (.inl ⟨rfl, rfl⟩) m (by omega)) (G := fun k bt => some (bt.1, bt.2.1, bt.2.2.1, bt.2.2.2)) (Ev.pure _)) (fun k => by rw [st, if_neg h3, if_pos h4])
    rw [if_neg h4]
    by_cases h5 : a = 5
    · rw [if_pos h5]
      exact Ev.step (Ev.bind (joined_ev (kd := 5) (w0 := 0) (.inr ⟨rfl, rfl⟩) m (by omega)) (G := fun k bt => some (bt.1, bt.2.1, bt.2.2.1, bt.2.2.2)) (Ev.pure _)) (fun k => by rw [st, if_neg h3, if_neg h4, if_pos h5])
    rw [if_neg h5]
    by_cases h6 : a = 6
    · rw [if_pos h6]
      obtain ⟨_, g1, g2⟩ := formed_least hf h6
      exact Ev.step (Ev.bind (least_ev c g1 g2 m (by omega)) (G := fun k bt => some (bt.1, bt.2.1, bt.2.2.1, bt.2.2.2)) (Ev.pure _)) (fun k => by rw [st, if_neg h3, if_neg h4, if_neg h5, if_pos h6])
    rw [if_neg h6]
    exact Ev.step (Ev.pure _) (fun k => by rw [st, if_neg h3, if_neg h4, if_neg h5, if_neg h6]; rfl)
  have loop : ∀ (d j : Nat), l.length - j = d → j ≤ l.length → Ev (fun k => chalklineref11_simple.l0 k ((l.take j).map made_val) (j : Int) a b c l) (tup (made_val ⟨a, b, c, l⟩)) := by
    intro d
    induction d with
    | zero =>
      intro j hd hj
      rw [List.take_of_length_le (by omega)]
      exact fin j (by omega)
    | succ d ihd =>
      intro j hd hj
      have hlt : j < l.length := by omega
      have he1 := ih _ (rd_mem hlt) (hk _ (rd_mem hlt)) (hks _ (rd_mem hlt))
      have h := ihd (j + 1) (by omega) (by omega)
      have htk : l.take (j + 1) = l.take j ++ [rd_T24 l (j : Int)] := by
        rw [List.take_succ_eq_append_getElem hlt]
        have : rd_T24 l (j : Int) = l[j] := by simp [rd_T24, hlt]
        rw [this]
      rw [htk, List.map_append] at h
      have hlen : ((l.take j).map made_val).length = j := by rw [List.length_map, List.length_take]; omega
      refine Ev.step (Ev.bind he1 (G := fun k bt => if ((l.take j).map made_val).length < 2932031007402 then chalklineref11_simple.l0 k ((l.take j).map made_val ++ [(⟨bt.1, bt.2.1, bt.2.2.1, bt.2.2.2⟩ : S24)]) (wrap64 ((j : Int) + 1)) a b c l else none) ?_) (fun k => ?_)
      · refine Ev.congr h (fun k => ?_)
        rw [if_pos (by omega), wrap_succ (by omega)]
        show chalklineref11_simple.l0 k (_ ++ [(⟨(made_val (rd_T24 l (j : Int))).f0, (made_val (rd_T24 l (j : Int))).f1, (made_val (rd_T24 l (j : Int))).f2, (made_val (rd_T24 l (j : Int))).f3⟩ : S24)]) _ a b c l = _
        rw [eta24]
        rfl
      · rw [chalklineref11_simple.l0, if_pos (by omega), if_pos (by omega)]
  have h0 := loop _ 0 rfl (Nat.zero_le _)
  refine Ev.step h0 (fun k => ?_)
  show chalklineref11_simple.f (k + 1) a b c l = _
  rw [chalklineref11_simple.f]
  rfl

/-! ### Same, of a tree with itself -/
theorem Same_ev : ∀ t : S24, (nodesT t).length < 1099511627776 → Ev (fun k => chalklineref11_Same.f k t.f0 t.f1 t.f2 t.f3 t.f0 t.f1 t.f2 t.f3) true := by
  refine S24_ind fun a b c l ih hs => ?_
  have hks := kids_size hs
  have hll := nodesL_len l
  simp only [nodesT, List.length_cons] at hs
  have loop : ∀ (d j : Nat), l.length - j = d → j ≤ l.length → Ev (fun k => chalklineref11_Same.l0 k (j : Int) a b c l a b c l) true := by
    intro d
    induction d with
    | zero =>
      intro j hd hj
      exact Ev.step (Ev.pure _) (fun k => by rw [chalklineref11_Same.l0, if_neg (by omega)])
    | succ d ihd =>
      intro j hd hj
      have hlt : j < l.length := by omega
      have he1 := ih _ (rd_mem hlt) (hks _ (rd_mem hlt))
      have h := ihd (j + 1) (by omega) (by omega)
      refine Ev.step (Ev.bind he1 (G := fun k t => if t = true then chalklineref11_Same.l0 k (wrap64 ((j : Int) + 1)) a b c l a b c l else some false) ?_) (fun k => ?_)
      · refine Ev.congr h (fun k => ?_)
        rw [if_pos rfl, wrap_succ (by omega)]
      · rw [chalklineref11_Same.l0, if_pos (by omega), if_pos (by omega), if_pos (by omega)]
  have h0 := loop _ 0 rfl (Nat.zero_le _)
  refine Ev.step (Ev.step (F := fun k => chalklineref11_Same.j0 k ((l.length : Int) != (l.length : Int)) a b c l a b c l) h0 (fun k => ?_)) (fun k => ?_)
  · rw [chalklineref11_Same.j0, if_neg (by simp)]; rfl
  · show chalklineref11_Same.f (k + 1) a b c l a b c l = _
    rw [chalklineref11_Same.f, if_pos rfl, if_pos rfl, if_pos rfl]

end Go.Proofs.YtphegiohkggddaaDoor.PF

namespace Go.Proofs.YtphegiohkggddaaDoor.PF
open Go.RowKit Go.Proofs.YtphegiohkggddaaDoorW.PrintWords Go.Proofs.YtphegiohkggddaaDoorW.PrintLast Go.Proofs.YtphegiohkggddaaDoorW.PrintMore
set_option linter.unusedVariables false
set_option linter.unusedSimpArgs false

set_option maxHeartbeats 4000000 in
theorem RCheck_calls (t : S24) (A0 : Option Addr) (c0 : Nat) (w : World) (hC : k24.C w A0 t.f3.length t.f3) (hc0 : t.f3.length ≤ c0) (hn : (nodesT t).length < 1099511627776) :
    Calls Tryd.prog 32 #[.agg #[.int .i64 t.f0, .int .i64 t.f1, .int .i64 t.f2, .slice A0 t.f3.length c0], .int .i64 65536] w fun e w' => e = .returned (.int .i64 (check_val 65536 t)) ∧ Below w.heap.size w w' := by
  have hu24 := Tryd.underlying24
  obtain ⟨w0, hw0⟩ : ∃ w0, w.alloc (.cells #[.int .i64 t.f0, .int .i64 t.f1, .int .i64 t.f2, .slice A0 t.f3.length c0] 24) = w0 := ⟨_, rfl⟩
  have hb0 : Below w.heap.size w w0 := by rw [← hw0]; exact (Below.refl w.heap.size w).alloc (Nat.le_refl _) _
  have hx0 : TBox w0 w.heap.size t A0 c0 := by rw [← hw0]; exact World.alloc_heap_new w _
  have e0 : w0.cell? ⟨w.heap.size, 0, none⟩ = some (.int .i64 t.f0) := hx0.e0
  have e1 : w0.cell? ⟨w.heap.size, 1, none⟩ = some (.int .i64 t.f1) := hx0.e1
  have e2 : w0.cell? ⟨w.heap.size, 2, none⟩ = some (.int .i64 t.f2) := hx0.e2
  have e3 : w0.cell? ⟨w.heap.size, 3, none⟩ = some (.slice A0 t.f3.length c0) := hx0.e3
  have km := may_at 65536 t A0 c0 w0 (Kd.C_below hC hb0) hc0
  obtain ⟨kz, hkz⟩ := (Size_ev t hn).got
  obtain ⟨r, hr⟩ : ∃ r, check_val 65536 t = r := ⟨_, rfl⟩
  rw [hr]
  rw [check_eq 65536 t (by decide) (by decide) (by omega)] at hr
  generalize hN : (nodesT t).length = N at hr hkz hn
  generalize hM : (nodesT t).all (formedB 65536) = M at hr km
  have HR := Lib.hid hr
  have HB0 := Lib.hid hb0
  have HX0 := Lib.hid hx0
  have HC := Lib.hid hC
  have KM := Lib.hid km
  have HZ := Lib.hid hkz
  clear hb0 hx0 hC hr km hkz hN hM
  go_enter Tryd.func32, Tryd.ntmps32
  go_wp2_with fail
  refine KM.out.mono ?_
  rintro e w2 ⟨rfl, hb2⟩
  have HX2 := Lib.hid (HX0.out.below hb2)
  have HB2 := Lib.hid (below_step HB0.out hb2)
  clear hb2 HX0 KM e0 e1 e2 e3
  cases M with
  | false =>
    have hr : r = 1 := HR.out.symm
    subst hr
    go_wp2
    go_ret
    exact ⟨rfl, HB2.out⟩
  | true =>
    have e0 := HX2.out.e0
    have e1 := HX2.out.e1
    have e2 := HX2.out.e2
    have e3 := HX2.out.e3
    have k := chalklineref11_Size.calls kz t.f0 t.f1 t.f2 A0 c0 t.f3 (N : Int) w2 (Kd.C_below HC.out HB2.out) hc0 HZ.out
    have K := Lib.hid k
    clear k
    by_cases hN : 65536 < N
    · have hr : r = 2 := by have := HR.out; rw [if_pos rfl, if_pos hN] at this; exact this.symm
      subst hr
      have hz : (65536 : Int) < (N : Int) := by omega
      go_wp2_with fail
      refine K.out.mono ?_
      rintro e w3 ⟨rfl, hb3⟩
      go_wp2
      go_ret
      exact ⟨rfl, below_step HB2.out hb3⟩
    · have hr : r = 0 := by have := HR.out; rw [if_pos rfl, if_neg hN] at this; exact this.symm
      subst hr
      have hz : ¬ (65536 : Int) < (N : Int) := by omega
      go_wp2_with fail
      refine K.out.mono ?_
      rintro e w3 ⟨rfl, hb3⟩
      go_wp2
      go_ret
      exact ⟨rfl, below_step HB2.out hb3⟩

set_option maxHeartbeats 4000000 in
theorem RSimple_calls (t : S24) (P : Nat → Prop) (A : Option Addr) (c : Nat) (w : World) (hV : Kd.V k24 24 w w.heap.size P (.slice A t.f3.length c) t.f3) (hL : Laid w) (hn : (nodesT t).length < 1099511627776) (ks : Nat) (hfit : check_val 65536 t = 0 → chalklineref11_simple.f ks t.f0 t.f1 t.f2 t.f3 = some (tup (made_val t))) :
    Calls Tryd.prog 16 #[.agg #[.int .i64 t.f0, .int .i64 t.f1, .int .i64 t.f2, .slice A t.f3.length c]] w fun e w' => ∃ v3 : Value, e = .returned (.agg #[.int .i64 (simple_val t).f0, .int .i64 (simple_val t).f1, .int .i64 (simple_val t).f2, v3]) ∧ Kd.V k24 24 w' w.heap.size (fun k => P k ∨ w.heap.size ≤ k) v3 (simple_val t).f3 ∧ Below w.heap.size w w' := by
  have hu24 := Tryd.underlying24
  generalize hr0 : simple_val t = r
  obtain ⟨w0, hw0⟩ : ∃ w0, (w.alloc (.cells #[.int .i64 t.f0, .int .i64 t.f1, .int .i64 t.f2, .slice A t.f3.length c] 24)).alloc (.cells #[.int .i64 0, .int .i64 0, .int .i64 0, .slice none 0 0] 24) = w0 := ⟨_, rfl⟩
  obtain ⟨hs0, hb0, hL0, hq1, hq2⟩ := made_boxes t.f0 t.f1 t.f2 A t.f3.length c w hL hw0
  have HV := Lib.hid (Kd.V_bound hV)
  have k := RCheck_calls t A c w0 (Kd.C_below (Kd.V_reads' hV).2.2 hb0) (Kd.V_reads' hV).2.1 hn
  have HFIT := Lib.hid hfit
  have HR0 := Lib.hid hr0
  have HB0 := Lib.hid hb0
  have HL0 := Lib.hid hL0
  have HQ1 := Lib.hid hq1
  have HQ2 := Lib.hid hq2
  have e0 : w0.cell? ⟨w.heap.size, 0, none⟩ = some (.int .i64 t.f0) := (blk_cell hq1 0).trans rfl
  have e1 : w0.cell? ⟨w.heap.size, 1, none⟩ = some (.int .i64 t.f1) := (blk_cell hq1 1).trans rfl
  have e2 : w0.cell? ⟨w.heap.size, 2, none⟩ = some (.int .i64 t.f2) := (blk_cell hq1 2).trans rfl
  have e3 : w0.cell? ⟨w.heap.size, 3, none⟩ = some (.slice A t.f3.length c) := (blk_cell hq1 3).trans rfl
  clear hV hfit hr0 hb0 hL0 hq1 hq2 hL
  by_cases hc : check_val 65536 t = 0
  · rw [hc] at k
    have hr := HR0.out
    rw [simple_val, if_pos hc] at hr
    have HFM := Lib.hid (HFIT.out hc)
    have HRM := Lib.hid hr
    clear hr HFIT HR0 hc
    have K := Lib.hid k
    clear k
    go_enter Tryd.func16, Tryd.ntmps16
    go_wp2_with fail
    refine K.out.mono ?_
    rintro e w2 ⟨rfl, hb2⟩
    have hs2 := hb2.size
    have HW2 := Lib.hid (below_step HB0.out hb2)
    have hp := (hb2.block _ (by omega)).trans HQ1.out
    have HQ2' := Lib.hid ((hb2.block _ (by omega)).trans HQ2.out)
    have g0 : w2.cell? ⟨w.heap.size, 0, none⟩ = some (.int .i64 t.f0) := (blk_cell hp 0).trans rfl
    have g1 : w2.cell? ⟨w.heap.size, 1, none⟩ = some (.int .i64 t.f1) := (blk_cell hp 1).trans rfl
    have g2 : w2.cell? ⟨w.heap.size, 2, none⟩ = some (.int .i64 t.f2) := (blk_cell hp 2).trans rfl
    have g3 : w2.cell? ⟨w.heap.size, 3, none⟩ = some (.slice A t.f3.length c) := (blk_cell hp 3).trans rfl
    have k2 := chalklineref11_simple.calls ks t.f0 t.f1 t.f2 (fun k => P k ∧ k < w.heap.size) A c t.f3 r.f0 r.f1 r.f2 r.f3 w2 (Kd.V_map (Kd.V_below HV.out HW2.out) (fun _ hf => hf)) (by rw [← HRM.out]; exact HFM.out)
    have K2 := Lib.hid k2
    clear k2 hp hb2 e0 e1 e2 e3
    go_wp2_with (first | (go_at_call 33; refine K2.out.mono ?_; rintro e w8 ⟨v8, rfl, hV8, hb8⟩; obtain ⟨A8, c8, hv8⟩ := Kd.V_slice hV8; subst hv8; have hw8 := below_step HW2.out hb8; have q8 := (hb8.block _ (by omega)).trans HQ2'.out; have z0 : w8.cell? ⟨w.heap.size + 1, 0, none⟩ = some (.int .i64 0) := (blk_cell q8 0).trans rfl; have y0 := blk_frozen q8 0; have z1 : w8.cell? ⟨w.heap.size + 1, 1, none⟩ = some (.int .i64 0) := (blk_cell q8 1).trans rfl; have y1 := blk_frozen q8 1; have z2 : w8.cell? ⟨w.heap.size + 1, 2, none⟩ = some (.int .i64 0) := (blk_cell q8 2).trans rfl; have y2 := blk_frozen q8 2; have z3 : w8.cell? ⟨w.heap.size + 1, 3, none⟩ = some (.slice none 0 0) := (blk_cell q8 3).trans rfl; have y3 := blk_frozen q8 3))
    refine bodyPost_ret (results_cell_row rfl _ _ (w.heap.size + 1) 24 #[.int .i64 r.f0, .int .i64 r.f1, .int .i64 r.f2, .slice A8 r.f3.length c8] (0, 0) _ rfl (four_blk _ _ _ _ q8) Tryd.underlying24 rfl (by kernel_rfl)) rfl ?_
    exact ⟨_, rfl, Kd.V_mono (four_V _ _ _ _ (base := w.heap.size) hV8 (fun k hk => hk.elim (fun h => by have := h.2; omega) (fun h => by omega))) (fun k hk => hk.elim (fun h => .inl h.1) (fun h => .inr (by omega))), four_below _ _ _ _ hw8 (by omega)⟩
  · have hr := HR0.out
    rw [simple_val, if_neg hc] at hr
    have hcb : (check_val 65536 t != 0) = true := bne_iff_ne.2 hc
    have HRM := Lib.hid hr
    clear hr HFIT HR0 hc
    generalize check_val 65536 t = x at k hcb
    have K := Lib.hid k
    clear k
    go_enter Tryd.func16, Tryd.ntmps16
    go_wp2_with fail
    refine K.out.mono ?_
    rintro e w2 ⟨rfl, hb2⟩
    have hs2 := hb2.size
    have HW2 := Lib.hid (below_step HB0.out hb2)
    have q8 := (hb2.block _ (by omega)).trans HQ2.out
    have z0 : w2.cell? ⟨w.heap.size + 1, 0, none⟩ = some (.int .i64 0) := (blk_cell q8 0).trans rfl
    have y0 := blk_frozen q8 0
    have z1 : w2.cell? ⟨w.heap.size + 1, 1, none⟩ = some (.int .i64 0) := (blk_cell q8 1).trans rfl
    have y1 := blk_frozen q8 1
    have z2 : w2.cell? ⟨w.heap.size + 1, 2, none⟩ = some (.int .i64 0) := (blk_cell q8 2).trans rfl
    have y2 := blk_frozen q8 2
    have z3 : w2.cell? ⟨w.heap.size + 1, 3, none⟩ = some (.slice none 0 0) := (blk_cell q8 3).trans rfl
    have y3 := blk_frozen q8 3
    have HQ8 := Lib.hid q8
    clear q8 hb2 e0 e1 e2 e3
    go_wp2
    rw [← HRM.out]
    refine bodyPost_ret (results_cell_row rfl _ _ (w.heap.size + 1) 24 #[.int .i64 0, .int .i64 0, .int .i64 0, .slice none 0 0] (0, 0) _ rfl (four_blk _ _ _ _ HQ8.out) Tryd.underlying24 rfl (by kernel_rfl)) rfl ?_
    exact ⟨_, rfl, Kd.V_nil _ _ _ _ _, four_below _ _ _ _ HW2.out (by omega)⟩

end Go.Proofs.YtphegiohkggddaaDoor.PF

namespace Go.Proofs.YtphegiohkggddaaDoor.PF
open Go.RowKit Go.Proofs.YtphegiohkggddaaDoorW.PrintWords Go.Proofs.YtphegiohkggddaaDoorW.PrintLast Go.Proofs.YtphegiohkggddaaDoorW.PrintMore
set_option linter.unusedVariables false
set_option linter.unusedSimpArgs false

set_option maxHeartbeats 4000000 in
theorem simplifies_walk (t : S24) (A0 : Option Addr) (c0 : Nat) (w : World) (hC : k24.C w A0 t.f3.length t.f3) (hc0 : t.f3.length ≤ c0) (hL : Laid w) (hn : (nodesT t).length < 1099511627776)
    (kf : Nat) (b : Bool) (hfew : chalklinelaw11_few.f kf t.f0 t.f1 t.f2 t.f3 [] = some b) (hfit : check_val 65536 t = 0 → made_fit t = true) (ks : Nat) (hks : check_val 65536 t = 0 → chalklineref11_simple.f ks t.f0 t.f1 t.f2 t.f3 = some (tup (made_val t)))
    (kq : Nat) (hkq : chalklineref11_Same.f kq (simple_val t).f0 (simple_val t).f1 (simple_val t).f2 (simple_val t).f3 (simple_val t).f0 (simple_val t).f1 (simple_val t).f2 (simple_val t).f3 = some true) :
    Calls Tryd.prog 4 #[.agg #[.int .i64 t.f0, .int .i64 t.f1, .int .i64 t.f2, .slice A0 t.f3.length c0]] w fun e w' => e = .returned (.bool true) ∧ Below w.heap.size w w' := by
  have hu24 := Tryd.underlying24
  have hb0 := (Below.refl w.heap.size w).alloc (Nat.le_refl _) (.cells #[.int .i64 t.f0, .int .i64 t.f1, .int .i64 t.f2, .slice A0 t.f3.length c0] 24)
  have hx0 : TBox (w.alloc (.cells #[.int .i64 t.f0, .int .i64 t.f1, .int .i64 t.f2, .slice A0 t.f3.length c0] 24)) w.heap.size t A0 c0 := World.alloc_heap_new w _
  have HB0 := Lib.hid hb0
  have HX0 := Lib.hid hx0
  have HL := Lib.hid (hL.below hb0)
  have HC := Lib.hid hC
  have HL0 := Lib.hid hL
  have HFIT := Lib.hid hfit
  have HKS := Lib.hid hks
  have HKQ := Lib.hid hkq
  clear hb0 hx0 hL hC hfit hks hkq
  go_enter Tryd.func4, Tryd.ntmps4
  go_wp2_with fail
  refine (live_walk _ HL.out).mono ?_
  rintro e w2 ⟨rfl, hb2⟩
  have HX2 := Lib.hid (HX0.out.below hb2)
  have HB2 := Lib.hid (below_step HB0.out hb2)
  clear hb2 HB0 HX0 HL
  have e0 := HX2.out.e0
  have e1 := HX2.out.e1
  have e2 := HX2.out.e2
  have e3 := HX2.out.e3
  have kfew := chalklinelaw11_few.calls kf t.f0 t.f1 t.f2 A0 c0 t.f3 none 0 [] b w2 (Kd.C_below HC.out HB2.out) hc0 (by first | exact Kd.C_nil _ _ | exact Kd.C_nil | (refine Kd.C_of_reads (h1 := fun _ => rfl) (d := false) ⟨rfl, by decide, fun h => absurd h (by decide)⟩)) (Nat.le_refl 0) hfew
  replace kfew : Calls Tryd.prog 11 #[.agg #[.int .i64 t.f0, .int .i64 t.f1, .int .i64 t.f2, .slice A0 t.f3.length c0], .slice none 0 0] w2 _ := kfew
  have KF := Lib.hid kfew
  clear kfew hfew
  go_wp2_with fail
  refine KF.out.mono ?_
  rintro e w3 ⟨rfl, hb3⟩
  have HX3 := Lib.hid (HX2.out.below hb3)
  have HB3 := Lib.hid (below_step HB2.out hb3)
  clear hb3 HX2 HB2 e0 e1 e2 e3 KF
  cases b with
  | false =>
    go_wp2
    go_ret
    exact ⟨rfl, HB3.out⟩
  | true =>
    have k1 : ∀ W, Below w3.heap.size w3 W → Calls Tryd.prog 15 #[.agg #[.int .i64 t.f0, .int .i64 t.f1, .int .i64 t.f2, .slice A0 t.f3.length c0]] W fun e w' => ∃ A2 c2, e = .returned (.agg #[.int .i64 (simple_val t).f0, .int .i64 (simple_val t).f1, .int .i64 (simple_val t).f2, .slice A2 (simple_val t).f3.length c2]) ∧ (simple_val t).f3.length ≤ c2 ∧ k24.C w' A2 (simple_val t).f3.length (simple_val t).f3 ∧ Below W.heap.size W w' := by
      intro W hW
      refine (Simple_calls t _ A0 c0 W (V_of_C (Kd.C_below (Kd.C_below HC.out HB3.out) hW) hc0 _) ((HL0.out.below HB3.out).below hW) HFIT.out).mono ?_
      rintro e w' ⟨v3, rfl, hV, hb⟩
      obtain ⟨A2, c2, rfl⟩ := Kd.V_slice hV
      exact ⟨A2, c2, rfl, (Kd.V_reads' hV).2.1, (Kd.V_reads' hV).2.2, hb⟩
    have k2 : ∀ W, Below w3.heap.size w3 W → Calls Tryd.prog 16 #[.agg #[.int .i64 t.f0, .int .i64 t.f1, .int .i64 t.f2, .slice A0 t.f3.length c0]] W fun e w' => ∃ A2 c2, e = .returned (.agg #[.int .i64 (simple_val t).f0, .int .i64 (simple_val t).f1, .int .i64 (simple_val t).f2, .slice A2 (simple_val t).f3.length c2]) ∧ (simple_val t).f3.length ≤ c2 ∧ k24.C w' A2 (simple_val t).f3.length (simple_val t).f3 ∧ Below W.heap.size W w' := by
      intro W hW
      refine (RSimple_calls t _ A0 c0 W (V_of_C (Kd.C_below (Kd.C_below HC.out HB3.out) hW) hc0 _) ((HL0.out.below HB3.out).below hW) hn ks HKS.out).mono ?_
      rintro e w' ⟨v3, rfl, hV, hb⟩
      obtain ⟨A2, c2, rfl⟩ := Kd.V_slice hV
      exact ⟨A2, c2, rfl, (Kd.V_reads' hV).2.1, (Kd.V_reads' hV).2.2, hb⟩
    have k3 := HKQ.out
    clear HKQ HKS HFIT
    generalize simple_val t = x at k1 k2 k3
    have K1 := Lib.hid k1
    have K2 := Lib.hid k2
    have K3 := Lib.hid k3
    clear k1 k2 k3
    have hes := HX3.out.es
    go_wp2
    go_region_held3 (fun W => W.cell? ⟨w.heap.size, 0, none⟩ = some (.int .i64 t.f0) ∧ W.cell? ⟨w.heap.size, 1, none⟩ = some (.int .i64 t.f1) ∧ W.cell? ⟨w.heap.size, 2, none⟩ = some (.int .i64 t.f2) ∧ W.cell? ⟨w.heap.size, 3, none⟩ = some (.slice A0 t.f3.length c0)) (first | exact (HX3.out.below HB6.out).es | exact (HX3.out.below HB5.out).es | exact (HX3.out.below HB4.out).es | exact hes | go_keep)
      (first
        | (go_at_call 15; refine (K1.out _ (by repeat (first | exact Below.refl _ _ | apply pw_below_drewN | apply below_drew1))).mono ?_; clear K1; rintro e w4 ⟨A2, c2, rfl, hl2, hC2, hb⟩; have HB4 : Hid (Below w3.heap.size w3 w4) := Lib.hid (below_step (by repeat (first | exact Below.refl _ _ | apply pw_below_drewN | apply below_drew1)) hb); have HC4 := Lib.hid hC2; have HR4 := Lib.hid (Below.refl w4.heap.size w4); clear hb hC2)
        | (go_at_call 16; refine (K2.out _ (by repeat (first | exact HB4.out | apply pw_below_drewN | apply below_drew1))).mono ?_; clear K2; rintro e w5 ⟨A3, c3, rfl, hl3, hC3, hb⟩; have HB5 : Hid (Below w3.heap.size w3 w5) := Lib.hid (below_step (by repeat (first | exact HB4.out | apply pw_below_drewN | apply below_drew1)) hb); have HB45 : Hid (Below w4.heap.size w4 w5) := Lib.hid (below_step (by repeat (first | exact HR4.out | apply pw_below_drewN | apply below_drew1)) hb); have HC5 := Lib.hid hC3; have HR5 := Lib.hid (Below.refl w5.heap.size w5); clear hb hC3)
        | (go_at_call 14; refine (chalklineref11_Same.calls kq x.f0 x.f1 x.f2 A2 c2 x.f3 x.f0 x.f1 x.f2 A3 c3 x.f3 true _ (Kd.C_below HC4.out (by repeat (first | exact HB45.out | apply pw_below_drewN | apply below_drew1))) hl2 (Kd.C_below HC5.out (by repeat (first | exact HR5.out | apply pw_below_drewN | apply below_drew1))) hl3 K3.out).mono ?_; rintro e w6 ⟨rfl, hb⟩; have HB6 : Hid (Below w3.heap.size w3 w6) := Lib.hid (below_step (by repeat (first | exact HB5.out | apply pw_below_drewN | apply below_drew1)) hb); clear hb))
    go_wp2
    go_ret
    exact ⟨by simp, below_step HB3.out HB6.out⟩

end Go.Proofs.YtphegiohkggddaaDoor.PF

namespace Go.Proofs.YtphegiohkggddaaDoor.PF
open Go.RowKit Go.Proofs.YtphegiohkggddaaDoorW.PrintWords
set_option linter.unusedVariables false

theorem simplifies_all (t : S24) (A0 : Option Addr) (c0 : Nat) (w : World) (hC : k24.C w A0 t.f3.length t.f3) (hc0 : t.f3.length ≤ c0) (hn : (nodesT t).length ≤ 1048576) (hL : Laid w) :
    Calls Tryd.prog 4 #[.agg #[.int .i64 t.f0, .int .i64 t.f1, .int .i64 t.f2, .slice A0 t.f3.length c0]] w fun e w' => e = .returned (.bool true) ∧ Below w.heap.size w w' := by
  have hf := fitB_of_nodes t (by omega)
  obtain ⟨b, he, _⟩ := few_ev t [] hf
  obtain ⟨kf, hkf⟩ := he.got
  have hz : (nodesT (simple_val t)).length < 1099511627776 := by
    unfold simple_val
    by_cases hc : check_val 65536 t = 0
    · rw [if_pos hc]
      obtain ⟨g1, g2, g3, g4, g5, g6, g7⟩ := simple_good (by omega) hc
      omega
    · rw [if_neg hc]
      decide
  obtain ⟨kq, hkq⟩ := (Same_ev (simple_val t) hz).got
  by_cases hc : check_val 65536 t = 0
  · obtain ⟨g1, g2, g3, g4, g5, g6, g7⟩ := simple_good (by omega) hc
    obtain ⟨ks, hks⟩ := (simple_ev 65536 t g1 (by omega)).got
    exact simplifies_walk t A0 c0 w hC hc0 hL (by omega) kf b hkf (fun _ => g3) ks (fun _ => hks) kq hkq
  · exact simplifies_walk t A0 c0 w hC hc0 hL (by omega) kf b hkf (fun h => absurd h hc) 0 (fun h => absurd h hc) kq hkq

end Go.Proofs.YtphegiohkggddaaDoor.PF
