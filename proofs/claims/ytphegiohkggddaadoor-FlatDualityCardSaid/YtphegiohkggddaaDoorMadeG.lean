/- flat.made answers what 'made_val' says. -/
import Derived.Test.YtphegiohkggddaaDoorMadeP
namespace Go.Proofs.YtphegiohkggddaaDoor.PF
open Go.RowKit Go.Proofs.YtphegiohkggddaaDoorW.PrintWords Go.Proofs.YtphegiohkggddaaDoorW.PrintLast Go.Proofs.YtphegiohkggddaaDoorW.PrintMore
set_option linter.unusedVariables false
set_option linter.unusedSimpArgs false

/-- The claim, at one tree. -/
def MadeAt (t : S24) : Prop :=
  ∀ (P : Nat → Prop) (A : Option Addr) (c : Nat) (w : World), Kd.V k24 24 w w.heap.size P (.slice A t.f3.length c) t.f3 → Laid w → made_fit t = true →
    Calls Tryd.prog 31 #[.agg #[.int .i64 t.f0, .int .i64 t.f1, .int .i64 t.f2, .slice A t.f3.length c]] w fun e w' => ∃ v3 : Value, e = .returned (.agg #[.int .i64 (made_val t).f0, .int .i64 (made_val t).f1, .int .i64 (made_val t).f2, v3]) ∧ Kd.V k24 24 w' w.heap.size (fun k => P k ∨ w.heap.size ≤ k) v3 (made_val t).f3 ∧ Below w.heap.size w w'

/-- The world behind the two boxes. -/
theorem made_boxes (a b c : Int) (A : Option Addr) (n cc : Nat) (w : World) (hL : Laid w) {w0 : World} (h : (w.alloc (.cells #[.int .i64 a, .int .i64 b, .int .i64 c, .slice A n cc] 24)).alloc (.cells #[.int .i64 0, .int .i64 0, .int .i64 0, .slice none 0 0] 24) = w0) :
    w0.heap.size = w.heap.size + 2 ∧ Below w.heap.size w w0 ∧ Laid w0 ∧ w0.heap[w.heap.size]? = some (.cells #[.int .i64 a, .int .i64 b, .int .i64 c, .slice A n cc] 24 (0, 0)) ∧ w0.heap[w.heap.size + 1]? = some (.cells #[.int .i64 0, .int .i64 0, .int .i64 0, .slice none 0 0] 24 (0, 0)) := by
  subst h
  have hb := ((Below.refl w.heap.size w).alloc (Nat.le_refl _) (.cells #[.int .i64 a, .int .i64 b, .int .i64 c, .slice A n cc] 24)).alloc (by simp) (.cells #[.int .i64 0, .int .i64 0, .int .i64 0, .slice none 0 0] 24)
  exact ⟨by simp, hb, hL.below hb, alloc_lt (by simp) (alloc_at (by simp)), alloc_at (by simp)⟩

set_option maxHeartbeats 8000000 in
theorem made_at : ∀ t, MadeAt t := by
  refine S24_ind fun a b c l ih => ?_
  intro P A cc w hV hL hfit
  replace hV : Kd.V k24 24 w w.heap.size P (.slice A l.length cc) l := hV
  show Calls Tryd.prog 31 #[.agg #[.int .i64 a, .int .i64 b, .int .i64 c, .slice A l.length cc]] w _
  rw [made_val_eq]
  rw [made_fit_eq, Bool.and_eq_true, Bool.and_eq_true, decide_eq_true_eq] at hfit
  obtain ⟨⟨hroom, hfits⟩, hnode⟩ := hfit
  have hu24 := Tryd.underlying24
  generalize hres0 : node_val a b c l (l.map made_val) = r
  have HRES0 := Lib.hid hres0
  clear hres0
  obtain ⟨w0, hw0⟩ : ∃ w0, (w.alloc (.cells #[.int .i64 a, .int .i64 b, .int .i64 c, .slice A l.length cc] 24)).alloc (.cells #[.int .i64 0, .int .i64 0, .int .i64 0, .slice none 0 0] 24) = w0 := ⟨_, rfl⟩
  obtain ⟨hs0, hb0, hL0, hq1, hq2⟩ := made_boxes a b c A l.length cc w hL hw0
  have HC := Lib.hid (Kd.V_reads' hV).2.2
  have hbig := (Kd.V_reads' hV).2.2.2.1
  have HV := Lib.hid hV
  have HI := Lib.hid ih
  have HF := Lib.hid hfits
  have HN := Lib.hid hnode
  have HR := Lib.hid hroom
  have HB0 := Lib.hid hb0
  have HL0 := Lib.hid hL0
  have HQ1 := Lib.hid hq1
  have HQ2 := Lib.hid hq2
  have HS0 := Lib.hid hs0
  clear hV ih hfits hnode hroom hb0 hL0 hq1 hq2 hs0 hL
  have e3 : w0.cell? ⟨w.heap.size, 3, none⟩ = some (.slice A l.length cc) := (blk_cell HQ1.out 3).trans rfl
  go_enter Tryd.func31, Tryd.ntmps31
  go_wp2
  try simp only [hw0]
  clear hw0 e3
  have hs0 := HS0.out
  go_loopg [3, 12] l.length (fun gg s3 s12 wr => ∃ kk : Nat, kk ≤ l.length ∧ l.length - kk ≤ gg ∧ s12 = .int .i64 kk ∧ Aside0 (Below w0.heap.size w0 wr) ∧ Aside0 (Kd.N k24 24 wr w0.heap.size (fun k => (P k ∨ w.heap.size ≤ k) ∧ k ≠ w.heap.size ∧ k ≠ w.heap.size + 1) s3 ((l.take kk).map made_val)))
  case atStart => exact ⟨0, Nat.zero_le _, by omega, rfl, ⟨Below.refl _ _⟩, ⟨Kd.N_nil _ _ _ _ _⟩⟩
  case round =>
    obtain ⟨kk, hkk, hg, rfl, HB3, HN3⟩ := hrel
    by_cases hlt : kk < l.length
    · have hltz : (kk : Int) < (l.length : Int) := by omega
      have hd : (l.take (kk + 1)).map made_val = (l.take kk).map made_val ++ [made_val (rd_T24 l (kk : Int))] := by
        rw [List.take_succ_eq_append_getElem hlt, List.map_append]
        have : rd_T24 l (kk : Int) = l[kk] := by simp [rd_T24, hlt]
        rw [this]
        rfl
      have hll : ((l.take kk).map made_val).length ≤ kk := by rw [List.length_map, List.length_take]; omega
      have hm := rd_mem hlt
      obtain ⟨ad, A3, c3, rfl, hx0, hx1, hx2, hx3, hl3, hi3⟩ := at_T24 HC.out (kk : Int) (by omega) hltz
      obtain ⟨ce, hce, hMe, hcc⟩ := Kd.V_get HV.out z24 (kk : Int) (by omega) hltz
      replace hMe : Kd.FK k24 w P (rd_T24 l (kk : Int)) ce := hMe
      obtain ⟨ua3, uc3, rfl, ul3, ge3⟩ := k24_openF hMe
      have hv3 := hcc 3 _ rfl
      rw [add_field _ _ 3 (by omega)] at hv3
      replace hv3 := Option.some.inj (hv3.symm.trans hx3)
      injection hv3 with hva hvn hvc
      rw [hva] at ge3
      have HG := Lib.hid (Kd.F_bound ge3)
      clear hva hvn hvc ge3 ul3 hcc hce hMe
      have hbw : Below w.heap.size w wr := below_step HB0.out HB3.out
      replace hx0 := (hbw.cell (World.block_lt_of_cell? w _ hx0)).trans hx0
      replace hx1 := (hbw.cell (World.block_lt_of_cell? w _ hx1)).trans hx1
      replace hx2 := (hbw.cell (World.block_lt_of_cell? w _ hx2)).trans hx2
      replace hx3 := (hbw.cell (World.block_lt_of_cell? w _ hx3)).trans hx3
      rw [Int.toNat_natCast] at hx0 hx1 hx2 hx3
      have HIx := Lib.hid (HI.out _ hm)
      have HFx := Lib.hid (made_fits_mem HF.out _ hm)
      generalize rd_T24 l (kk : Int) = y at hx0 hx1 hx2 hx3 hd hl3 hi3 HG HIx HFx
      generalize (l.take kk).map made_val = ys at hd hll HN3
      have HD := Lib.hid hd
      have HLL := Lib.hid hll
      have hbx : Below w0.heap.size w0 (wr.alloc (.cells #[.int .i64 y.f0, .int .i64 y.f1, .int .i64 y.f2, .slice A3 y.f3.length c3] 24)) := HB3.out.alloc HB3.out.size _
      have hbx2 : Below w.heap.size w (wr.alloc (.cells #[.int .i64 y.f0, .int .i64 y.f1, .int .i64 y.f2, .slice A3 y.f3.length c3] 24)) := below_step HB0.out hbx
      have k := HIx.out (fun k => P k ∧ k < w.heap.size) A3 c3 (wr.alloc (.cells #[.int .i64 y.f0, .int .i64 y.f1, .int .i64 y.f2, .slice A3 y.f3.length c3] 24)) (Kd.V_mk hl3 (Kd.F_step HG.out (fun k hk hlt => hbx2.block k hk.2))) (HL0.out.below hbx) HFx.out
      have HB4 := Lib.hid hbx
      have HK := Lib.hid k
      clear k hbx hbx2 hi3 hl3 hm hd hll hbw
      go_wp2_with fail
      refine HK.out.mono ?_
      rintro e w5 ⟨v5, rfl, hV5, hb5⟩
      obtain ⟨A5, c5, rfl⟩ := Kd.V_slice hV5
      have hs4 := HB3.out.size
      have hf5 := k24_mkF w5 _ (made_val y) (Kd.V_at hV5).2.1 (Kd.V_at hV5).2.2
      rw [World.size_alloc] at hf5
      have HF5 := Lib.hid hf5
      have HB5 := Lib.hid (below_step HB4.out hb5)
      have HN5 := Lib.hid (Kd.N_below (Kd.N_alloc HN3.out _) hb5)
      have HLT := Lib.hid (Kd.N_lt HN3.out)
      clear hf5 hV5 hb5
      go_wp2_with (first | ((with_reducible refine gate_builtin (b := .append) (xs := #[.tmp 16, .tmp 19]) rfl ?_); at_builtin; refine Kd.N_append k24 (w0 := w0) w0.heap.size rfl (.tmp 16) (.tmp 19) 22 24 (.agg #[(.int .i64 0), (.int .i64 0), (.int .i64 0), (.slice none 0 0)]) 48 rfl Tryd.underlying22 info24 rfl (by decide) (by omega) u3 ys (made_val y) [.int .i64 (made_val y).f0, .int .i64 (made_val y).f1, .int .i64 (made_val y).f2, .slice A5 (made_val y).f3.length c5] (fun k => (P k ∨ w.heap.size ≤ k) ∧ k ≠ w.heap.size ∧ k ≠ w.heap.size + 1) (fun k => (P k ∧ k < w.heap.size) ∨ wr.heap.size + 1 ≤ k) rfl rfl ?aP ?aK ?aF ?aO ?aB ?aS ?aL ?_; (case aP => exact HF5.out); (case aK => exact fun k hk => ⟨hk.elim (fun h => ⟨.inl h.1, by omega, by omega⟩) (fun h => ⟨.inr (by omega), by omega, by omega⟩), fun he => by have h1 := Kd.N_base HN3.out k he.symm; have h2 := HLT.out k he.symm; rcases hk with h | h <;> omega⟩); (case aF => exact fun k hk => (show (P k ∨ w.heap.size ≤ k) ∧ k ≠ w.heap.size ∧ k ≠ w.heap.size + 1 from by have h1 := HB5.out.size; exact ⟨.inr (by omega), by omega, by omega⟩)); (case aO => exact HN5.out); (case aB => exact HB5.out); (case aS => exact HB5.out.size); (case aL => have h1 := HR.out; have h2 := HLL.out; omega); intro v1 w7 ho hb hg hat; rw [← HD.out] at ho; have HN7 := Aside0.mk ho; have HB7 := Aside0.mk hb; clear ho hb hg hat))
      go_roundg (l.length - (kk + 1))
      case measure => omega
      case rel => exact ⟨kk + 1, by omega, by omega, by go_num, ⟨HB7.out⟩, ⟨HN7.out⟩⟩
    · have hltz : ¬ (kk : Int) < (l.length : Int) := by omega
      have hkk2 : kk = l.length := by omega
      subst hkk2
      have hn := HN3.out
      rw [List.take_length] at hn
      have hml : (l.map made_val).length = l.length := List.length_map ..
      have hnode := HN.out
      have hres := HRES0.out
      clear HRES0
      generalize l.map made_val = m at hn hml hnode hres
      obtain ⟨Am, cm, rfl⟩ := Kd.N_slice hn
      have hmr : m.length < 2932031007402 := by have := HR.out; omega
      have hwr : Below w.heap.size w wr := below_step HB0.out HB3.out
      have hLr := HL0.out.below HB3.out
      have hs1 := HB3.out.size
      have HQ1r := Lib.hid ((HB3.out.block _ (by omega)).trans HQ1.out)
      have HQ2r := Lib.hid ((HB3.out.block _ (by omega)).trans HQ2.out)
      have e0 : wr.cell? ⟨w.heap.size, 0, none⟩ = some (.int .i64 a) := (blk_cell HQ1r.out 0).trans rfl
      have e1 : wr.cell? ⟨w.heap.size, 1, none⟩ = some (.int .i64 b) := (blk_cell HQ1r.out 1).trans rfl
      have e2 : wr.cell? ⟨w.heap.size, 2, none⟩ = some (.int .i64 c) := (blk_cell HQ1r.out 2).trans rfl
      have e3 : wr.cell? ⟨w.heap.size, 3, none⟩ = some (.slice A l.length cc) := (blk_cell HQ1r.out 3).trans rfl
      have HWR := Lib.hid hwr
      have HLR := Lib.hid hLr
      have HM := Lib.hid hn
      have HRES := Lib.hid hres
      have HND := Lib.hid hnode
      have HMR := Lib.hid hmr
      have HML := Lib.hid hml
      have HVM := Lib.hid (Kd.N_V (base' := wr.heap.size) hn)
      clear hwr hLr hn hres hnode hmr hml HN3 HB3 HN
      by_cases h3 : a = 3
      · subst h3
        have hnf : not_fit m = true := HND.out
        have hrv : r = not_val m := HRES.out.symm
        unfold not_fit at hnf
        rw [Bool.and_eq_true, decide_eq_true_eq] at hnf
        obtain ⟨hml0, hnf⟩ := hnf
        have hmz : (0 : Int) < (m.length : Int) := by omega
        unfold not_val at hrv
        obtain ⟨ad, A3, c3, rfl, hx0, hx1, hx2, hx3, hl3, hi3⟩ := at_T24 (Kd.N_reads' HM.out).2.2 0 (by omega) hmz
        obtain ⟨ce, hce, hMe, hcc⟩ := Kd.V_get HVM.out z24 0 (by omega) hmz
        replace hMe : Kd.FK k24 wr _ (rd_T24 m 0) ce := hMe
        obtain ⟨ua3, uc3, rfl, ul3, ge3⟩ := k24_openF hMe
        have hv3 := hcc 3 _ rfl
        rw [add_field _ _ 3 (by omega)] at hv3
        replace hv3 := Option.some.inj (hv3.symm.trans hx3)
        injection hv3 with hva hvn hvc
        rw [hva] at ge3
        have HG := Lib.hid ge3
        clear hva hvn hvc ge3 ul3 hcc hce hMe
        have had : ad.add (Int.toNat 0 * 4) = ad := by first | rfl | simp | (cases ad; simp [Addr.add])
        rw [had] at hx0 hx1 hx2 hx3
        clear had
        generalize rd_T24 m 0 = y at hx0 hx1 hx2 hx3 hl3 hi3 HG hnf hrv
        have hmb := (Kd.N_reads' HM.out).2.2.2.1
        by_cases hy1 : y.f0 = 1
        · rw [if_pos hy1] at hrv
          have HRV := Lib.hid hrv
          clear hrv hnf HRES HND
          have hyb : (y.f0 == 1) = true := beq_iff_eq.2 hy1
          clear hy1
          -- R>
          go_wp2_with (first | (go_at_call 41; refine (flat_constant.calls _ _ _ _ _ _ rfl).mono ?_; rintro e w8 ⟨v8, rfl, hR8, hb8⟩; obtain ⟨B8, c8, hv8, _, _⟩ := Kd.R_reads hR8; subst hv8; have hw8 := below_step HWR.out ((below_alloc (Below.refl _ _) _).trans (hb8.mono (by simp))); have q8 := (hb8.block _ (by simp; omega)).trans (alloc_lt (Array.getElem?_eq_some_iff.1 HQ2r.out).1 HQ2r.out); have z0 : w8.cell? ⟨w.heap.size + 1, 0, none⟩ = some (.int .i64 0) := (blk_cell q8 0).trans rfl; have y0 := blk_frozen q8 0; have z1 : w8.cell? ⟨w.heap.size + 1, 1, none⟩ = some (.int .i64 0) := (blk_cell q8 1).trans rfl; have y1 := blk_frozen q8 1; have z2 : w8.cell? ⟨w.heap.size + 1, 2, none⟩ = some (.int .i64 0) := (blk_cell q8 2).trans rfl; have y2 := blk_frozen q8 2; have z3 : w8.cell? ⟨w.heap.size + 1, 3, none⟩ = some (.slice none 0 0) := (blk_cell q8 3).trans rfl; have y3 := blk_frozen q8 3))
          rw [HRV.out]
          refine bodyPost_ret (results_cell_row rfl _ _ (w.heap.size + 1) 24 #[.int .i64 1, .int .i64 (wrap64 (1 - y.f1)), .int .i64 0, .slice B8 0 c8] (0, 0) _ rfl (four_blk _ _ _ _ q8) Tryd.underlying24 rfl (by kernel_rfl)) rfl ?_
          exact ⟨_, rfl, Kd.V_mk (xs := ([] : List S24)) (c := c8) (Nat.zero_le _) (fun W' _ => ⟨rfl, by decide, fun h => absurd h (by decide)⟩), four_below _ _ _ _ hw8 (by omega)⟩
          -- <R
        · rw [if_neg hy1] at hrv
          have hyb : (y.f0 == 1) = false := beq_eq_false_iff_ne.2 hy1
          clear hy1
          by_cases hy3 : y.f0 = 3
          · rw [if_pos hy3] at hrv hnf
            have hyb3 : (y.f0 == 3) = true := beq_iff_eq.2 hy3
            clear hy3
            have hl0 : (0 : Int) < (y.f3.length : Int) := by have := of_decide_eq_true hnf; omega
            obtain ⟨ad2, A5, c5, rfl, gx0, gx1, gx2, gx3, gl3, gi3⟩ := at_T24 hi3 0 (by omega) hl0
            obtain ⟨ce, hce, hMe, hcc⟩ := Kd.V_get (base := 0) (e := 24) (Kd.V_mk hl3 HG.out) z24 0 (by omega) hl0
            replace hMe : Kd.FK k24 wr _ (rd_T24 y.f3 0) ce := hMe
            obtain ⟨ua3, uc3, rfl, ul3, ge3⟩ := k24_openF hMe
            have hv3 := hcc 3 _ rfl
            rw [add_field _ _ 3 (by omega)] at hv3
            replace hv3 := Option.some.inj (hv3.symm.trans gx3)
            injection hv3 with hva hvn hvc
            rw [hva] at ge3
            have HG2 := Lib.hid ge3
            clear hva hvn hvc ge3 ul3 hcc hce hMe
            have had : ad2.add (Int.toNat 0 * 4) = ad2 := by first | rfl | simp | (cases ad2; simp [Addr.add])
            rw [had] at gx0 gx1 gx2 gx3
            clear had
            generalize rd_T24 y.f3 0 = z at gx0 gx1 gx2 gx3 gl3 gi3 HG2 hrv
            have hib := hi3.2.1
            have HRV := Lib.hid hrv
            have GL3 := Lib.hid gl3
            clear hrv hnf HRES HND gl3 gi3
            have bx : ∀ (o : Obj) (p : Addr) (v : Value), wr.cell? p = some v → (wr.alloc o).cell? p = some v := fun o p v h => (World.cell?_alloc_lt _ _ _ (World.block_lt_of_cell? wr _ h)).trans h
            replace gx0 := bx (.cells #[.int .i64 y.f0, .int .i64 y.f1, .int .i64 y.f2, .slice (some ad2) y.f3.length c3] 24) _ _ gx0
            replace gx1 := bx (.cells #[.int .i64 y.f0, .int .i64 y.f1, .int .i64 y.f2, .slice (some ad2) y.f3.length c3] 24) _ _ gx1
            replace gx2 := bx (.cells #[.int .i64 y.f0, .int .i64 y.f1, .int .i64 y.f2, .slice (some ad2) y.f3.length c3] 24) _ _ gx2
            replace gx3 := bx (.cells #[.int .i64 y.f0, .int .i64 y.f1, .int .i64 y.f2, .slice (some ad2) y.f3.length c3] 24) _ _ gx3
            have q8 := alloc_lt (o := .cells #[.int .i64 y.f0, .int .i64 y.f1, .int .i64 y.f2, .slice (some ad2) y.f3.length c3] 24) (Array.getElem?_eq_some_iff.1 HQ2r.out).1 HQ2r.out
            have z0 : (wr.alloc (.cells #[.int .i64 y.f0, .int .i64 y.f1, .int .i64 y.f2, .slice (some ad2) y.f3.length c3] 24)).cell? ⟨w.heap.size + 1, 0, none⟩ = some (.int .i64 0) := (blk_cell q8 0).trans rfl
            have y0 := blk_frozen q8 0
            have z1 : (wr.alloc (.cells #[.int .i64 y.f0, .int .i64 y.f1, .int .i64 y.f2, .slice (some ad2) y.f3.length c3] 24)).cell? ⟨w.heap.size + 1, 1, none⟩ = some (.int .i64 0) := (blk_cell q8 1).trans rfl
            have y1 := blk_frozen q8 1
            have z2 : (wr.alloc (.cells #[.int .i64 y.f0, .int .i64 y.f1, .int .i64 y.f2, .slice (some ad2) y.f3.length c3] 24)).cell? ⟨w.heap.size + 1, 2, none⟩ = some (.int .i64 0) := (blk_cell q8 2).trans rfl
            have y2 := blk_frozen q8 2
            have z3 : (wr.alloc (.cells #[.int .i64 y.f0, .int .i64 y.f1, .int .i64 y.f2, .slice (some ad2) y.f3.length c3] 24)).cell? ⟨w.heap.size + 1, 3, none⟩ = some (.slice none 0 0) := (blk_cell q8 3).trans rfl
            have y3 := blk_frozen q8 3
            -- R>
            go_wp2
            rw [HRV.out]
            refine bodyPost_ret (results_cell_row rfl _ _ (w.heap.size + 1) 24 #[.int .i64 z.f0, .int .i64 z.f1, .int .i64 z.f2, .slice A5 z.f3.length c5] (0, 0) _ rfl (four_blk _ _ _ _ q8) Tryd.underlying24 rfl (by kernel_rfl)) rfl ?_
            exact ⟨_, rfl, Kd.V_mono (four_V _ _ _ _ (base := w.heap.size) (Kd.V_alloc (Kd.V_mk (e := 24) GL3.out HG2.out) _) (fun k hk => hk.2.2)) (fun k hk => hk.1), four_below _ _ _ _ (HWR.out.alloc HWR.out.size _) (by omega)⟩
            -- <R
          · rw [if_neg hy3] at hrv
            have hyb3 : (y.f0 == 3) = false := beq_eq_false_iff_ne.2 hy3
            clear hy3
            have HRV := Lib.hid hrv
            clear hrv hnf HRES HND
            have q8 := alloc_lt (o := .cells #[.int .i64 y.f0, .int .i64 y.f1, .int .i64 y.f2, .slice A3 y.f3.length c3] 24) (Array.getElem?_eq_some_iff.1 HQ2r.out).1 HQ2r.out
            have p8 := alloc_lt (o := .cells #[.int .i64 y.f0, .int .i64 y.f1, .int .i64 y.f2, .slice A3 y.f3.length c3] 24) (Array.getElem?_eq_some_iff.1 HQ1r.out).1 HQ1r.out
            have x0 : (wr.alloc (.cells #[.int .i64 y.f0, .int .i64 y.f1, .int .i64 y.f2, .slice A3 y.f3.length c3] 24)).cell? ⟨w.heap.size, 0, none⟩ = some (.int .i64 3) := (blk_cell p8 0).trans rfl
            have z0 : (wr.alloc (.cells #[.int .i64 y.f0, .int .i64 y.f1, .int .i64 y.f2, .slice A3 y.f3.length c3] 24)).cell? ⟨w.heap.size + 1, 0, none⟩ = some (.int .i64 0) := (blk_cell q8 0).trans rfl
            have y0 := blk_frozen q8 0
            have z1 : (wr.alloc (.cells #[.int .i64 y.f0, .int .i64 y.f1, .int .i64 y.f2, .slice A3 y.f3.length c3] 24)).cell? ⟨w.heap.size + 1, 1, none⟩ = some (.int .i64 0) := (blk_cell q8 1).trans rfl
            have y1 := blk_frozen q8 1
            have z2 : (wr.alloc (.cells #[.int .i64 y.f0, .int .i64 y.f1, .int .i64 y.f2, .slice A3 y.f3.length c3] 24)).cell? ⟨w.heap.size + 1, 2, none⟩ = some (.int .i64 0) := (blk_cell q8 2).trans rfl
            have y2 := blk_frozen q8 2
            have z3 : (wr.alloc (.cells #[.int .i64 y.f0, .int .i64 y.f1, .int .i64 y.f2, .slice A3 y.f3.length c3] 24)).cell? ⟨w.heap.size + 1, 3, none⟩ = some (.slice none 0 0) := (blk_cell q8 3).trans rfl
            have y3 := blk_frozen q8 3
            -- R>
            go_wp2
            rw [HRV.out]
            refine bodyPost_ret (results_cell_row rfl _ _ (w.heap.size + 1) 24 #[.int .i64 3, .int .i64 0, .int .i64 0, .slice (some ad) m.length cm] (0, 0) _ rfl (four_blk _ _ _ _ q8) Tryd.underlying24 rfl (by kernel_rfl)) rfl ?_
            exact ⟨_, rfl, Kd.V_mono (four_V _ _ _ _ (base := w.heap.size) (Kd.V_alloc HVM.out _) (fun k hk => hk.2.2)) (fun k hk => hk.1), four_below _ _ _ _ (HWR.out.alloc HWR.out.size _) (by omega)⟩
            -- <R
      by_cases h4 : a = 4
      · subst h4
        have HFJ := Lib.hid (show join_fit 4 m = true from HND.out)
        have hrv : r = join_val 4 m := HRES.out.symm
        have HRV := Lib.hid hrv
        clear hrv HRES HND h3
        have k := join_calls 4 (by omega) (fun k => (P k ∨ w.heap.size ≤ k) ∧ k ≠ w.heap.size ∧ k ≠ w.heap.size + 1) Am cm m wr HVM.out HLR.out HMR.out (of_decide_eq_true HFJ.out)
        rw [← HRV.out] at k
        have K := Lib.hid k
        clear k HFJ
        go_wp2_with (first | (go_at_call 42; refine (K.out).mono ?_; rintro e w8 ⟨v8, rfl, hV8, hb8⟩; obtain ⟨A8, c8, hv8⟩ := Kd.V_slice hV8; subst hv8; have hw8 := below_step HWR.out hb8; have q8 := (hb8.block _ (by omega)).trans HQ2r.out; have z0 : w8.cell? ⟨w.heap.size + 1, 0, none⟩ = some (.int .i64 0) := (blk_cell q8 0).trans rfl; have y0 := blk_frozen q8 0; have z1 : w8.cell? ⟨w.heap.size + 1, 1, none⟩ = some (.int .i64 0) := (blk_cell q8 1).trans rfl; have y1 := blk_frozen q8 1; have z2 : w8.cell? ⟨w.heap.size + 1, 2, none⟩ = some (.int .i64 0) := (blk_cell q8 2).trans rfl; have y2 := blk_frozen q8 2; have z3 : w8.cell? ⟨w.heap.size + 1, 3, none⟩ = some (.slice none 0 0) := (blk_cell q8 3).trans rfl; have y3 := blk_frozen q8 3))
        refine bodyPost_ret (results_cell_row rfl _ _ (w.heap.size + 1) 24 #[.int .i64 r.f0, .int .i64 r.f1, .int .i64 r.f2, .slice A8 r.f3.length c8] (0, 0) _ rfl (four_blk _ _ _ _ q8) Tryd.underlying24 rfl (by kernel_rfl)) rfl ?_
        exact ⟨_, rfl, Kd.V_mono (four_V _ _ _ _ (base := w.heap.size) hV8 (fun k hk => hk.elim (fun h => h.2.2) (fun h => by omega))) (fun k hk => hk.elim (fun h => h.1) (fun h => .inr (by omega))), four_below _ _ _ _ hw8 (by omega)⟩
      by_cases h5 : a = 5
      · subst h5
        have HFJ := Lib.hid (show join_fit 5 m = true from HND.out)
        have hrv : r = join_val 5 m := HRES.out.symm
        have HRV := Lib.hid hrv
        clear hrv HRES HND h3 h4
        have k := join_calls 5 (by omega) (fun k => (P k ∨ w.heap.size ≤ k) ∧ k ≠ w.heap.size ∧ k ≠ w.heap.size + 1) Am cm m wr HVM.out HLR.out HMR.out (of_decide_eq_true HFJ.out)
        rw [← HRV.out] at k
        have K := Lib.hid k
        clear k HFJ
        go_wp2_with (first | (go_at_call 42; refine (K.out).mono ?_; rintro e w8 ⟨v8, rfl, hV8, hb8⟩; obtain ⟨A8, c8, hv8⟩ := Kd.V_slice hV8; subst hv8; have hw8 := below_step HWR.out hb8; have q8 := (hb8.block _ (by omega)).trans HQ2r.out; have z0 : w8.cell? ⟨w.heap.size + 1, 0, none⟩ = some (.int .i64 0) := (blk_cell q8 0).trans rfl; have y0 := blk_frozen q8 0; have z1 : w8.cell? ⟨w.heap.size + 1, 1, none⟩ = some (.int .i64 0) := (blk_cell q8 1).trans rfl; have y1 := blk_frozen q8 1; have z2 : w8.cell? ⟨w.heap.size + 1, 2, none⟩ = some (.int .i64 0) := (blk_cell q8 2).trans rfl; have y2 := blk_frozen q8 2; have z3 : w8.cell? ⟨w.heap.size + 1, 3, none⟩ = some (.slice none 0 0) := (blk_cell q8 3).trans rfl; have y3 := blk_frozen q8 3))
        refine bodyPost_ret (results_cell_row rfl _ _ (w.heap.size + 1) 24 #[.int .i64 r.f0, .int .i64 r.f1, .int .i64 r.f2, .slice A8 r.f3.length c8] (0, 0) _ rfl (four_blk _ _ _ _ q8) Tryd.underlying24 rfl (by kernel_rfl)) rfl ?_
        exact ⟨_, rfl, Kd.V_mono (four_V _ _ _ _ (base := w.heap.size) hV8 (fun k hk => hk.elim (fun h => h.2.2) (fun h => by omega))) (fun k hk => hk.elim (fun h => h.1) (fun h => .inr (by omega))), four_below _ _ _ _ hw8 (by omega)⟩
      by_cases h6 : a = 6
      · subst h6
        have hnf : (join_fit 4 (m.filter fun x => x.f0 != 1) && join_fit 5 (m.filter fun x => x.f0 != 1)) = true := HND.out
        rw [Bool.and_eq_true] at hnf
        have hrv : r = least2_val (wrap64 (c - ((m.filter oneB).length : Int))) (m.filter fun x => x.f0 != 1) := HRES.out.symm
        have k1 : ∀ W', Below wr.heap.size wr W' → Calls Tryd.prog 30 #[.slice Am m.length cm, .func (.func 43) #[] #[]] W' fun e w' => ∃ Av cv, e = .returned (.slice Av (m.filter oneB).length cv) ∧ Below W'.heap.size W' w' :=
          fun W' hW => (kept_calls 43 #[] oneB eg43 _ Am cm m W' (Kd.V_map (Kd.V_below HVM.out hW) (fun _ hf => hf)) (pred_one m W') HMR.out).mono (by
            rintro e w' ⟨v, rfl, hN, hb⟩
            obtain ⟨Av, cv, rfl⟩ := Kd.N_slice hN
            exact ⟨Av, cv, rfl, hb⟩)
        have k2 : ∀ W', Below wr.heap.size wr W' → Calls Tryd.prog 30 #[.slice Am m.length cm, .func (.func 45) #[] #[]] W' fun e w' => ∃ v : Value, e = .returned v ∧ Kd.N k24 24 w' W'.heap.size (fun k => ((P k ∨ w.heap.size ≤ k) ∧ k ≠ w.heap.size ∧ k ≠ w.heap.size + 1) ∨ W'.heap.size ≤ k) v (m.filter fun x => x.f0 != 1) ∧ Below W'.heap.size W' w' :=
          fun W' hW => kept_calls 45 #[] (fun x => x.f0 != 1) eg45 _ Am cm m W' (Kd.V_map (Kd.V_below HVM.out hW) (fun _ hf => hf)) (pred_open m W') HMR.out
        have hrl : (m.filter fun x => x.f0 != 1).length < 2932031007402 := Nat.lt_of_le_of_lt (List.length_filter_le _ _) HMR.out
        have hmb := (Kd.N_reads' HM.out).2.2.2.1
        have hnl : (m.filter oneB).length ≤ 9223372036854775807 := Nat.le_trans (List.length_filter_le _ _) hmb
        generalize (m.filter fun x => x.f0 != 1) = rs at hnf hrv k2 hrl
        generalize (m.filter oneB).length = n1 at hrv k1 hnl
        have HRV := Lib.hid hrv
        have HF4 := Lib.hid hnf.1
        have HF5 := Lib.hid hnf.2
        have K1 := Lib.hid k1
        have K2 := Lib.hid k2
        have HRL := Lib.hid hrl
        clear hrv HRES HND h3 h4 h5 k1 k2 hrl hnf
        go_wp2
        go_region_held3 (fun w' => w'.cell? ⟨w.heap.size, 2, none⟩ = some (.int .i64 c)) (first | exact r3 | go_keep) (first | (go_at_call 30; refine (K1.out _ (Below.refl _ _).drew).mono ?_; rintro e w5 ⟨Av, cv, rfl, hb5⟩; have r3 : w5.cell? ⟨w.heap.size, 2, none⟩ = some (.int .i64 c) := (hb5.cell (p := ⟨w.heap.size, 2, none⟩) (show w.heap.size < wr.heap.size by omega)).trans e2; have hb5' := (Below.refl wr.heap.size wr).drew.trans hb5; clear hb5; have H5 := Lib.hid hb5'; clear hb5'))
        clear e0 e1 e2 e3
        go_wp2_with fail
        refine (K2.out _ H5.out).mono ?_
        rintro e w6 ⟨v6, rfl, hN6, hb6⟩
        obtain ⟨A6, c6, rfl⟩ := Kd.N_slice hN6
        have hw6 : Below wr.heap.size wr w6 := below_step H5.out hb6
        have hs6 := hw6.size
        have hs65 := H5.out.size
        have HQ6 := Lib.hid ((hw6.block _ (by omega)).trans HQ2r.out)
        have HP6 := Lib.hid ((hw6.block _ (by omega)).trans HQ1r.out)
        have HW6 := Lib.hid (below_step HWR.out hw6)
        have HL6 := Lib.hid (HLR.out.below hw6)
        have hV6 := Kd.N_V (base' := w6.heap.size) hN6
        have HV6 := Lib.hid (Kd.V_mono (ok' := fun k => (P k ∨ w.heap.size ≤ k) ∧ k ≠ w.heap.size ∧ k ≠ w.heap.size + 1) hV6 (fun k hk => hk.elim (fun h => h) (fun h => ⟨.inr (by omega), by omega, by omega⟩)))
        have hrb := (Kd.N_reads' hN6).2.2.2.1
        have hrv := HRV.out
        clear hN6 hb6 hw6 hV6 HRV
        rw [← i64_w] at hrv
        generalize IntKind.i64.wrap (c - (n1 : Int)) = kv at hrv ⊢
        unfold least2_val at hrv
        by_cases hk0 : kv ≤ 0
        · rw [if_pos hk0] at hrv
          have HRV := Lib.hid hrv
          clear hrv
          go_wp2_with (first | (go_at_call 41; refine (flat_constant.calls _ _ _ _ _ _ rfl).mono ?_; rintro e w8 ⟨v8, rfl, hR8, hb8⟩; obtain ⟨B8, c8, hv8, _, _⟩ := Kd.R_reads hR8; subst hv8; have hw8 := below_step HW6.out hb8; have q8 := (hb8.block _ (by omega)).trans HQ6.out; have z0 : w8.cell? ⟨w.heap.size + 1, 0, none⟩ = some (.int .i64 0) := (blk_cell q8 0).trans rfl; have y0 := blk_frozen q8 0; have z1 : w8.cell? ⟨w.heap.size + 1, 1, none⟩ = some (.int .i64 0) := (blk_cell q8 1).trans rfl; have y1 := blk_frozen q8 1; have z2 : w8.cell? ⟨w.heap.size + 1, 2, none⟩ = some (.int .i64 0) := (blk_cell q8 2).trans rfl; have y2 := blk_frozen q8 2; have z3 : w8.cell? ⟨w.heap.size + 1, 3, none⟩ = some (.slice none 0 0) := (blk_cell q8 3).trans rfl; have y3 := blk_frozen q8 3))
          rw [HRV.out]
          refine bodyPost_ret (results_cell_row rfl _ _ (w.heap.size + 1) 24 #[.int .i64 1, .int .i64 1, .int .i64 0, .slice B8 0 c8] (0, 0) _ rfl (four_blk _ _ _ _ q8) Tryd.underlying24 rfl (by kernel_rfl)) rfl ?_
          exact ⟨_, rfl, Kd.V_mk (xs := ([] : List S24)) (c := c8) (Nat.zero_le _) (fun W' _ => ⟨rfl, by decide, fun h => absurd h (by decide)⟩), four_below _ _ _ _ hw8 (by omega)⟩
        rw [if_neg hk0] at hrv
        by_cases hk1 : (rs.length : Int) < kv
        · rw [if_pos hk1] at hrv
          have HRV := Lib.hid hrv
          clear hrv
          go_wp2_with (first | (go_at_call 41; refine (flat_constant.calls _ _ _ _ _ _ rfl).mono ?_; rintro e w8 ⟨v8, rfl, hR8, hb8⟩; obtain ⟨B8, c8, hv8, _, _⟩ := Kd.R_reads hR8; subst hv8; have hw8 := below_step HW6.out hb8; have q8 := (hb8.block _ (by omega)).trans HQ6.out; have z0 : w8.cell? ⟨w.heap.size + 1, 0, none⟩ = some (.int .i64 0) := (blk_cell q8 0).trans rfl; have y0 := blk_frozen q8 0; have z1 : w8.cell? ⟨w.heap.size + 1, 1, none⟩ = some (.int .i64 0) := (blk_cell q8 1).trans rfl; have y1 := blk_frozen q8 1; have z2 : w8.cell? ⟨w.heap.size + 1, 2, none⟩ = some (.int .i64 0) := (blk_cell q8 2).trans rfl; have y2 := blk_frozen q8 2; have z3 : w8.cell? ⟨w.heap.size + 1, 3, none⟩ = some (.slice none 0 0) := (blk_cell q8 3).trans rfl; have y3 := blk_frozen q8 3))
          rw [HRV.out]
          refine bodyPost_ret (results_cell_row rfl _ _ (w.heap.size + 1) 24 #[.int .i64 1, .int .i64 0, .int .i64 0, .slice B8 0 c8] (0, 0) _ rfl (four_blk _ _ _ _ q8) Tryd.underlying24 rfl (by kernel_rfl)) rfl ?_
          exact ⟨_, rfl, Kd.V_mk (xs := ([] : List S24)) (c := c8) (Nat.zero_le _) (fun W' _ => ⟨rfl, by decide, fun h => absurd h (by decide)⟩), four_below _ _ _ _ hw8 (by omega)⟩
        rw [if_neg hk1] at hrv
        by_cases hk2 : kv = (rs.length : Int)
        · rw [if_pos hk2] at hrv
          have hkb2 : (kv == (rs.length : Int)) = true := beq_iff_eq.2 hk2
          have k := join_calls 4 (by omega) (fun k => (P k ∨ w.heap.size ≤ k) ∧ k ≠ w.heap.size ∧ k ≠ w.heap.size + 1) A6 c6 rs w6 HV6.out HL6.out HRL.out (of_decide_eq_true HF4.out)
          rw [← hrv] at k
          have K := Lib.hid k
          clear k hk2 hrv
          go_wp2_with (first | (go_at_call 42; refine (K.out).mono ?_; rintro e w8 ⟨v8, rfl, hV8, hb8⟩; obtain ⟨A8, c8, hv8⟩ := Kd.V_slice hV8; subst hv8; have hw8 := below_step HW6.out hb8; have q8 := (hb8.block _ (by omega)).trans HQ6.out; have z0 : w8.cell? ⟨w.heap.size + 1, 0, none⟩ = some (.int .i64 0) := (blk_cell q8 0).trans rfl; have y0 := blk_frozen q8 0; have z1 : w8.cell? ⟨w.heap.size + 1, 1, none⟩ = some (.int .i64 0) := (blk_cell q8 1).trans rfl; have y1 := blk_frozen q8 1; have z2 : w8.cell? ⟨w.heap.size + 1, 2, none⟩ = some (.int .i64 0) := (blk_cell q8 2).trans rfl; have y2 := blk_frozen q8 2; have z3 : w8.cell? ⟨w.heap.size + 1, 3, none⟩ = some (.slice none 0 0) := (blk_cell q8 3).trans rfl; have y3 := blk_frozen q8 3))
          refine bodyPost_ret (results_cell_row rfl _ _ (w.heap.size + 1) 24 #[.int .i64 r.f0, .int .i64 r.f1, .int .i64 r.f2, .slice A8 r.f3.length c8] (0, 0) _ rfl (four_blk _ _ _ _ q8) Tryd.underlying24 rfl (by kernel_rfl)) rfl ?_
          exact ⟨_, rfl, Kd.V_mono (four_V _ _ _ _ (base := w.heap.size) hV8 (fun k hk => hk.elim (fun h => h.2.2) (fun h => by omega))) (fun k hk => hk.elim (fun h => h.1) (fun h => .inr (by omega))), four_below _ _ _ _ hw8 (by omega)⟩
        rw [if_neg hk2] at hrv
        have hkb2 : (kv == (rs.length : Int)) = false := beq_eq_false_iff_ne.2 hk2
        by_cases hk3 : kv = 1
        · rw [if_pos hk3] at hrv
          have hkb3 : (kv == 1) = true := beq_iff_eq.2 hk3
          have k := join_calls 5 (by omega) (fun k => (P k ∨ w.heap.size ≤ k) ∧ k ≠ w.heap.size ∧ k ≠ w.heap.size + 1) A6 c6 rs w6 HV6.out HL6.out HRL.out (of_decide_eq_true HF5.out)
          rw [← hrv] at k
          have K := Lib.hid k
          clear k hk3 hrv hk2
          go_wp2_with (first | (go_at_call 42; refine (K.out).mono ?_; rintro e w8 ⟨v8, rfl, hV8, hb8⟩; obtain ⟨A8, c8, hv8⟩ := Kd.V_slice hV8; subst hv8; have hw8 := below_step HW6.out hb8; have q8 := (hb8.block _ (by omega)).trans HQ6.out; have z0 : w8.cell? ⟨w.heap.size + 1, 0, none⟩ = some (.int .i64 0) := (blk_cell q8 0).trans rfl; have y0 := blk_frozen q8 0; have z1 : w8.cell? ⟨w.heap.size + 1, 1, none⟩ = some (.int .i64 0) := (blk_cell q8 1).trans rfl; have y1 := blk_frozen q8 1; have z2 : w8.cell? ⟨w.heap.size + 1, 2, none⟩ = some (.int .i64 0) := (blk_cell q8 2).trans rfl; have y2 := blk_frozen q8 2; have z3 : w8.cell? ⟨w.heap.size + 1, 3, none⟩ = some (.slice none 0 0) := (blk_cell q8 3).trans rfl; have y3 := blk_frozen q8 3))
          refine bodyPost_ret (results_cell_row rfl _ _ (w.heap.size + 1) 24 #[.int .i64 r.f0, .int .i64 r.f1, .int .i64 r.f2, .slice A8 r.f3.length c8] (0, 0) _ rfl (four_blk _ _ _ _ q8) Tryd.underlying24 rfl (by kernel_rfl)) rfl ?_
          exact ⟨_, rfl, Kd.V_mono (four_V _ _ _ _ (base := w.heap.size) hV8 (fun k hk => hk.elim (fun h => h.2.2) (fun h => by omega))) (fun k hk => hk.elim (fun h => h.1) (fun h => .inr (by omega))), four_below _ _ _ _ hw8 (by omega)⟩
        rw [if_neg hk3] at hrv
        have hkb3 : (kv == 1) = false := beq_eq_false_iff_ne.2 hk3
        have HRV := Lib.hid hrv
        clear hrv hk2 hk3
        have f0 : w6.cell? ⟨w.heap.size, 0, none⟩ = some (.int .i64 6) := (blk_cell HP6.out 0).trans rfl
        have q8 := HQ6.out
        have z0 : w6.cell? ⟨w.heap.size + 1, 0, none⟩ = some (.int .i64 0) := (blk_cell q8 0).trans rfl
        have y0 := blk_frozen q8 0
        have z1 : w6.cell? ⟨w.heap.size + 1, 1, none⟩ = some (.int .i64 0) := (blk_cell q8 1).trans rfl
        have y1 := blk_frozen q8 1
        have z2 : w6.cell? ⟨w.heap.size + 1, 2, none⟩ = some (.int .i64 0) := (blk_cell q8 2).trans rfl
        have y2 := blk_frozen q8 2
        have z3 : w6.cell? ⟨w.heap.size + 1, 3, none⟩ = some (.slice none 0 0) := (blk_cell q8 3).trans rfl
        have y3 := blk_frozen q8 3
        clear q8
        go_wp2
        rw [HRV.out]
        refine bodyPost_ret (results_cell_row rfl _ _ (w.heap.size + 1) 24 #[.int .i64 6, .int .i64 0, .int .i64 kv, .slice A6 rs.length c6] (0, 0) _ rfl (four_blk _ _ _ _ HQ6.out) Tryd.underlying24 rfl (by kernel_rfl)) rfl ?_
        exact ⟨_, rfl, Kd.V_mono (four_V _ _ _ _ (base := w.heap.size) HV6.out (fun k hk => hk.2.2)) (fun k hk => hk.1), four_below _ _ _ _ HW6.out (by omega)⟩
      · have hrv : r = ⟨a, b, c, l⟩ := by
          have := HRES.out
          unfold node_val at this
          rw [if_neg h3, if_neg h4, if_neg h5, if_neg h6] at this
          exact this.symm
        have HRV := Lib.hid hrv
        clear hrv HRES HND
        have b3 : (a == 3) = false := beq_eq_false_iff_ne.2 h3
        have b4 : (a == 4) = false := beq_eq_false_iff_ne.2 h4
        have b5 : (a == 5) = false := beq_eq_false_iff_ne.2 h5
        have b6 : (a == 6) = false := beq_eq_false_iff_ne.2 h6
        clear h3 h4 h5 h6
        have q8 := HQ2r.out
        have z0 : wr.cell? ⟨w.heap.size + 1, 0, none⟩ = some (.int .i64 0) := (blk_cell q8 0).trans rfl
        have y0 := blk_frozen q8 0
        have z1 : wr.cell? ⟨w.heap.size + 1, 1, none⟩ = some (.int .i64 0) := (blk_cell q8 1).trans rfl
        have y1 := blk_frozen q8 1
        have z2 : wr.cell? ⟨w.heap.size + 1, 2, none⟩ = some (.int .i64 0) := (blk_cell q8 2).trans rfl
        have y2 := blk_frozen q8 2
        have z3 : wr.cell? ⟨w.heap.size + 1, 3, none⟩ = some (.slice none 0 0) := (blk_cell q8 3).trans rfl
        have y3 := blk_frozen q8 3
        clear q8
        go_wp2
        rw [HRV.out]
        refine bodyPost_ret (results_cell_row rfl _ _ (w.heap.size + 1) 24 #[.int .i64 a, .int .i64 b, .int .i64 c, .slice A l.length cc] (0, 0) _ rfl (four_blk _ _ _ _ HQ2r.out) Tryd.underlying24 rfl (by kernel_rfl)) rfl ?_
        exact ⟨_, rfl, Kd.V_mono (four_V _ _ _ _ (base := w.heap.size) (Kd.V_below (Kd.V_bound HV.out) HWR.out) (fun k hk => by have := hk.2; omega)) (fun k hk => .inl hk.1), four_below _ _ _ _ HWR.out (by omega)⟩

end Go.Proofs.YtphegiohkggddaaDoor.PF
