/- The law FlatCompositional answers true. -/
import Derived.Test.YtphegiohkggddaaDoorValuesG
import Derived.Test.YtphegiohkggddaaDoorPureV
namespace Go.Proofs.YtphegiohkggddaaDoor.PF
open Go.RowKit Go.Proofs.YtphegiohkggddaaDoorW.PrintWords Go.Proofs.YtphegiohkggddaaDoorW.PrintLast Go.Proofs.YtphegiohkggddaaDoorW.PrintMore
set_option linter.unusedVariables false
set_option linter.unusedSimpArgs false

set_option maxHeartbeats 8000000 in
theorem comp_walk (l : List S24) (n : Int) (A0 : Option Addr) (c0 : Nat) (w : World) (hC : k24.C w A0 l.length l) (hc0 : l.length ≤ c0) (hL : Laid w)
    (hfew : ∀ x ∈ l, ∃ kf b, chalklineref11_Few.f kf x.f0 x.f1 x.f2 x.f3 = some b ∧ (b = true → (nodesT x).length ≤ 400))
    (hfin : l.length ≤ 10 → 0 ≤ n → n ≤ 65536 → (∀ x ∈ l, (nodesT x).length ≤ 400) → cntW (nodesT ⟨4, 0, 0, l⟩).length = 1 + (nodesL l).length ∧ (nodesT ⟨4, 0, 0, l⟩).length < 1099511627776 ∧ (check_val n ⟨4, 0, 0, l⟩ == 0) = l.all (fun x => check_val n x == 0) ∧ (check_val n ⟨6, 0, 2, l⟩ == 0) = l.all (fun x => check_val n x == 0) ∧ (check_val n ⟨3, 0, 0, l⟩ == 0) = (l.all (fun x => check_val n x == 0) && ((l.length : Int) == 1)) ∧ (l.all (fun x => check_val n x == 0) = true → ∀ v ∈ vars_val ⟨4, 0, 0, l⟩, 1 ≤ v ∧ v ≤ n)) :
    Calls Tryd.prog 9 #[.slice A0 l.length c0, .int .i64 n] w fun e w' => e = .returned (.bool true) ∧ Below w.heap.size w w' := by
  have hu24 := Tryd.underlying24
  have hbig := hC.2.1
  have HC := Lib.hid hC
  have HL := Lib.hid hL
  have HFEW := Lib.hid hfew
  have HFIN := Lib.hid hfin
  clear hL hC hfew hfin
  by_cases h1 : (10 : Int) < (l.length : Int)
  · go_enter Tryd.func9, Tryd.ntmps9
    go_wp2_with fail
    refine (live_walk _ HL.out).mono ?_
    rintro e w2 ⟨rfl, hb2⟩
    go_wp2
    go_ret
    exact ⟨rfl, hb2⟩
  by_cases h2 : n < 0
  · go_enter Tryd.func9, Tryd.ntmps9
    go_wp2_with fail
    refine (live_walk _ HL.out).mono ?_
    rintro e w2 ⟨rfl, hb2⟩
    go_wp2
    go_ret
    exact ⟨rfl, hb2⟩
  by_cases h3 : 65536 < n
  · go_enter Tryd.func9, Tryd.ntmps9
    go_wp2_with fail
    refine (live_walk _ HL.out).mono ?_
    rintro e w2 ⟨rfl, hb2⟩
    go_wp2
    go_ret
    exact ⟨rfl, hb2⟩
  have HK := Lib.hid (And.intro h1 (And.intro h2 h3))
  go_enter Tryd.func9, Tryd.ntmps9
  go_wp2_with fail
  refine (live_walk _ HL.out).mono ?_
  rintro e w2 ⟨rfl, hb2⟩
  have HB2 := Lib.hid hb2
  clear hb2 HL
  go_wp2
  clear h1 h2 h3
  go_loopg [5, 6, 7] l.length (fun gg s5 s6 s7 wr => ∃ kk : Nat, kk ≤ l.length ∧ l.length - kk ≤ gg ∧ s7 = .int .i64 kk ∧ s5 = .int .i64 (1 + ((nodesL (l.take kk)).length : Int)) ∧ s6 = .bool ((l.take kk).all fun x => check_val n x == 0) ∧ Aside0 (Below w2.heap.size w2 wr) ∧ Aside0 (∀ x ∈ l.take kk, (nodesT x).length ≤ 400))
  case atStart => exact ⟨0, Nat.zero_le _, by omega, rfl, by simp [nodesL], by simp, ⟨Below.refl _ _⟩, ⟨by simp⟩⟩
  case round =>
    obtain ⟨kk, hkk, hg, rfl, rfl, rfl, HB3, HS3⟩ := hrel
    have hbw : Below w.heap.size w wr := below_step HB2.out HB3.out
    by_cases hlt : kk < l.length
    · have hltz : (kk : Int) < (l.length : Int) := by omega
      have hm := rd_mem hlt
      have htk : l.take (kk + 1) = l.take kk ++ [rd_T24 l (kk : Int)] := by
        rw [List.take_succ_eq_append_getElem hlt]
        have : rd_T24 l (kk : Int) = l[kk] := by simp [rd_T24, hlt]
        rw [this]
      obtain ⟨kf, b, hfb, hfs⟩ := HFEW.out _ hm
      obtain ⟨ad, A3, c3, rfl, hx0, hx1, hx2, hx3, hl3, hi3⟩ := at_T24 HC.out (kk : Int) (by omega) hltz
      rw [Int.toNat_natCast] at hx0 hx1 hx2 hx3
      generalize rd_T24 l (kk : Int) = y at hx0 hx1 hx2 hx3 hl3 hi3 hfb hfs htk
      have hnl : (nodesL (l.take (kk + 1))).length = (nodesL (l.take kk)).length + (nodesT y).length := by
        rw [htk, nodesL_append, List.length_append]
        simp [nodesL]
      have hall : (l.take (kk + 1)).all (fun x => check_val n x == 0) = ((l.take kk).all (fun x => check_val n x == 0) && (check_val n y == 0)) := by
        rw [htk, List.all_append]
        simp
      have hsm : ∀ L : List S24, (∀ x ∈ L, (nodesT x).length ≤ 400) → (nodesL L).length ≤ 400 * L.length := by
        intro L
        induction L with
        | nil => simp [nodesL]
        | cons x L ih =>
          intro h
          have h1 := h x (List.mem_cons_self ..)
          have h2 := ih fun z hz => h z (List.mem_cons_of_mem _ hz)
          simp only [nodesL, List.length_append, List.length_cons]
          omega
      have hs0 := hsm _ HS3.out
      have htl : (l.take kk).length = kk := by rw [List.length_take]; omega
      rw [htl] at hs0
      have h10 : l.length ≤ 10 := by have := HK.out.1; omega
      have HXw := Lib.hid (And.intro hx0 (And.intro hx1 (And.intro hx2 hx3)))
      have HI := Lib.hid hi3
      have HL3 := Lib.hid hl3
      have HNL := Lib.hid hnl
      have HALL := Lib.hid hall
      have HTK := Lib.hid htk
      have HFS := Lib.hid hfs
      replace hx0 := (hbw.cell (World.block_lt_of_cell? w _ hx0)).trans hx0
      replace hx1 := (hbw.cell (World.block_lt_of_cell? w _ hx1)).trans hx1
      replace hx2 := (hbw.cell (World.block_lt_of_cell? w _ hx2)).trans hx2
      replace hx3 := (hbw.cell (World.block_lt_of_cell? w _ hx3)).trans hx3
      have kf1 := chalklineref11_Few.calls kf y.f0 y.f1 y.f2 A3 c3 y.f3 b wr (Kd.C_below hi3 hbw) hl3 hfb
      have KF := Lib.hid kf1
      clear hi3 hl3 kf1 hfb hm hsm htl hnl hall htk hfs
      generalize hN : (nodesL (l.take kk)).length = N at HNL hs0
      generalize hM : (l.take kk).all (fun x => check_val n x == 0) = M at HALL
      go_wp2_with fail
      refine KF.out.mono ?_
      rintro e w4 ⟨rfl, hb4⟩
      clear KF
      cases b with
      | false =>
        go_wp2
        go_ret
        exact ⟨rfl, below_step hbw hb4⟩
      | true =>
        have hn4 := HFS.out rfl
        have hcw : cntW (nodesT y).length = ((nodesT y).length : Int) := cntW_eq _ (by omega)
        have HBW4 := Lib.hid (below_step hbw hb4)
        have HB4 := Lib.hid (below_step HB3.out hb4)
        clear hx0 hx1 hx2 hx3 hb4
        have hx0 := (HBW4.out.cell (World.block_lt_of_cell? w _ HXw.out.1)).trans HXw.out.1
        have hx1 := (HBW4.out.cell (World.block_lt_of_cell? w _ HXw.out.2.1)).trans HXw.out.2.1
        have hx2 := (HBW4.out.cell (World.block_lt_of_cell? w _ HXw.out.2.2.1)).trans HXw.out.2.2.1
        have hx3 := (HBW4.out.cell (World.block_lt_of_cell? w _ HXw.out.2.2.2)).trans HXw.out.2.2.2
        have ks := Size_calls y A3 c3 w4 (Kd.C_below HI.out HBW4.out) HL3.out
        rw [hcw] at ks
        have HS4 : Aside0 (∀ x ∈ l.take (kk + 1), (nodesT x).length ≤ 400) := ⟨by
          rw [HTK.out]
          intro x hx
          rcases List.mem_append.1 hx with h | h
          · exact HS3.out x h
          · rw [List.mem_singleton.1 h]; exact hn4⟩
        generalize hNy : (nodesT y).length = Ny at ks HNL hn4
        have KS := Lib.hid ks
        clear ks hcw
        go_wp2_with fail
        refine KS.out.mono ?_
        rintro e w5 ⟨rfl, hb5⟩
        have HBW5 := Lib.hid (below_step HBW4.out hb5)
        have HB5 := Lib.hid (below_step HB4.out hb5)
        clear hx0 hx1 hx2 hx3 hb5 KS
        have hx0 := (HBW5.out.cell (World.block_lt_of_cell? w _ HXw.out.1)).trans HXw.out.1
        have hx1 := (HBW5.out.cell (World.block_lt_of_cell? w _ HXw.out.2.1)).trans HXw.out.2.1
        have hx2 := (HBW5.out.cell (World.block_lt_of_cell? w _ HXw.out.2.2.1)).trans HXw.out.2.2.1
        have hx3 := (HBW5.out.cell (World.block_lt_of_cell? w _ HXw.out.2.2.2)).trans HXw.out.2.2.2
        have kc := Check_calls y n A3 c3 w5 (Kd.C_below HI.out HBW5.out) HL3.out
        have KC := Lib.hid kc
        clear kc
        cases M with
        | true =>
          go_wp2_with fail
          refine KC.out.mono ?_
          rintro e w6 ⟨rfl, hb6⟩
          go_wp2
          go_roundg (l.length - (kk + 1))
          case measure => omega
          case rel => exact ⟨kk + 1, by omega, by omega, by go_num, by rw [HNL.out]; first | (congr 1; omega) | (simp; omega), by rw [HALL.out]; simp, ⟨below_step HB5.out hb6⟩, HS4⟩
        | false =>
          go_wp2
          go_roundg (l.length - (kk + 1))
          case measure => omega
          case rel => exact ⟨kk + 1, by omega, by omega, by go_num, by rw [HNL.out]; first | (congr 1; omega) | (simp; omega), by rw [HALL.out]; simp, ⟨HB5.out⟩, HS4⟩
    · have hltz : ¬ (kk : Int) < (l.length : Int) := by omega
      have hkk2 : kk = l.length := by omega
      subst hkk2
      have hs := HS3.out
      rw [List.take_length] at hs ⊢
      obtain ⟨f1, f2, f3, f4, f5, f6⟩ := HFIN.out (by have := HK.out.1; omega) (by have := HK.out.2.1; omega) (by have := HK.out.2.2; omega) hs
      have hstep := vars_step ⟨4, 0, 0, l⟩
      have hN : (nodesL l).length < 1099511627776 := by simp only [nodesT, List.length_cons] at f2; omega
      generalize (l.all fun x => check_val n x == 0) = M at f3 f4 f5 f6
      generalize (nodesL l).length = N at f1 hN
      have F1 := Lib.hid f1
      have F2 := Lib.hid f2
      have F3 := Lib.hid f3
      have F4 := Lib.hid f4
      have F5 := Lib.hid f5
      have F6 := Lib.hid f6
      have HST := Lib.hid hstep
      have HBW := Lib.hid hbw
      clear f1 f2 f3 f4 f5 f6 hstep hs hbw HS3 HB3
      go_wp2_with fail
      refine (of_calls 4 0 A0 l.length c0 _).mono ?_
      rintro e y1 ⟨rfl, hb⟩
      have HB1 := Lib.hid ((below_step HBW.out hb).trans (((Below.refl y1.heap.size y1).alloc (Nat.le_refl _) (.cells #[.int .i64 4, .int .i64 0, .int .i64 0, .slice A0 l.length c0] 24)).mono (below_step HBW.out hb).size))
      have TX : Hid (TBox (y1.alloc (.cells #[.int .i64 4, .int .i64 0, .int .i64 0, .slice A0 l.length c0] 24)) y1.heap.size ⟨4, 0, 0, l⟩ A0 c0) := Lib.hid (World.alloc_heap_new y1 _)
      clear hb
      go_wp2_with fail
      refine (Vars_calls ⟨4, 0, 0, l⟩ A0 c0 _ (Kd.C_below HC.out HB1.out) hc0 F2.out).mono ?_
      rintro e y2 ⟨A2, c2, rfl, hl2, hC2, hb⟩
      have HB2' := Lib.hid (below_step HB1.out hb)
      have TX2 := Lib.hid (TX.out.below hb)
      have HV := Lib.hid hC2
      have hvb := hC2.2.1
      clear hb hC2 TX HB1
      generalize vars_val ⟨4, 0, 0, l⟩ = vs at hl2 hvb HV HST F6
      have HL2 := Lib.hid hl2
      clear hl2
      go_wp2
      go_loopg [10] vs.length (fun gg s10 wq => ∃ j : Nat, j ≤ vs.length ∧ vs.length - j ≤ gg ∧ s10 = .int .i64 ((j : Int) + 1) ∧ Aside0 (Below y2.heap.size y2 wq))
      case atStart => exact ⟨0, Nat.zero_le _, by omega, by simp, ⟨Below.refl _ _⟩⟩
      case round =>
        obtain ⟨j, hj, hg, rfl, HB4⟩ := hrel
        by_cases hlt : j + 1 < vs.length
        · have hltz : (j : Int) + 1 < (vs.length : Int) := by omega
          have hst := HST.out j hlt
          obtain ⟨av, rfl, hv1⟩ := Kd.at_int (Kd.C_below HV.out HB4.out) (j : Int) (by omega) (by omega)
          obtain ⟨aw, haw, hv2⟩ := Kd.at_int (Kd.C_below HV.out HB4.out) ((j : Int) + 1) (by omega) (by omega)
          obtain rfl := Option.some.inj haw
          rw [Int.toNat_natCast] at hv1
          rw [show ((j : Int) + 1).toNat = j + 1 by omega] at hv2
          have hv3 := hv2
          rw [show av.add (j + 1) = ⟨av.block, av.off + (j + 1), none⟩ from by simp [Addr.add]] at hv3
          generalize rd vs (j : Int) = p at hv1 hst
          generalize rd vs ((j : Int) + 1) = q at hv2 hv3 hst
          have hqp : ¬ q ≤ p := by omega
          have hj0 : (0 : Int) ≤ (j : Int) := by omega
          have HVV := Lib.hid (And.intro hv1 hv2)
          clear hst
          go_wp2
          have hqd : decide (q ≤ p) = false := decide_eq_false (by omega)
          have hj1 : (j : Int) < (vs.length : Int) := by omega
          have hj2 : (0 : Int) ≤ (j : Int) + 1 := by omega
          have hwj : IntKind.i64.wrap (j : Int) = (j : Int) := (i64_w _).trans (wrap_id (by omega) (by omega))
          clear hqp
          go_quiet (fail)
          go_wp2
          go_roundg (vs.length - (j + 1))
          case measure => omega
          case rel => exact ⟨j + 1, by omega, by omega, by go_num, ⟨by first | exact HB4.out | exact below_drew1 HB4.out | exact pw_below_drewN HB4.out _⟩⟩
        · have hltz : ¬ (j : Int) + 1 < (vs.length : Int) := by omega
          have HBq := Lib.hid (below_step HB2'.out HB4.out)
          have TXq := Lib.hid (TX2.out.below HB4.out)
          go_wp2_with fail
          refine (of_calls 3 0 A0 l.length c0 _).mono ?_
          rintro e z1 ⟨rfl, hb⟩
          have HBz := Lib.hid ((below_step HBq.out hb).trans (((Below.refl z1.heap.size z1).alloc (Nat.le_refl _) (.cells #[.int .i64 3, .int .i64 0, .int .i64 0, .slice A0 l.length c0] 24)).mono (below_step HBq.out hb).size))
          have TXz := Lib.hid ((TXq.out.below hb).below ((Below.refl z1.heap.size z1).alloc (Nat.le_refl _) (.cells #[.int .i64 3, .int .i64 0, .int .i64 0, .slice A0 l.length c0] 24)))
          have TY : Hid (TBox (z1.alloc (.cells #[.int .i64 3, .int .i64 0, .int .i64 0, .slice A0 l.length c0] 24)) z1.heap.size ⟨3, 0, 0, l⟩ A0 c0) := Lib.hid (World.alloc_heap_new z1 _)
          have HBv := Lib.hid ((below_step HB4.out hb).trans (((Below.refl z1.heap.size z1).alloc (Nat.le_refl _) (.cells #[.int .i64 3, .int .i64 0, .int .i64 0, .slice A0 l.length c0] 24)).mono (below_step HB4.out hb).size))
          clear hb HBq TXq HB4
          have e0 : (z1.alloc (.cells #[.int .i64 3, .int .i64 0, .int .i64 0, .slice A0 l.length c0] 24)).cell? ⟨y1.heap.size, 0, none⟩ = some (.int .i64 4) := TXz.out.e0
          have e1 : (z1.alloc (.cells #[.int .i64 3, .int .i64 0, .int .i64 0, .slice A0 l.length c0] 24)).cell? ⟨y1.heap.size, 1, none⟩ = some (.int .i64 0) := TXz.out.e1
          have e2 : (z1.alloc (.cells #[.int .i64 3, .int .i64 0, .int .i64 0, .slice A0 l.length c0] 24)).cell? ⟨y1.heap.size, 2, none⟩ = some (.int .i64 0) := TXz.out.e2
          have e3 : (z1.alloc (.cells #[.int .i64 3, .int .i64 0, .int .i64 0, .slice A0 l.length c0] 24)).cell? ⟨y1.heap.size, 3, none⟩ = some (.slice A0 l.length c0) := TXz.out.e3
          have ks := F1.out ▸ Size_calls ⟨4, 0, 0, l⟩ A0 c0 (z1.alloc (.cells #[.int .i64 3, .int .i64 0, .int .i64 0, .slice A0 l.length c0] 24)) (Kd.C_below HC.out HBz.out) hc0
          have KS := Lib.hid ks
          clear ks
          go_wp2_with fail
          refine KS.out.mono ?_
          rintro e z2 ⟨rfl, hb⟩
          clear e0 e1 e2 e3 KS
          have HBz' := Lib.hid (below_step HBz.out hb)
          have TXz' := Lib.hid (TXz.out.below hb)
          have TY' := Lib.hid (TY.out.below hb)
          have HBv' := Lib.hid (below_step HBv.out hb)
          clear HBz TXz TY HBv hb
          have HBz := HBz'
          have TXz := TXz'
          have TY := TY'
          have HBv := HBv'
          clear HBz' TXz' TY' HBv'
          have e0 : (z2).cell? ⟨y1.heap.size, 0, none⟩ = some (.int .i64 4) := TXz.out.e0
          have e1 : (z2).cell? ⟨y1.heap.size, 1, none⟩ = some (.int .i64 0) := TXz.out.e1
          have e2 : (z2).cell? ⟨y1.heap.size, 2, none⟩ = some (.int .i64 0) := TXz.out.e2
          have e3 : (z2).cell? ⟨y1.heap.size, 3, none⟩ = some (.slice A0 l.length c0) := TXz.out.e3
          have k1 := Check_calls ⟨4, 0, 0, l⟩ n A0 c0 z2 (Kd.C_below HC.out HBz.out) hc0
          obtain ⟨d1, hd1⟩ : ∃ d, check_val n ⟨4, 0, 0, l⟩ = d := ⟨_, rfl⟩
          obtain ⟨d2, hd2⟩ : ∃ d, check_val n ⟨6, 0, 2, l⟩ = d := ⟨_, rfl⟩
          obtain ⟨d3, hd3⟩ : ∃ d, check_val n ⟨3, 0, 0, l⟩ = d := ⟨_, rfl⟩
          have g1 := F3.out
          have g2 := F4.out
          have g3 := F5.out
          rw [hd1] at g1 k1
          rw [hd2] at g2
          rw [hd3] at g3
          have HD2 := Lib.hid hd2
          have HD3 := Lib.hid hd3
          have K1 := Lib.hid k1
          clear k1 hd1 hd2 hd3 F3 F4 F5 F1
          have HM : M = true ∨ M = false := by cases M <;> simp
          have HV0 : vs.length = 0 ∨ 0 < vs.length := by omega
          rcases HM with rfl | rfl
          · by_cases hl1 : (l.length : Int) = 1
            · have g4 : ((l.length : Int) == 1) = true := beq_iff_eq.2 hl1
              rw [g4] at g3
              replace g3 : (d3 == 0) = true := g3
              clear hl1
              rcases HV0 with hv0 | hv0
              · have hv0b : ((vs.length : Int) == 0) = true := beq_iff_eq.2 (by omega)
                go_wp2_with fail
                refine K1.out.mono ?_
                rintro e z3 ⟨rfl, hb⟩
                clear e0 e1 e2 e3 K1
                have HBz' := Lib.hid (below_step HBz.out hb)
                have TXz' := Lib.hid (TXz.out.below hb)
                have TY' := Lib.hid (TY.out.below hb)
                have HBv' := Lib.hid (below_step HBv.out hb)
                clear HBz TXz TY HBv hb
                have HBz := HBz'
                have TXz := TXz'
                have TY := TY'
                have HBv := HBv'
                clear HBz' TXz' TY' HBv'
                go_wp2_with fail
                refine (of_calls 6 2 A0 l.length c0 _).mono ?_
                rintro e z4 ⟨rfl, hb⟩
                have HBz' := Lib.hid (below_step HBz.out hb)
                have TXz' := Lib.hid (TXz.out.below hb)
                have TY' := Lib.hid (TY.out.below hb)
                have HBv' := Lib.hid (below_step HBv.out hb)
                clear HBz TXz TY HBv hb
                have HBz := HBz'
                have TXz := TXz'
                have TY := TY'
                have HBv := HBv'
                clear HBz' TXz' TY' HBv'
                have k2 := HD2.out ▸ Check_calls ⟨6, 0, 2, l⟩ n A0 c0 z4 (Kd.C_below HC.out HBz.out) hc0
                have K2 := Lib.hid k2
                clear k2
                go_wp2_with fail
                refine K2.out.mono ?_
                rintro e z5 ⟨rfl, hb⟩
                have HBz' := Lib.hid (below_step HBz.out hb)
                have TXz' := Lib.hid (TXz.out.below hb)
                have TY' := Lib.hid (TY.out.below hb)
                have HBv' := Lib.hid (below_step HBv.out hb)
                clear HBz TXz TY HBv hb
                have HBz := HBz'
                have TXz := TXz'
                have TY := TY'
                have HBv := HBv'
                clear HBz' TXz' TY' HBv'
                clear K2
                have x0 : (z5).cell? ⟨z1.heap.size, 0, none⟩ = some (.int .i64 3) := TY.out.e0
                have x1 : (z5).cell? ⟨z1.heap.size, 1, none⟩ = some (.int .i64 0) := TY.out.e1
                have x2 : (z5).cell? ⟨z1.heap.size, 2, none⟩ = some (.int .i64 0) := TY.out.e2
                have x3 : (z5).cell? ⟨z1.heap.size, 3, none⟩ = some (.slice A0 l.length c0) := TY.out.e3
                have k3 := HD3.out ▸ Check_calls ⟨3, 0, 0, l⟩ n A0 c0 z5 (Kd.C_below HC.out HBz.out) hc0
                have K3 := Lib.hid k3
                clear k3
                go_wp2_with fail
                refine K3.out.mono ?_
                rintro e z6 ⟨rfl, hb⟩
                have HBz' := Lib.hid (below_step HBz.out hb)
                have TXz' := Lib.hid (TXz.out.below hb)
                have TY' := Lib.hid (TY.out.below hb)
                have HBv' := Lib.hid (below_step HBv.out hb)
                clear HBz TXz TY HBv hb
                have HBz := HBz'
                have TXz := TXz'
                have TY := TY'
                have HBv := HBv'
                clear HBz' TXz' TY' HBv'
                clear K3 x0 x1 x2 x3
                go_wp2
                go_ret
                exact ⟨rfl, HBz.out⟩
              · have hv0b : ((vs.length : Int) == 0) = false := beq_eq_false_iff_ne.2 (by omega)
                go_wp2_with fail
                refine K1.out.mono ?_
                rintro e z3 ⟨rfl, hb⟩
                clear e0 e1 e2 e3 K1
                have HBz' := Lib.hid (below_step HBz.out hb)
                have TXz' := Lib.hid (TXz.out.below hb)
                have TY' := Lib.hid (TY.out.below hb)
                have HBv' := Lib.hid (below_step HBv.out hb)
                clear HBz TXz TY HBv hb
                have HBz := HBz'
                have TXz := TXz'
                have TY := TY'
                have HBv := HBv'
                clear HBz' TXz' TY' HBv'
                go_wp2_with fail
                refine (of_calls 6 2 A0 l.length c0 _).mono ?_
                rintro e z4 ⟨rfl, hb⟩
                have HBz' := Lib.hid (below_step HBz.out hb)
                have TXz' := Lib.hid (TXz.out.below hb)
                have TY' := Lib.hid (TY.out.below hb)
                have HBv' := Lib.hid (below_step HBv.out hb)
                clear HBz TXz TY HBv hb
                have HBz := HBz'
                have TXz := TXz'
                have TY := TY'
                have HBv := HBv'
                clear HBz' TXz' TY' HBv'
                have k2 := HD2.out ▸ Check_calls ⟨6, 0, 2, l⟩ n A0 c0 z4 (Kd.C_below HC.out HBz.out) hc0
                have K2 := Lib.hid k2
                clear k2
                go_wp2_with fail
                refine K2.out.mono ?_
                rintro e z5 ⟨rfl, hb⟩
                have HBz' := Lib.hid (below_step HBz.out hb)
                have TXz' := Lib.hid (TXz.out.below hb)
                have TY' := Lib.hid (TY.out.below hb)
                have HBv' := Lib.hid (below_step HBv.out hb)
                clear HBz TXz TY HBv hb
                have HBz := HBz'
                have TXz := TXz'
                have TY := TY'
                have HBv := HBv'
                clear HBz' TXz' TY' HBv'
                clear K2
                have x0 : (z5).cell? ⟨z1.heap.size, 0, none⟩ = some (.int .i64 3) := TY.out.e0
                have x1 : (z5).cell? ⟨z1.heap.size, 1, none⟩ = some (.int .i64 0) := TY.out.e1
                have x2 : (z5).cell? ⟨z1.heap.size, 2, none⟩ = some (.int .i64 0) := TY.out.e2
                have x3 : (z5).cell? ⟨z1.heap.size, 3, none⟩ = some (.slice A0 l.length c0) := TY.out.e3
                have k3 := HD3.out ▸ Check_calls ⟨3, 0, 0, l⟩ n A0 c0 z5 (Kd.C_below HC.out HBz.out) hc0
                have K3 := Lib.hid k3
                clear k3
                go_wp2_with fail
                refine K3.out.mono ?_
                rintro e z6 ⟨rfl, hb⟩
                have HBz' := Lib.hid (below_step HBz.out hb)
                have TXz' := Lib.hid (TXz.out.below hb)
                have TY' := Lib.hid (TY.out.below hb)
                have HBv' := Lib.hid (below_step HBv.out hb)
                clear HBz TXz TY HBv hb
                have HBz := HBz'
                have TXz := TXz'
                have TY := TY'
                have HBv := HBv'
                clear HBz' TXz' TY' HBv'
                clear K3 x0 x1 x2 x3
                obtain ⟨av, rfl, hv1⟩ := Kd.at_int (Kd.C_below HV.out HBv.out) 0 (by omega) (by omega)
                obtain ⟨aw, haw, hv2⟩ := Kd.at_int (Kd.C_below HV.out HBv.out) ((vs.length : Int) - 1) (by omega) (by omega)
                obtain rfl := Option.some.inj haw
                rw [show av.add (Int.toNat 0) = av from by first | rfl | simp | (cases av; simp [Addr.add])] at hv1
                have r1 := (F6.out (by first | rfl | trivial) _ (rd_in (show 0 < vs.length by omega))).1
                have r2 := (F6.out (by first | rfl | trivial) _ (rd_in (show vs.length - 1 < vs.length by omega))).2
                rw [show ((0 : Nat) : Int) = 0 from rfl] at r1
                rw [show ((vs.length - 1 : Nat) : Int) = (vs.length : Int) - 1 by omega] at r2
                generalize rd vs 0 = p at hv1 r1
                generalize rd vs ((vs.length : Int) - 1) = q at hv2 r2
                have hvp : (0 : Int) < (vs.length : Int) := by omega
                have hvq : (0 : Int) ≤ (vs.length : Int) - 1 := by omega
                have hvr : (vs.length : Int) - 1 < (vs.length : Int) := by omega
                rw [show ((vs.length : Int) - 1).toNat = vs.length - 1 by omega] at hv2
                go_wp2
                go_ret
                exact ⟨rfl, HBz.out⟩
            · have g4 : ((l.length : Int) == 1) = false := beq_eq_false_iff_ne.2 hl1
              rw [g4] at g3
              replace g3 : (d3 == 0) = false := g3
              clear hl1
              rcases HV0 with hv0 | hv0
              · have hv0b : ((vs.length : Int) == 0) = true := beq_iff_eq.2 (by omega)
                go_wp2_with fail
                refine K1.out.mono ?_
                rintro e z3 ⟨rfl, hb⟩
                clear e0 e1 e2 e3 K1
                have HBz' := Lib.hid (below_step HBz.out hb)
                have TXz' := Lib.hid (TXz.out.below hb)
                have TY' := Lib.hid (TY.out.below hb)
                have HBv' := Lib.hid (below_step HBv.out hb)
                clear HBz TXz TY HBv hb
                have HBz := HBz'
                have TXz := TXz'
                have TY := TY'
                have HBv := HBv'
                clear HBz' TXz' TY' HBv'
                go_wp2_with fail
                refine (of_calls 6 2 A0 l.length c0 _).mono ?_
                rintro e z4 ⟨rfl, hb⟩
                have HBz' := Lib.hid (below_step HBz.out hb)
                have TXz' := Lib.hid (TXz.out.below hb)
                have TY' := Lib.hid (TY.out.below hb)
                have HBv' := Lib.hid (below_step HBv.out hb)
                clear HBz TXz TY HBv hb
                have HBz := HBz'
                have TXz := TXz'
                have TY := TY'
                have HBv := HBv'
                clear HBz' TXz' TY' HBv'
                have k2 := HD2.out ▸ Check_calls ⟨6, 0, 2, l⟩ n A0 c0 z4 (Kd.C_below HC.out HBz.out) hc0
                have K2 := Lib.hid k2
                clear k2
                go_wp2_with fail
                refine K2.out.mono ?_
                rintro e z5 ⟨rfl, hb⟩
                have HBz' := Lib.hid (below_step HBz.out hb)
                have TXz' := Lib.hid (TXz.out.below hb)
                have TY' := Lib.hid (TY.out.below hb)
                have HBv' := Lib.hid (below_step HBv.out hb)
                clear HBz TXz TY HBv hb
                have HBz := HBz'
                have TXz := TXz'
                have TY := TY'
                have HBv := HBv'
                clear HBz' TXz' TY' HBv'
                clear K2
                have x0 : (z5).cell? ⟨z1.heap.size, 0, none⟩ = some (.int .i64 3) := TY.out.e0
                have x1 : (z5).cell? ⟨z1.heap.size, 1, none⟩ = some (.int .i64 0) := TY.out.e1
                have x2 : (z5).cell? ⟨z1.heap.size, 2, none⟩ = some (.int .i64 0) := TY.out.e2
                have x3 : (z5).cell? ⟨z1.heap.size, 3, none⟩ = some (.slice A0 l.length c0) := TY.out.e3
                have k3 := HD3.out ▸ Check_calls ⟨3, 0, 0, l⟩ n A0 c0 z5 (Kd.C_below HC.out HBz.out) hc0
                have K3 := Lib.hid k3
                clear k3
                go_wp2_with fail
                refine K3.out.mono ?_
                rintro e z6 ⟨rfl, hb⟩
                have HBz' := Lib.hid (below_step HBz.out hb)
                have TXz' := Lib.hid (TXz.out.below hb)
                have TY' := Lib.hid (TY.out.below hb)
                have HBv' := Lib.hid (below_step HBv.out hb)
                clear HBz TXz TY HBv hb
                have HBz := HBz'
                have TXz := TXz'
                have TY := TY'
                have HBv := HBv'
                clear HBz' TXz' TY' HBv'
                clear K3 x0 x1 x2 x3
                go_wp2
                go_ret
                exact ⟨rfl, HBz.out⟩
              · have hv0b : ((vs.length : Int) == 0) = false := beq_eq_false_iff_ne.2 (by omega)
                go_wp2_with fail
                refine K1.out.mono ?_
                rintro e z3 ⟨rfl, hb⟩
                clear e0 e1 e2 e3 K1
                have HBz' := Lib.hid (below_step HBz.out hb)
                have TXz' := Lib.hid (TXz.out.below hb)
                have TY' := Lib.hid (TY.out.below hb)
                have HBv' := Lib.hid (below_step HBv.out hb)
                clear HBz TXz TY HBv hb
                have HBz := HBz'
                have TXz := TXz'
                have TY := TY'
                have HBv := HBv'
                clear HBz' TXz' TY' HBv'
                go_wp2_with fail
                refine (of_calls 6 2 A0 l.length c0 _).mono ?_
                rintro e z4 ⟨rfl, hb⟩
                have HBz' := Lib.hid (below_step HBz.out hb)
                have TXz' := Lib.hid (TXz.out.below hb)
                have TY' := Lib.hid (TY.out.below hb)
                have HBv' := Lib.hid (below_step HBv.out hb)
                clear HBz TXz TY HBv hb
                have HBz := HBz'
                have TXz := TXz'
                have TY := TY'
                have HBv := HBv'
                clear HBz' TXz' TY' HBv'
                have k2 := HD2.out ▸ Check_calls ⟨6, 0, 2, l⟩ n A0 c0 z4 (Kd.C_below HC.out HBz.out) hc0
                have K2 := Lib.hid k2
                clear k2
                go_wp2_with fail
                refine K2.out.mono ?_
                rintro e z5 ⟨rfl, hb⟩
                have HBz' := Lib.hid (below_step HBz.out hb)
                have TXz' := Lib.hid (TXz.out.below hb)
                have TY' := Lib.hid (TY.out.below hb)
                have HBv' := Lib.hid (below_step HBv.out hb)
                clear HBz TXz TY HBv hb
                have HBz := HBz'
                have TXz := TXz'
                have TY := TY'
                have HBv := HBv'
                clear HBz' TXz' TY' HBv'
                clear K2
                have x0 : (z5).cell? ⟨z1.heap.size, 0, none⟩ = some (.int .i64 3) := TY.out.e0
                have x1 : (z5).cell? ⟨z1.heap.size, 1, none⟩ = some (.int .i64 0) := TY.out.e1
                have x2 : (z5).cell? ⟨z1.heap.size, 2, none⟩ = some (.int .i64 0) := TY.out.e2
                have x3 : (z5).cell? ⟨z1.heap.size, 3, none⟩ = some (.slice A0 l.length c0) := TY.out.e3
                have k3 := HD3.out ▸ Check_calls ⟨3, 0, 0, l⟩ n A0 c0 z5 (Kd.C_below HC.out HBz.out) hc0
                have K3 := Lib.hid k3
                clear k3
                go_wp2_with fail
                refine K3.out.mono ?_
                rintro e z6 ⟨rfl, hb⟩
                have HBz' := Lib.hid (below_step HBz.out hb)
                have TXz' := Lib.hid (TXz.out.below hb)
                have TY' := Lib.hid (TY.out.below hb)
                have HBv' := Lib.hid (below_step HBv.out hb)
                clear HBz TXz TY HBv hb
                have HBz := HBz'
                have TXz := TXz'
                have TY := TY'
                have HBv := HBv'
                clear HBz' TXz' TY' HBv'
                clear K3 x0 x1 x2 x3
                obtain ⟨av, rfl, hv1⟩ := Kd.at_int (Kd.C_below HV.out HBv.out) 0 (by omega) (by omega)
                obtain ⟨aw, haw, hv2⟩ := Kd.at_int (Kd.C_below HV.out HBv.out) ((vs.length : Int) - 1) (by omega) (by omega)
                obtain rfl := Option.some.inj haw
                rw [show av.add (Int.toNat 0) = av from by first | rfl | simp | (cases av; simp [Addr.add])] at hv1
                have r1 := (F6.out (by first | rfl | trivial) _ (rd_in (show 0 < vs.length by omega))).1
                have r2 := (F6.out (by first | rfl | trivial) _ (rd_in (show vs.length - 1 < vs.length by omega))).2
                rw [show ((0 : Nat) : Int) = 0 from rfl] at r1
                rw [show ((vs.length - 1 : Nat) : Int) = (vs.length : Int) - 1 by omega] at r2
                generalize rd vs 0 = p at hv1 r1
                generalize rd vs ((vs.length : Int) - 1) = q at hv2 r2
                have hvp : (0 : Int) < (vs.length : Int) := by omega
                have hvq : (0 : Int) ≤ (vs.length : Int) - 1 := by omega
                have hvr : (vs.length : Int) - 1 < (vs.length : Int) := by omega
                rw [show ((vs.length : Int) - 1).toNat = vs.length - 1 by omega] at hv2
                go_wp2
                go_ret
                exact ⟨rfl, HBz.out⟩
          · replace g3 : (d3 == 0) = false := g3
            go_wp2_with fail
            refine K1.out.mono ?_
            rintro e z3 ⟨rfl, hb⟩
            clear e0 e1 e2 e3 K1
            have HBz' := Lib.hid (below_step HBz.out hb)
            have TXz' := Lib.hid (TXz.out.below hb)
            have TY' := Lib.hid (TY.out.below hb)
            have HBv' := Lib.hid (below_step HBv.out hb)
            clear HBz TXz TY HBv hb
            have HBz := HBz'
            have TXz := TXz'
            have TY := TY'
            have HBv := HBv'
            clear HBz' TXz' TY' HBv'
            go_wp2_with fail
            refine (of_calls 6 2 A0 l.length c0 _).mono ?_
            rintro e z4 ⟨rfl, hb⟩
            have HBz' := Lib.hid (below_step HBz.out hb)
            have TXz' := Lib.hid (TXz.out.below hb)
            have TY' := Lib.hid (TY.out.below hb)
            have HBv' := Lib.hid (below_step HBv.out hb)
            clear HBz TXz TY HBv hb
            have HBz := HBz'
            have TXz := TXz'
            have TY := TY'
            have HBv := HBv'
            clear HBz' TXz' TY' HBv'
            have k2 := HD2.out ▸ Check_calls ⟨6, 0, 2, l⟩ n A0 c0 z4 (Kd.C_below HC.out HBz.out) hc0
            have K2 := Lib.hid k2
            clear k2
            go_wp2_with fail
            refine K2.out.mono ?_
            rintro e z5 ⟨rfl, hb⟩
            have HBz' := Lib.hid (below_step HBz.out hb)
            have TXz' := Lib.hid (TXz.out.below hb)
            have TY' := Lib.hid (TY.out.below hb)
            have HBv' := Lib.hid (below_step HBv.out hb)
            clear HBz TXz TY HBv hb
            have HBz := HBz'
            have TXz := TXz'
            have TY := TY'
            have HBv := HBv'
            clear HBz' TXz' TY' HBv'
            clear K2
            have x0 : (z5).cell? ⟨z1.heap.size, 0, none⟩ = some (.int .i64 3) := TY.out.e0
            have x1 : (z5).cell? ⟨z1.heap.size, 1, none⟩ = some (.int .i64 0) := TY.out.e1
            have x2 : (z5).cell? ⟨z1.heap.size, 2, none⟩ = some (.int .i64 0) := TY.out.e2
            have x3 : (z5).cell? ⟨z1.heap.size, 3, none⟩ = some (.slice A0 l.length c0) := TY.out.e3
            have k3 := HD3.out ▸ Check_calls ⟨3, 0, 0, l⟩ n A0 c0 z5 (Kd.C_below HC.out HBz.out) hc0
            have K3 := Lib.hid k3
            clear k3
            go_wp2_with fail
            refine K3.out.mono ?_
            rintro e z6 ⟨rfl, hb⟩
            have HBz' := Lib.hid (below_step HBz.out hb)
            have TXz' := Lib.hid (TXz.out.below hb)
            have TY' := Lib.hid (TY.out.below hb)
            have HBv' := Lib.hid (below_step HBv.out hb)
            clear HBz TXz TY HBv hb
            have HBz := HBz'
            have TXz := TXz'
            have TY := TY'
            have HBv := HBv'
            clear HBz' TXz' TY' HBv'
            clear K3 x0 x1 x2 x3
            go_wp2
            go_ret
            exact ⟨rfl, HBz.out⟩

end Go.Proofs.YtphegiohkggddaaDoor.PF
