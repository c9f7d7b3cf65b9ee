/- The law FlatSubstitutes answers true. -/
import Derived.Test.YtphegiohkggddaaDoorValuesG
import Derived.Test.YtphegiohkggddaaDoorVarsG
import Derived.Test.YtphegiohkggddaaDoorPFd
import Derived.Test.YtphegiohkggddaaDoorPureV
namespace Go.Proofs.YtphegiohkggddaaDoor.PF
open Go.RowKit Go.Proofs.YtphegiohkggddaaDoorW.PrintWords Go.Proofs.YtphegiohkggddaaDoorW.PrintLast Go.Proofs.YtphegiohkggddaaDoorW.PrintMore
set_option linter.unusedVariables false
set_option linter.unusedSimpArgs false

set_option maxHeartbeats 8000000 in
theorem subst_walk (t : S24) (n : Int) (is : Bool) (A : List Bool) (A0 : Option Addr) (c0 : Nat) (A1 : Option Addr) (c1 : Nat) (w : World) (hC : k24.C w A0 t.f3.length t.f3) (hc0 : t.f3.length ≤ c0) (hA : Kd.C Kd.bool w A1 A.length A) (hc1 : A.length ≤ c1) (hL : Laid w) (hf : fitB t = true) (hal : A.length ≤ 1048576)
    (kf : Nat) (b : Bool) (hfew : chalklinelaw11_few.f kf t.f0 t.f1 t.f2 t.f3 A = some b)
    (kp : Nat) (x : S24) (hput : chalklinelaw11_put.f kp t.f0 t.f1 t.f2 t.f3 n (if is = true then 1 else 0) = some (x.f0, x.f1, x.f2, x.f3))
    (hcase : check_val 65536 t = 0 → 1 ≤ n → n < (A.length : Int) → made_fit x = true ∧ simple_val x = made_val x ∧ fitB (made_val x) = true ∧ (nodesT (made_val x)).length < 1099511627776 ∧ (∀ v ∈ vars_val (made_val x), v ≠ n) ∧ flat_val A (made_val x) = flat_val (A.set n.toNat is) t) :
    Calls Tryd.prog 8 #[.agg #[.int .i64 t.f0, .int .i64 t.f1, .int .i64 t.f2, .slice A0 t.f3.length c0], .int .i64 n, .bool is, .slice A1 A.length c1] w fun e w' => e = .returned (.bool true) ∧ Below w.heap.size w w' := by
  have hu24 := Tryd.underlying24
  have hb0 := (Below.refl w.heap.size w).alloc (Nat.le_refl _) (.cells #[.int .i64 t.f0, .int .i64 t.f1, .int .i64 t.f2, .slice A0 t.f3.length c0] 24)
  have hx0 : TBox (w.alloc (.cells #[.int .i64 t.f0, .int .i64 t.f1, .int .i64 t.f2, .slice A0 t.f3.length c0] 24)) w.heap.size t A0 c0 := World.alloc_heap_new w _
  have HB0 := Lib.hid hb0
  have HX0 := Lib.hid hx0
  have HL := Lib.hid (hL.below hb0)
  have HC := Lib.hid hC
  have HA := Lib.hid hA
  have HCASE := Lib.hid hcase
  have HPUT := Lib.hid hput
  have HL0 := Lib.hid hL
  have HAL := Lib.hid hal
  have HF := Lib.hid hf
  clear hb0 hx0 hL hC hA hcase hput hal hf
  go_enter Tryd.func8, Tryd.ntmps8
  go_wp2_with fail
  refine (live_walk _ HL.out).mono ?_
  rintro e w2 ⟨rfl, hb2⟩
  have HX2 := Lib.hid (HX0.out.below hb2)
  have HB2 := Lib.hid (below_step HB0.out hb2)
  clear hb2 HB0 HX0 HL
  have e0 := HX2.out.e0
  have e1 := HX2.out.e1
  have e2 := HX2.out.e2
  have e3 := HX2.out.e3
  go_wp2_with fail
  refine (chalklinelaw11_few.calls kf t.f0 t.f1 t.f2 A0 c0 t.f3 A1 c1 A b w2 (Kd.C_below HC.out HB2.out) hc0 (Kd.C_below HA.out HB2.out) hc1 hfew).mono ?_
  rintro e w3 ⟨rfl, hb3⟩
  have HX3 := Lib.hid (HX2.out.below hb3)
  have HB3 := Lib.hid (below_step HB2.out hb3)
  clear hb3 HX2 HB2 e0 e1 e2 e3 hfew
  cases b with
  | false =>
    go_wp2
    go_ret
    exact ⟨rfl, HB3.out⟩
  | true =>
    have e0 := HX3.out.e0
    have e1 := HX3.out.e1
    have e2 := HX3.out.e2
    have e3 := HX3.out.e3
    have k := Check_calls t 65536 A0 c0 w3 (Kd.C_below HC.out HB3.out) hc0
    by_cases hc : check_val 65536 t = 0
    · have HCS := Lib.hid (HCASE.out hc)
      rw [hc] at k
      have K := Lib.hid k
      clear k hc HCASE
      go_wp2_with fail
      refine K.out.mono ?_
      rintro e w4 ⟨rfl, hb4⟩
      have HX4 := Lib.hid (HX3.out.below hb4)
      have HB4 := Lib.hid (below_step HB3.out hb4)
      clear hb4 HX3 HB3 e0 e1 e2 e3 K
      by_cases hn1 : n < 1
      · clear HCS
        go_wp2
        go_ret
        exact ⟨by simp, HB4.out⟩
      by_cases hn2 : (A.length : Int) ≤ n
      · clear HCS
        go_wp2
        go_ret
        exact ⟨by simp, HB4.out⟩
      obtain ⟨h1, h2, h3, h4, h5, h6⟩ := HCS.out (by omega) (by omega)
      have H1 := Lib.hid h1
      have H2 := Lib.hid h2
      have H3 := Lib.hid h3
      have H4 := Lib.hid h4
      have H5 := Lib.hid h5
      have H6 := Lib.hid h6
      clear h1 h2 h3 h4 h5 h6 HCS
      have HW0 := Lib.hid (Below.refl w4.heap.size w4)
      have hn0 : 0 ≤ n := by omega
      have hn3 : n < (A.length : Int) := by omega
      have HN := Lib.hid (And.intro hn0 hn3)
      go_upto_if 42 with (first
        | ((with_reducible refine gate_dst (N := 35) rfl ?_); refine Kd.R_lit Kd.bool _ 4 ?hg (N := 35) ?hd (xs := ([] : List Bool)) (inner := []) (ok := fun _ => True) (okp := fun _ => True) ?hr ?hp (fun _ hk => hk) trivial (Below.refl _ _) (Nat.le_refl _) (by simp) ?_; (case hd => rfl); (case hg => rfl); (case hr => first | (go_simp; done) | (go_simp; rfl)); (case hp => exact (Reps.none _ _)); intro v5 w5 ho hb hg_ hnew_; clear hg_ hnew_; (try simp only [Int.reduceToNat] at ho); have HO5 := Lib.hid ho; have HB5 := Lib.hid hb; clear hb ho)
        | ((with_reducible refine gate_builtin (b := .append) (xs := #[.tmp 35, .tmp 36]) rfl ?_); at_builtin; refine Kd.R_append_rows Kd.bool (w0 := w4) w4.heap.size rfl (.tmp 35) (.tmp 36) 25 4 (.bool false) 1 rfl Tryd.underlying25 info4 rfl (by decide) (by omega) v5 [] A _ _ _ (fun _ => True) (fun _ => False) rfl rfl ?aO ?aR (fun _ _ h => h) (fun _ h => h.elim) ?aF ?aB ?aS ?aL ?_; (case aR => exact Kd.C_below (Kd.C_below HA.out HB4.out) HB5.out); (case aB => exact HB5.out); (case aF => exact (fun _ _ => trivial)); (case aO => exact HO5.out); (case aS => exact below_size HB5.out); (case aL => have := HAL.out; simp only [List.length_nil]; omega); intro v6 w6 ho hb hg hat; have ho' : Kd.R Kd.bool 4 w6 w4.heap.size (fun _ => True) v6 A := ho; have HB6 := Lib.hid hb; obtain ⟨go, co, eo, gb, gl, cl⟩ := Kd.R_form ho' (by omega); subst eo; have GB := Lib.hid gb; obtain ⟨hx6, hf6⟩ := Kd.R_celln false ho' n hn0 hn3; have HP6 := Kd.R_putg ho' n is; clear ho ho' hb hg hat HO5 HB5 gb gl cl)
        | ((with_reducible refine gate_store (t := 4) (p := 41) rfl ?_); refine store_event (t := 4) (p := 41) (v := ?vo) (w1 := (w6.setCell ⟨go, n.toNat, none⟩ (.bool is))) ?hg ?ho ?hn ?hr ?_; (case ho => rfl); (case hg => rfl); (case hn => rfl); (case hr => first | (go_simp; done) | (go_simp; rfl)); intro w7 hw; have HO7 : Hid (Kd.R Kd.bool 4 w7 w4.heap.size (fun _ => True) (.slice (some ⟨go, 0, none⟩) A.length co) (A.set n.toNat is)) := Lib.hid (by rw [hw]; exact HP6.1); have HB7 : Hid (Below w4.heap.size w4 w7) := Lib.hid (by rw [hw]; exact below_set HB6.out GB.out); clear HP6 hw hx6 hf6 HB6))
      (try simp only [Act.put, List.setIfInBounds_toArray, List.set_cons_zero, List.set_cons_succ])
      clear hn1 hn2 hn0 hn3
      obtain ⟨val, hval⟩ : ∃ v : Int, v = if is = true then 1 else 0 := ⟨_, rfl⟩
      have HPUT' := HPUT.out
      rw [← hval] at HPUT'
      have HVAL := Lib.hid hval
      have kp1 : ∀ W, Below w4.heap.size w4 W → Calls Tryd.prog 22 #[.agg #[.int .i64 t.f0, .int .i64 t.f1, .int .i64 t.f2, .slice A0 t.f3.length c0], .int .i64 n, .int .i64 val] W fun e w' => ∃ v3_ : Value, e = .returned (.agg #[.int .i64 x.f0, .int .i64 x.f1, .int .i64 x.f2, v3_]) ∧ Kd.R k24 24 w' W.heap.size (fun _ => True) v3_ x.f3 ∧ Below W.heap.size W w' :=
        fun W hW => chalklinelaw11_put.calls kp t.f0 t.f1 t.f2 A0 c0 t.f3 n val x.f0 x.f1 x.f2 x.f3 W (Kd.C_below (Kd.C_below HC.out HB4.out) hW) hc0 HPUT'
      have KP := Lib.hid kp1
      clear kp1 hval HPUT HPUT'
      have f0 := (HX4.out.below HB7.out).e0
      have f1 := (HX4.out.below HB7.out).e1
      have f2 := (HX4.out.below HB7.out).e2
      have f3 := (HX4.out.below HB7.out).e3
      go_cut [10] (fun s10 wc => s10 = .int .i64 val ∧ wc = w7)
      case first =>
        have hv := HVAL.out
        cases is with
        | true =>
          obtain rfl : val = 1 := hv
          go_wp2
          go_meet
          case rel => exact ⟨rfl, rfl⟩
        | false =>
          obtain rfl : val = 0 := hv
          go_wp2
          go_meet
          case rel => exact ⟨rfl, rfl⟩
      case rest =>
        obtain ⟨rfl, rfl⟩ := hcut
        go_wp2_with fail
        refine (KP.out _ HB7.out).mono ?_
        rintro e w8 ⟨v3, rfl, hR, hb⟩
        obtain ⟨A2, c2, rfl, hc2, hC2⟩ := Kd.R_reads hR
        have HB8 := Lib.hid (below_step HB7.out hb)
        have HO8 := Lib.hid (Kd.R_below HO7.out hb)
        have ks := Simple_C x (made_val x) A2 c2 w8 hC2 hc2 (HL0.out.below (below_step HB4.out HB8.out)) H1.out H2.out
        have H3' := H3.out
        have H4' := H4.out
        have H5' := H5.out
        have H6' := H6.out
        generalize made_val x = u at ks H3' H4' H5' H6'
        have KS := Lib.hid ks
        have G3 := Lib.hid H3'
        have G4 := Lib.hid H4'
        have G5 := Lib.hid H5'
        have G6 := Lib.hid H6'
        clear ks H1 H2 H3 H4 H5 H6 H3' H4' H5' H6' hR hC2 hb HB7 HO7 f0 f1 f2 f3 KP HVAL
        go_wp2_with fail
        refine KS.out.mono ?_
        rintro e w9 ⟨A3, c3, rfl, hc3, hC3, hb⟩
        have HB9 := Lib.hid ((below_step HB8.out hb).trans (((Below.refl w9.heap.size w9).alloc (Nat.le_refl _) (.cells #[.int .i64 u.f0, .int .i64 u.f1, .int .i64 u.f2, .slice A3 u.f3.length c3] 24)).mono (below_step HB8.out hb).size))
        have HO9 := Lib.hid (Kd.R_below (Kd.R_below HO8.out hb) ((Below.refl w9.heap.size w9).alloc (Nat.le_refl _) (.cells #[.int .i64 u.f0, .int .i64 u.f1, .int .i64 u.f2, .slice A3 u.f3.length c3] 24)))
        have HU9 : Hid (TBox (w9.alloc (.cells #[.int .i64 u.f0, .int .i64 u.f1, .int .i64 u.f2, .slice A3 u.f3.length c3] 24)) w9.heap.size u A3 c3) := Lib.hid (World.alloc_heap_new w9 _)
        have HC9 := Lib.hid (Kd.C_below hC3 ((Below.refl w9.heap.size w9).alloc (Nat.le_refl _) (.cells #[.int .i64 u.f0, .int .i64 u.f1, .int .i64 u.f2, .slice A3 u.f3.length c3] 24)))
        clear hb hC3 HB8 HO8 KS hc2
        go_wp2_with fail
        have kv := Vars_calls u A3 c3 (w9.alloc (.cells #[.int .i64 u.f0, .int .i64 u.f1, .int .i64 u.f2, .slice A3 u.f3.length c3] 24)) HC9.out hc3 G4.out
        refine kv.mono ?_
        rintro e y0 ⟨A4, c4, rfl, hl4, hC4, hb⟩
        have HBy := Lib.hid (below_step HB9.out hb)
        have HOy := Lib.hid (Kd.R_below HO9.out hb)
        have HUy := Lib.hid (HU9.out.below hb)
        have HCy := Lib.hid (Kd.C_below HC9.out hb)
        have HV := Lib.hid hC4
        have hvb := hC4.2.1
        have HIN := G5.out
        have HIX : ∀ j : Nat, j < (vars_val u).length → rd (vars_val u) (j : Int) ≠ n := fun j hj => HIN _ (rd_in hj)
        clear hb hC4 kv HB9 HO9 HU9 HC9 HIN G5 G4
        generalize vars_val u = vs at hl4 hvb HV HIX
        have HIY := Lib.hid HIX
        have HL4 := Lib.hid hl4
        clear HIX hl4
        go_wp2
        go_loopg [13] vs.length (fun gg s13 wq => ∃ j : Nat, j ≤ vs.length ∧ vs.length - j ≤ gg ∧ s13 = .int .i64 (j : Int) ∧ Aside0 (Below y0.heap.size y0 wq))
        case atStart => exact ⟨0, Nat.zero_le _, by omega, rfl, ⟨Below.refl _ _⟩⟩
        case round =>
          obtain ⟨j, hj, hg, rfl, HBj⟩ := hrel
          by_cases hlt : j < vs.length
          · have hltz : (j : Int) < (vs.length : Int) := by omega
            have hne := HIY.out j hlt
            obtain ⟨av, rfl, hv1⟩ := Kd.at_int (Kd.C_below HV.out HBj.out) (j : Int) (by omega) hltz
            rw [Int.toNat_natCast] at hv1
            generalize rd vs (j : Int) = q at hv1 hne
            have hj0 : (0 : Int) ≤ (j : Int) := by omega
            have hneb : (q == n) = false := beq_eq_false_iff_ne.2 hne
            clear hne
            go_wp2
            go_roundg (vs.length - (j + 1))
            case measure => omega
            case rel => exact ⟨j + 1, by omega, by omega, by go_num, ⟨HBj.out⟩⟩
          · have hltz : ¬ (j : Int) < (vs.length : Int) := by omega
            have HBq := Lib.hid (below_step HBy.out HBj.out)
            have HOq := Lib.hid (Kd.R_below HOy.out HBj.out)
            have HUq := Lib.hid (HUy.out.below HBj.out)
            have HCq := Lib.hid (Kd.C_below HCy.out HBj.out)
            have HTq := Lib.hid (HX4.out.below HBq.out)
            have hbl : A.length = (A.set n.toNat is).length := (List.length_set ..).symm
            have hcb := Kd.R_reads' HOq.out
            have HCB := Lib.hid hcb
            have k1 : ∀ W, Below wr.heap.size wr W → Calls Tryd.prog 12 #[.agg #[.int .i64 u.f0, .int .i64 u.f1, .int .i64 u.f2, .slice A3 u.f3.length c3], .slice A1 A.length c1] W fun e w' => e = .returned (.bool (flat_val (A.set n.toNat is) t)) ∧ Below W.heap.size W w' :=
              fun W hW => G6.out ▸ value_at A u A3 c3 A1 c1 W (Kd.C_below HCq.out hW) hc3 (Kd.C_below (Kd.C_below (Kd.C_below HA.out HB4.out) HBq.out) hW) hc1 G3.out
            have k2 : ∀ W, Below wr.heap.size wr W → Calls Tryd.prog 12 #[.agg #[.int .i64 t.f0, .int .i64 t.f1, .int .i64 t.f2, .slice A0 t.f3.length c0], .slice (some ⟨go, 0, none⟩) A.length co] W fun e w' => e = .returned (.bool (flat_val (A.set n.toNat is) t)) ∧ Below W.heap.size W w' :=
              fun W hW => (congrArg (fun z => Calls Tryd.prog 12 #[.agg #[.int .i64 t.f0, .int .i64 t.f1, .int .i64 t.f2, .slice A0 t.f3.length c0], .slice (some ⟨go, 0, none⟩) z co] W fun e w' => e = .returned (.bool (flat_val (A.set n.toNat is) t)) ∧ Below W.heap.size W w') hbl.symm).mp (value_at (A.set n.toNat is) t A0 c0 (some ⟨go, 0, none⟩) co W (Kd.C_below (Kd.C_below (Kd.C_below HC.out HB4.out) HBq.out) hW) hc0 (Kd.C_below HCB.out.2.2 hW) (by rw [← hbl]; exact HCB.out.2.1) HF.out)
            clear hcb HCB hbl G6 G3
            generalize flat_val (A.set n.toNat is) t = r at k1 k2
            have K1 := Lib.hid k1
            have K2 := Lib.hid k2
            clear k1 k2
            have hes := HTq.out.es
            have hey := HUq.out.es
            go_wp2
            go_region_held3 (fun W => (W.cell? ⟨w.heap.size, 0, none⟩ = some (.int .i64 t.f0) ∧ W.cell? ⟨w.heap.size, 1, none⟩ = some (.int .i64 t.f1) ∧ W.cell? ⟨w.heap.size, 2, none⟩ = some (.int .i64 t.f2) ∧ W.cell? ⟨w.heap.size, 3, none⟩ = some (.slice A0 t.f3.length c0)) ∧ (W.cell? ⟨w9.heap.size, 0, none⟩ = some (.int .i64 u.f0) ∧ W.cell? ⟨w9.heap.size, 1, none⟩ = some (.int .i64 u.f1) ∧ W.cell? ⟨w9.heap.size, 2, none⟩ = some (.int .i64 u.f2) ∧ W.cell? ⟨w9.heap.size, 3, none⟩ = some (.slice A3 u.f3.length c3))) (first | exact ⟨(HTq.out.below HBb.out).es, (HUq.out.below HBb.out).es⟩ | exact ⟨(HTq.out.below HBa.out).es, (HUq.out.below HBa.out).es⟩ | exact ⟨hes, hey⟩ | go_keep)
              (first
                | (go_at_call 12; refine (K1.out _ (by repeat (first | exact Below.refl _ _ | apply pw_below_drewN | apply below_drew1))).mono ?_; clear K1; rintro e wa ⟨rfl, hb⟩; have HBa : Hid (Below wr.heap.size wr wa) := Lib.hid (below_step (by repeat (first | exact Below.refl _ _ | apply pw_below_drewN | apply below_drew1)) hb); clear hb)
                | (go_at_call 12; refine (K2.out _ (by repeat (first | exact HBa.out | apply pw_below_drewN | apply below_drew1))).mono ?_; clear K2; rintro e wb ⟨rfl, hb⟩; have HBb : Hid (Below wr.heap.size wr wb) := Lib.hid (below_step (by repeat (first | exact HBa.out | apply pw_below_drewN | apply below_drew1)) hb); clear hb))
            go_wp2
            go_ret
            exact ⟨by simp, below_step HB4.out (below_step HBq.out HBb.out)⟩
    · have hcb : (check_val 65536 t != 0) = true := bne_iff_ne.2 hc
      generalize check_val 65536 t = v at k hcb
      have K := Lib.hid k
      clear k hc HCASE
      go_wp2_with fail
      refine K.out.mono ?_
      rintro e w4 ⟨rfl, hb4⟩
      have HB4 := Lib.hid (below_step HB3.out hb4)
      clear hb4 HX3 HB3 e0 e1 e2 e3 K
      go_wp2
      go_ret
      exact ⟨rfl, HB4.out⟩

end Go.Proofs.YtphegiohkggddaaDoor.PF
