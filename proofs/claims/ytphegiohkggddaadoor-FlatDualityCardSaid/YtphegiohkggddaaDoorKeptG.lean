/- flat.kept over slices of trees, for a function value whose contract is given; the conditions stand in each statement. -/
import Derived.Test.YtphegiohkggddaaDoorPredG
namespace Go.Proofs.YtphegiohkggddaaDoor.PF
open Go.RowKit Go.Proofs.YtphegiohkggddaaDoorW.PrintWords Go.Proofs.YtphegiohkggddaaDoorW.PrintLast Go.Proofs.YtphegiohkggddaaDoorW.PrintMore
set_option linter.unusedVariables false
set_option linter.unusedSimpArgs false

theorem V_of_C {w : World} {A : Option Addr} {c : Nat} {xs : List S24} (h : Kd.C k24 w A xs.length xs) (hc : xs.length ≤ c) (base : Nat) : Kd.V k24 24 w base (fun k => k < w.heap.size) (.slice A xs.length c) xs :=
  Kd.V_mk hc (fun W' hW => k24_heap.C (fun k hk => hW k hk hk) h)

/-- A tree's four cells, laid one behind the other into a block. -/
theorem four_below {w w2 : World} {gb : Nat} (a b c d : Value) (hB : Below w.heap.size w w2) (hg : w.heap.size ≤ gb) : Below w.heap.size w ((((w2.setCell ⟨gb, 0, none⟩ a).setCell ⟨gb, 1, none⟩ b).setCell ⟨gb, 2, none⟩ c).setCell ⟨gb, 3, none⟩ d) :=
  below_set (below_set (below_set (below_set hB hg) hg) hg) hg
theorem four_blk {w2 : World} {gb : Nat} {x0 x1 x2 x3 : Value} (a b c d : Value) (h : w2.heap[gb]? = some (.cells #[x0, x1, x2, x3] 24 (0, 0))) : ((((w2.setCell ⟨gb, 0, none⟩ a).setCell ⟨gb, 1, none⟩ b).setCell ⟨gb, 2, none⟩ c).setCell ⟨gb, 3, none⟩ d).heap[gb]? = some (.cells #[a, b, c, d] 24 (0, 0)) :=
  blk_put (cs := #[a, b, c, x3]) (blk_put (cs := #[a, b, x2, x3]) (blk_put (cs := #[a, x1, x2, x3]) (blk_put h 0 a rfl) 1 b rfl) 2 c rfl) 3 d rfl
theorem four_N {w2 : World} {gb base : Nat} {ok : Nat → Prop} {v : Value} {xs : List S24} (a b c d : Value) (h : Kd.N k24 24 w2 base (fun k => ok k ∧ k ≠ gb) v xs) : Kd.N k24 24 ((((w2.setCell ⟨gb, 0, none⟩ a).setCell ⟨gb, 1, none⟩ b).setCell ⟨gb, 2, none⟩ c).setCell ⟨gb, 3, none⟩ d) base (fun k => ok k ∧ k ≠ gb) v xs :=
  Kd.N_far (p := ⟨gb, 3, none⟩) (Kd.N_far (p := ⟨gb, 2, none⟩) (Kd.N_far (p := ⟨gb, 1, none⟩) (Kd.N_far (p := ⟨gb, 0, none⟩) h (fun _ hk => hk.2) a) (fun _ hk => hk.2) b) (fun _ hk => hk.2) c) (fun _ hk => hk.2) d

set_option maxHeartbeats 4000000 in
theorem kept_calls (g : Nat) (lb : Array Value) (p : S24 → Bool) (eg : ∀ args w, (callFunc g args).run Tryd.prog w = .ok (.enter g args) w) (P : Nat → Prop) (A : Option Addr) (c : Nat) (xs : List S24) (w : World) (hV : Kd.V k24 24 w w.heap.size P (.slice A xs.length c) xs) (hp : Pred g lb p xs w) (hroom : xs.length < 2932031007402) :
    Calls Tryd.prog 30 #[.slice A xs.length c, .func (.func g) #[] lb] w fun e w' => ∃ v : Value, e = .returned v ∧ Kd.N k24 24 w' w.heap.size (fun k => P k ∨ w.heap.size ≤ k) v (xs.filter p) ∧ Below w.heap.size w w' := by
  have hC := (Kd.V_reads' hV).2.2
  have hu24 := Tryd.underlying24
  have hbig := hC.2.1
  have HP := Lib.hid hp
  have HC := Lib.hid hC
  have HV := Lib.hid hV
  clear hp hC hV
  go_enter Tryd.func30, Tryd.ntmps30
  go_wp2
  go_loopg [4, 9] xs.length (fun gg s4 s9 wr => ∃ kk : Nat, kk ≤ xs.length ∧ xs.length - kk ≤ gg ∧ s9 = .int .i64 kk ∧ Aside0 (Below w.heap.size w wr) ∧ Aside0 (Kd.N k24 24 wr w.heap.size (fun k => P k ∨ w.heap.size ≤ k) s4 ((xs.take kk).filter p)))
  case atStart => exact ⟨0, Nat.zero_le _, by omega, rfl, ⟨Below.refl _ _⟩, ⟨Kd.N_nil _ _ _ _ _⟩⟩
  case round =>
    obtain ⟨kk, hkk, hg, rfl, HB, HN⟩ := hrel
    by_cases hlt : kk < xs.length
    · have hltz : (kk : Int) < (xs.length : Int) := by omega
      have hd : (xs.take (kk + 1)).filter p = (xs.take kk).filter p ++ (if p (rd_T24 xs (kk : Int)) = true then [rd_T24 xs (kk : Int)] else []) := by
        rw [List.take_succ_eq_append_getElem hlt, List.filter_append]
        congr 1
        have : rd_T24 xs (kk : Int) = xs[kk] := by simp [rd_T24, hlt]
        rw [this, List.filter_cons]
        split <;> rfl
      have hll : ((xs.take kk).filter p).length ≤ kk := Nat.le_trans (List.length_filter_le _ _) (by rw [List.length_take]; omega)
      have hm := rd_mem hlt
      obtain ⟨ad, A3, c3, rfl, hx0, hx1, hx2, hx3, hl3, hi3⟩ := at_T24 HC.out (kk : Int) (by omega) hltz
      obtain ⟨ce, hce, hMe, hcc⟩ := Kd.V_get HV.out z24 (kk : Int) (by omega) hltz
      replace hMe : Kd.FK k24 w P (rd_T24 xs (kk : Int)) ce := hMe
      obtain ⟨ua3, uc3, rfl, ul3, ge3⟩ := k24_openF hMe
      have hv3 := hcc 3 _ rfl
      rw [add_field _ _ 3 (by omega)] at hv3
      replace hv3 := Option.some.inj (hv3.symm.trans hx3)
      injection hv3 with hva hvn hvc
      rw [hva, hvc] at hMe
      have HK := Lib.hid (Kd.FK_bound hMe)
      clear hva hvn hvc ge3 ul3 hcc hce hMe
      replace hx0 := (HB.out.cell (World.block_lt_of_cell? w _ hx0)).trans hx0
      replace hx1 := (HB.out.cell (World.block_lt_of_cell? w _ hx1)).trans hx1
      replace hx2 := (HB.out.cell (World.block_lt_of_cell? w _ hx2)).trans hx2
      replace hx3 := (HB.out.cell (World.block_lt_of_cell? w _ hx3)).trans hx3
      rw [Int.toNat_natCast] at hx0 hx1 hx2 hx3
      generalize hy : rd_T24 xs (kk : Int) = y at hx0 hx1 hx2 hx3 hd hm hl3 hi3 HK
      generalize hys : (xs.take kk).filter p = ys at hd hll HN
      clear hy hys
      have HM := Lib.hid hm
      have HL := Lib.hid hl3
      have HI := Lib.hid hi3
      have HR := Lib.hid hroom
      have HE := Lib.hid hll
      clear hm hl3 hi3 hll hbig
      cases hq : p y with
      | true =>
        have HQ := Lib.hid hq
        clear hq
        rw [if_pos HQ.out] at hd
        have HD := Lib.hid hd
        clear hd
        go_wp2_with (first | ((with_reducible refine gate_dst (N := 6) rfl ?_); refine box_event ?hg (N := 6) ?hd (cs := #[.int .i64 0, .int .i64 0, .int .i64 0, .slice none 0 0]) (t := 24) ?hr ?_; (case hd => rfl); (case hg => rfl); (case hr => first | (go_simp; done) | (go_simp; rfl)); intro gb hg w2 hbox hb; have GE := Aside0.mk (show w.heap.size ≤ gb by rw [hg]; exact HB.out.size); have HB2 := Aside0.mk (below_step HB.out hb); have BK := Aside0.mk hbox; have HN2 := Aside0.mk (Kd.N_below (Kd.N_elderB HN.out gb (Nat.le_of_eq hg.symm)) hb); clear hb hbox hg; have hcz_0 : w2.cell? ⟨gb, 0, none⟩ = some (.int .i64 0) := (blk_cell BK.out 0).trans rfl; have hcz_1 : w2.cell? ⟨gb, 1, none⟩ = some (.int .i64 0) := (blk_cell BK.out 1).trans rfl; have hcz_2 : w2.cell? ⟨gb, 2, none⟩ = some (.int .i64 0) := (blk_cell BK.out 2).trans rfl; have hcz_3 : w2.cell? ⟨gb, 3, none⟩ = some (.slice none 0 0) := (blk_cell BK.out 3).trans rfl; have hfz_0 := blk_frozen BK.out 0; have hfz_1 := blk_frozen BK.out 1; have hfz_2 := blk_frozen BK.out 2; have hfz_3 := blk_frozen BK.out 3))
        refine (HP.out y _ A3 c3 HM.out (four_below _ _ _ _ HB2.out GE.out) HL.out (Kd.C_below HI.out (four_below _ _ _ _ HB2.out GE.out))).mono ?_
        rintro e w6 ⟨rfl, hb6⟩
        rw [HQ.out]
        have HB6 := Aside0.mk (below_step (four_below _ _ _ _ HB2.out GE.out) hb6)
        have HN6 := Aside0.mk (Kd.N_below (four_N _ _ _ _ HN2.out) hb6)
        have BK6 := Aside0.mk (blk_below (four_blk _ _ _ _ BK.out) hb6)
        clear hb6 HN2 HN HB HB2 BK hcz_0 hcz_1 hcz_2 hcz_3 hfz_0 hfz_1 hfz_2 hfz_3 hx0 hx1 hx2 hx3
        have hcz_0 : w6.cell? ⟨gb, 0, none⟩ = some (.int .i64 y.f0) := (blk_cell BK6.out 0).trans rfl
        have hcz_1 : w6.cell? ⟨gb, 1, none⟩ = some (.int .i64 y.f1) := (blk_cell BK6.out 1).trans rfl
        have hcz_2 : w6.cell? ⟨gb, 2, none⟩ = some (.int .i64 y.f2) := (blk_cell BK6.out 2).trans rfl
        have hcz_3 : w6.cell? ⟨gb, 3, none⟩ = some (.slice A3 y.f3.length c3) := (blk_cell BK6.out 3).trans rfl
        have HK6 := Aside0.mk (Kd.FK_step HK.out (fun k hk hlt => HB6.out.block k hk.2))
        go_wp2_with (first | ((with_reducible refine gate_builtin (b := .append) (xs := #[.tmp 16, .tmp 18]) rfl ?_); at_builtin; refine Kd.N_append k24 (w0 := w) w.heap.size rfl (.tmp 16) (.tmp 18) 22 24 (.agg #[(.int .i64 0), (.int .i64 0), (.int .i64 0), (.slice none 0 0)]) 48 rfl Tryd.underlying22 info24 rfl (by decide) (by omega) u4 ys y [.int .i64 y.f0, .int .i64 y.f1, .int .i64 y.f2, .slice A3 y.f3.length c3] (fun k => P k ∨ w.heap.size ≤ k) (fun k => P k ∧ k < w.heap.size) rfl rfl ?aP ?aK ?aF ?aO ?aB ?aS ?aL ?_; (case aP => exact HK6.out); (case aK => exact fun k hk => ⟨.inl hk.1, fun he => by have h1 := Kd.N_base HN6.out k he.symm; have h2 := hk.2; omega⟩); (case aF => exact fun k hk => .inr (Nat.le_trans HB6.out.size hk)); (case aO => exact Kd.N_drop HN6.out); (case aB => exact HB6.out); (case aS => exact HB6.out.size); (case aL => have h1 := HR.out; have h2 := HE.out; omega); intro v1 w7 ho hb hg hat; rw [← HD.out] at ho; have HN7 := Aside0.mk ho; have HB7 := Aside0.mk hb; clear ho hb hg hat))
        go_roundg (xs.length - (kk + 1))
        case measure => omega
        case rel => exact ⟨kk + 1, by omega, by omega, by go_num, ⟨HB7.out⟩, ⟨HN7.out⟩⟩
      | false =>
        have HQ := Lib.hid hq
        clear hq
        rw [if_neg (by rw [HQ.out]; simp), List.append_nil] at hd
        have HD := Lib.hid hd
        clear hd
        go_wp2_with (first | ((with_reducible refine gate_dst (N := 6) rfl ?_); refine box_event ?hg (N := 6) ?hd (cs := #[.int .i64 0, .int .i64 0, .int .i64 0, .slice none 0 0]) (t := 24) ?hr ?_; (case hd => rfl); (case hg => rfl); (case hr => first | (go_simp; done) | (go_simp; rfl)); intro gb hg w2 hbox hb; have GE := Aside0.mk (show w.heap.size ≤ gb by rw [hg]; exact HB.out.size); have HB2 := Aside0.mk (below_step HB.out hb); have BK := Aside0.mk hbox; have HN2 := Aside0.mk (Kd.N_below (Kd.N_elderB HN.out gb (Nat.le_of_eq hg.symm)) hb); clear hb hbox hg; have hcz_0 : w2.cell? ⟨gb, 0, none⟩ = some (.int .i64 0) := (blk_cell BK.out 0).trans rfl; have hcz_1 : w2.cell? ⟨gb, 1, none⟩ = some (.int .i64 0) := (blk_cell BK.out 1).trans rfl; have hcz_2 : w2.cell? ⟨gb, 2, none⟩ = some (.int .i64 0) := (blk_cell BK.out 2).trans rfl; have hcz_3 : w2.cell? ⟨gb, 3, none⟩ = some (.slice none 0 0) := (blk_cell BK.out 3).trans rfl; have hfz_0 := blk_frozen BK.out 0; have hfz_1 := blk_frozen BK.out 1; have hfz_2 := blk_frozen BK.out 2; have hfz_3 := blk_frozen BK.out 3))
        refine (HP.out y _ A3 c3 HM.out (four_below _ _ _ _ HB2.out GE.out) HL.out (Kd.C_below HI.out (four_below _ _ _ _ HB2.out GE.out))).mono ?_
        rintro e w6 ⟨rfl, hb6⟩
        rw [HQ.out]
        have HB6 := Aside0.mk (below_step (four_below _ _ _ _ HB2.out GE.out) hb6)
        have HN6 := Aside0.mk (Kd.N_below (four_N _ _ _ _ HN2.out) hb6)
        have BK6 := Aside0.mk (blk_below (four_blk _ _ _ _ BK.out) hb6)
        clear hb6 HN2 HN HB HB2 BK hcz_0 hcz_1 hcz_2 hcz_3 hfz_0 hfz_1 hfz_2 hfz_3 hx0 hx1 hx2 hx3
        go_wp2
        go_roundg (xs.length - (kk + 1))
        case measure => omega
        case rel => exact ⟨kk + 1, by omega, by omega, by go_num, ⟨HB6.out⟩, ⟨by rw [HD.out]; exact Kd.N_drop HN6.out⟩⟩
    · have hltz : ¬ (kk : Int) < (xs.length : Int) := by omega
      have hkk2 : kk = xs.length := by omega
      subst hkk2
      have HN2 := HN.out
      rw [List.take_length] at HN2
      have HN3 := Lib.hid HN2
      clear HN HN2
      go_wp2
      go_ret
      exact ⟨_, rfl, HN3.out, HB.out⟩

end Go.Proofs.YtphegiohkggddaaDoor.PF
