/- flat.join. -/
import Derived.Test.YtphegiohkggddaaDoorJoinG
import Derived.Test.YtphegiohkggddaaDoorCheckG
namespace Go.Proofs.YtphegiohkggddaaDoor.PF
open Go.RowKit Go.Proofs.YtphegiohkggddaaDoorW.PrintWords Go.Proofs.YtphegiohkggddaaDoorW.PrintLast Go.Proofs.YtphegiohkggddaaDoorW.PrintMore
set_option linter.unusedVariables false
set_option linter.unusedSimpArgs false

/-- What join makes of the subtrees that are no constants. -/
def flatL (kd : Int) : List S24 → List S24
  | [] => []
  | x :: l => (if x.f0 = kd then x.f3 else [x]) ++ flatL kd l
theorem flatL_append (kd : Int) : ∀ l l', flatL kd (l ++ l') = flatL kd l ++ flatL kd l'
  | [], _ => rfl
  | x :: l, l' => by simp only [List.cons_append, flatL, flatL_append kd l l', List.append_assoc]
/-- What join answers. -/
def join_val (kd : Int) (l : List S24) : S24 :=
  if (l.any fun x => if x.f0 = 1 then x.f1 != idleV kd else false) = true then ⟨1, 1 - idleV kd, 0, []⟩
  else match flatL kd (l.filter fun x => x.f0 != 1) with
    | [] => ⟨1, idleV kd, 0, []⟩
    | [x] => x
    | x :: y :: r => ⟨kd, 0, 0, x :: y :: r⟩

/-- Four cells laid into a block that the value does not reach. -/
theorem four_V {w2 : World} {gb base : Nat} {ok : Nat → Prop} {v : Value} {xs : List S24} (a b c d : Value) (h : Kd.V k24 24 w2 base ok v xs) (hne : ∀ k, ok k → k ≠ gb) : Kd.V k24 24 ((((w2.setCell ⟨gb, 0, none⟩ a).setCell ⟨gb, 1, none⟩ b).setCell ⟨gb, 2, none⟩ c).setCell ⟨gb, 3, none⟩ d) base ok v xs :=
  Kd.V_far (p := ⟨gb, 3, none⟩) (Kd.V_far (p := ⟨gb, 2, none⟩) (Kd.V_far (p := ⟨gb, 1, none⟩) (Kd.V_far (p := ⟨gb, 0, none⟩) h hne a) hne b) hne c) hne d

set_option maxHeartbeats 4000000 in
theorem join_calls (kd : Int) (hk : kd = 4 ∨ kd = 5) (P : Nat → Prop) (A : Option Addr) (c : Nat) (l : List S24) (w : World) (hV : Kd.V k24 24 w w.heap.size P (.slice A l.length c) l) (hL : Laid w) (hroom1 : l.length < 2932031007402) (hroom2 : (flatL kd (l.filter fun x => x.f0 != 1)).length < 2932031007402) :
    Calls Tryd.prog 42 #[.int .i64 kd, .slice A l.length c] w fun e w' => ∃ v3 : Value, e = .returned (.agg #[.int .i64 (join_val kd l).f0, .int .i64 (join_val kd l).f1, .int .i64 (join_val kd l).f2, v3]) ∧ Kd.V k24 24 w' w.heap.size (fun k => P k ∨ w.heap.size ≤ k) v3 (join_val kd l).f3 ∧ Below w.heap.size w w' := by
  have hu24 := Tryd.underlying24
  have hb := ((Below.refl w.heap.size w).alloc (Nat.le_refl _) (.cells #[.int .i64 kd] 3)).alloc (by simp) (.cells #[.int .i64 0, .int .i64 0, .int .i64 0, .slice none 0 0] 24)
  have k1 := ContainsFunc_calls 54 #[.pointer (some ⟨w.heap.size, 0, none⟩)] (fun x => if x.f0 = 1 then x.f1 != idleV kd else false) eg54 A c l _ (Kd.C_below (Kd.V_reads' hV).2.2 hb) (pred_off w.heap.size kd hk l _ (by simp) (hL.below hb))
  have hbx : ∀ w2, Below ((w.alloc (.cells #[.int .i64 kd] 3)).alloc (.cells #[.int .i64 0, .int .i64 0, .int .i64 0, .slice none 0 0] 24)).heap.size ((w.alloc (.cells #[.int .i64 kd] 3)).alloc (.cells #[.int .i64 0, .int .i64 0, .int .i64 0, .slice none 0 0] 24)) w2 → w2.heap[w.heap.size]? = some (.cells #[.int .i64 kd] 3 (0, 0)) ∧ w2.heap[w.heap.size + 1]? = some (.cells #[.int .i64 0, .int .i64 0, .int .i64 0, .slice none 0 0] 24 (0, 0)) ∧ Laid w2 := by
    intro w2 h2
    have e1 : ((w.alloc (.cells #[.int .i64 kd] 3)).alloc (.cells #[.int .i64 0, .int .i64 0, .int .i64 0, .slice none 0 0] 24)).heap[w.heap.size]? = some (.cells #[.int .i64 kd] 3 (0, 0)) := (Below.heap_alloc _ _ _ (by simp)).trans (World.alloc_heap_new w _)
    have e2 := World.alloc_heap_new (w.alloc (.cells #[.int .i64 kd] 3)) (.cells #[.int .i64 0, .int .i64 0, .int .i64 0, .slice none 0 0] 24)
    rw [World.size_alloc] at e2
    exact ⟨(h2.block _ (by simp; omega)).trans e1, (h2.block _ (by simp)).trans e2, (hL.below hb).below h2⟩
  have HBX := Lib.hid hbx
  have HB := Lib.hid hb
  have HV := Lib.hid hV
  have HL := Lib.hid hL
  clear hbx hb hV hL
  cases ha : (l.any fun x => if x.f0 = 1 then x.f1 != idleV kd else false) with
  | true =>
    rw [ha] at k1
    have ev : join_val kd l = ⟨1, 1 - idleV kd, 0, []⟩ := by unfold join_val; rw [if_pos ha]
    rw [ev]
    clear ev ha
    go_enter Tryd.func42, Tryd.ntmps42
    go_wp2_with fail
    refine k1.mono ?_
    rintro e w2 ⟨rfl, hb2⟩
    obtain ⟨q1, q2, q3⟩ := HBX.out w2 hb2
    have hs2 := hb2.size
    simp only [World.size_alloc] at hs2
    have e0 : w2.cell? ⟨w.heap.size, 0, none⟩ = some (.int .i64 kd) := blk_cell q1 0
    have hfin : ∀ (u : Int) (w3 : World) (v3 : Value), Below w2.heap.size w2 w3 → Kd.R k24 24 w3 w2.heap.size (fun _ => True) v3 ([] : List S24) → ∃ B3, v3 = .slice B3 0 0 ∨ True := fun _ _ _ _ _ => ⟨none, .inr trivial⟩
    clear hfin
    rcases hk with rfl | rfl
    · have e4 : w2.cell? ⟨0, 4, none⟩ = some (.int .i64 1) := q3.1
      go_wp2_with (go_at_call 41; refine (flat_constant.calls _ _ _ _ _ _ rfl).mono ?_; rintro e w3 ⟨v3, rfl, hR, hb3⟩; obtain ⟨B3, c3, hv3, _, _⟩ := Kd.R_reads hR; subst hv3; have q2' := (hb3.block _ (by omega)).trans q2; have z0 : w3.cell? ⟨w.heap.size + 1, 0, none⟩ = some (.int .i64 0) := (blk_cell q2' 0).trans rfl; have y0 := blk_frozen q2' 0; have z1 : w3.cell? ⟨w.heap.size + 1, 1, none⟩ = some (.int .i64 0) := (blk_cell q2' 1).trans rfl; have y1 := blk_frozen q2' 1; have z2 : w3.cell? ⟨w.heap.size + 1, 2, none⟩ = some (.int .i64 0) := (blk_cell q2' 2).trans rfl; have y2 := blk_frozen q2' 2; have z3 : w3.cell? ⟨w.heap.size + 1, 3, none⟩ = some (.slice none 0 0) := (blk_cell q2' 3).trans rfl; have y3 := blk_frozen q2' 3)
      refine bodyPost_ret (results_cell_row rfl _ _ (w.heap.size + 1) 24 #[.int .i64 1, .int .i64 0, .int .i64 0, .slice B3 0 c3] (0, 0) _ rfl (four_blk _ _ _ _ q2') Tryd.underlying24 rfl (by kernel_rfl)) rfl ?_
      exact ⟨_, by rw [show (1 : Int) - idleV 4 = 0 by decide]; rfl, Kd.V_mk (xs := ([] : List S24)) (c := c3) (Nat.zero_le _) (fun W' _ => ⟨rfl, by decide, fun h => absurd h (by decide)⟩), four_below _ _ _ _ (below_step HB.out ((hb2.trans (hb3.mono hb2.size)))) (by omega)⟩
    · have e4 : w2.cell? ⟨0, 5, none⟩ = some (.int .i64 0) := q3.2
      go_wp2_with (go_at_call 41; refine (flat_constant.calls _ _ _ _ _ _ rfl).mono ?_; rintro e w3 ⟨v3, rfl, hR, hb3⟩; obtain ⟨B3, c3, hv3, _, _⟩ := Kd.R_reads hR; subst hv3; have q2' := (hb3.block _ (by omega)).trans q2; have z0 : w3.cell? ⟨w.heap.size + 1, 0, none⟩ = some (.int .i64 0) := (blk_cell q2' 0).trans rfl; have y0 := blk_frozen q2' 0; have z1 : w3.cell? ⟨w.heap.size + 1, 1, none⟩ = some (.int .i64 0) := (blk_cell q2' 1).trans rfl; have y1 := blk_frozen q2' 1; have z2 : w3.cell? ⟨w.heap.size + 1, 2, none⟩ = some (.int .i64 0) := (blk_cell q2' 2).trans rfl; have y2 := blk_frozen q2' 2; have z3 : w3.cell? ⟨w.heap.size + 1, 3, none⟩ = some (.slice none 0 0) := (blk_cell q2' 3).trans rfl; have y3 := blk_frozen q2' 3)
      refine bodyPost_ret (results_cell_row rfl _ _ (w.heap.size + 1) 24 #[.int .i64 1, .int .i64 1, .int .i64 0, .slice B3 0 c3] (0, 0) _ rfl (four_blk _ _ _ _ q2') Tryd.underlying24 rfl (by kernel_rfl)) rfl ?_
      exact ⟨_, by rw [show (1 : Int) - idleV 5 = 1 by decide]; rfl, Kd.V_mk (xs := ([] : List S24)) (c := c3) (Nat.zero_le _) (fun W' _ => ⟨rfl, by decide, fun h => absurd h (by decide)⟩), four_below _ _ _ _ (below_step HB.out ((hb2.trans (hb3.mono hb2.size)))) (by omega)⟩
  | false =>
    rw [ha] at k1
    have ev : join_val kd l = (match flatL kd (l.filter fun x => x.f0 != 1) with
      | [] => ⟨1, idleV kd, 0, []⟩
      | [x] => x
      | x :: y :: r => ⟨kd, 0, 0, x :: y :: r⟩) := by unfold join_val; rw [if_neg (by rw [ha]; simp)]
    generalize join_val kd l = r at ev ⊢
    clear ha
    have k2 : ∀ w2, Below w.heap.size w w2 → Calls Tryd.prog 30 #[.slice A l.length c, .func (.func 45) #[] #[]] w2 fun e w' => ∃ v : Value, e = .returned v ∧ Kd.N k24 24 w' w2.heap.size (fun k => (P k ∧ k < w.heap.size) ∨ w2.heap.size ≤ k) v (l.filter fun x => x.f0 != 1) ∧ Below w2.heap.size w2 w' :=
      fun w2 h2 => kept_calls 45 #[] (fun x => x.f0 != 1) eg45 (fun k => P k ∧ k < w.heap.size) A c l w2 (Kd.V_map (Kd.V_below (Kd.V_bound HV.out) h2) (fun _ hf => hf)) (pred_open l w2) hroom1
    have hlen : (l.filter fun x => x.f0 != 1).length ≤ l.length := List.length_filter_le _ _
    generalize (l.filter fun x => x.f0 != 1) = ys at k2 hlen hroom2 ev
    have HEV := Lib.hid ev
    clear ev
    have K2 := Lib.hid k2
    have HR1 := Lib.hid hroom1
    have HR2 := Lib.hid hroom2
    clear k2 hroom1 hroom2
    go_enter Tryd.func42, Tryd.ntmps42
    go_wp2_with fail
    refine k1.mono ?_
    rintro e w2 ⟨rfl, hb2⟩
    obtain ⟨q1, q2, q3⟩ := HBX.out w2 hb2
    have hs2 := hb2.size
    simp only [World.size_alloc] at hs2
    have hw2 : Below w.heap.size w w2 := below_step HB.out hb2
    go_wp2_with fail
    refine (K2.out w2 hw2).mono ?_
    rintro e w3 ⟨v3, rfl, hN, hb3⟩
    obtain ⟨Ak, ck, rfl⟩ := Kd.N_slice hN
    have q1' := (hb3.block _ (by omega)).trans q1
    have q2' := (hb3.block _ (by omega)).trans q2
    have hs3 : w2.heap.size ≤ w3.heap.size := hb3.size
    have hw3 : Below w.heap.size w w3 := below_step hw2 hb3
    have HN := Lib.hid hN
    have HQ1 := Lib.hid q1'
    have HQ2 := Lib.hid q2'
    have HW3 := Lib.hid hw3
    have HC := Lib.hid (Kd.N_reads' hN).2.2
    have hylen := (Kd.N_reads' hN).2.2.2.1
    clear hN q1 q2 q1' q2' hb3 hw3 K2 k1 hb2
    go_wp2
    go_loopg [5, 19] ys.length (fun gg s5 s19 wr => ∃ kk : Nat, kk ≤ ys.length ∧ ys.length - kk ≤ gg ∧ s19 = .int .i64 kk ∧ Aside0 (Below w3.heap.size w3 wr) ∧ Aside0 (Kd.N k24 24 wr w3.heap.size (fun k => (P k ∨ w.heap.size ≤ k) ∧ k ≠ w.heap.size + 1) s5 (flatL kd (ys.take kk))))
    case atStart => exact ⟨0, Nat.zero_le _, by omega, rfl, ⟨Below.refl _ _⟩, ⟨Kd.N_nil _ _ _ _ _⟩⟩
    case round =>
      obtain ⟨kk, hkk, hg, rfl, HB3, HN3⟩ := hrel
      by_cases hlt : kk < ys.length
      · have hltz : (kk : Int) < (ys.length : Int) := by omega
        have hd : flatL kd (ys.take (kk + 1)) = flatL kd (ys.take kk) ++ (if (rd_T24 ys (kk : Int)).f0 = kd then (rd_T24 ys (kk : Int)).f3 else [rd_T24 ys (kk : Int)]) := by
          rw [List.take_succ_eq_append_getElem hlt, flatL_append]
          have : rd_T24 ys (kk : Int) = ys[kk] := by simp [rd_T24, hlt]
          rw [this]
          simp [flatL]
        have hle : (flatL kd (ys.take (kk + 1))).length ≤ (flatL kd ys).length := by
          have h1 : flatL kd ys = flatL kd (ys.take (kk + 1)) ++ flatL kd (ys.drop (kk + 1)) := by rw [← flatL_append, List.take_append_drop]
          rw [h1, List.length_append]
          omega
        obtain ⟨ad, A3, c3, rfl, hx0, hx1, hx2, hx3, hl3, hi3⟩ := at_T24 HC.out (kk : Int) (by omega) hltz
        obtain ⟨ce, hce, hMe, hcc⟩ := Kd.V_get (Kd.N_V (base' := 0) HN.out) z24 (kk : Int) (by omega) hltz
        replace hMe : Kd.FK k24 w3 _ (rd_T24 ys (kk : Int)) ce := hMe
        obtain ⟨ua3, uc3, rfl, ul3, ge3⟩ := k24_openF hMe
        have hv3 := hcc 3 _ rfl
        rw [add_field _ _ 3 (by omega)] at hv3
        replace hv3 := Option.some.inj (hv3.symm.trans hx3)
        injection hv3 with hva hvn hvc
        rw [hva, hvc] at hMe
        rw [hva] at ge3
        have HK := Lib.hid (Kd.FK_bound hMe)
        have HF := Lib.hid (Kd.F_bound ge3)
        clear hva hvn hvc ge3 ul3 hcc hce hMe
        replace hx0 := (HB3.out.cell (World.block_lt_of_cell? w3 _ hx0)).trans hx0
        replace hx1 := (HB3.out.cell (World.block_lt_of_cell? w3 _ hx1)).trans hx1
        replace hx2 := (HB3.out.cell (World.block_lt_of_cell? w3 _ hx2)).trans hx2
        replace hx3 := (HB3.out.cell (World.block_lt_of_cell? w3 _ hx3)).trans hx3
        rw [Int.toNat_natCast] at hx0 hx1 hx2 hx3
        generalize rd_T24 ys (kk : Int) = y at hx0 hx1 hx2 hx3 hd hl3 hi3 HK HF
        have hq1 := (HB3.out.block _ (Array.getElem?_eq_some_iff.1 HQ1.out).1).trans HQ1.out
        have e1 : (wr.alloc (.cells #[.int .i64 y.f0, .int .i64 y.f1, .int .i64 y.f2, .slice A3 y.f3.length c3] 24)).cell? ⟨w.heap.size, 0, none⟩ = some (.int .i64 kd) := blk_cell (alloc_lt (Array.getElem?_eq_some_iff.1 hq1).1 hq1) 0
        have HD := Lib.hid hd
        have HLE := Lib.hid hle
        have HB4 : Aside0 (Below w3.heap.size w3 (wr.alloc (.cells #[.int .i64 y.f0, .int .i64 y.f1, .int .i64 y.f2, .slice A3 y.f3.length c3] 24))) := ⟨HB3.out.alloc HB3.out.size _⟩
        clear hd hle hi3 hq1
        by_cases hky : y.f0 = kd
        · have hkb : (y.f0 == kd) = true := beq_iff_eq.2 hky
          have hd := HD.out
          rw [if_pos hky] at hd
          have HD2 := Lib.hid hd
          have HKD := Lib.hid hky
          clear hd hky HD
          have HF4 := Aside0.mk (Kd.F_step HF.out (fun k hk hlt => HB4.out.block k hk.2))
          go_wp2_with (first | ((with_reducible refine gate_builtin (b := .append) (xs := #[.tmp 27, .tmp 29]) rfl ?_); at_builtin; refine Kd.N_append_rows k24 (w0 := w3) w3.heap.size rfl (.tmp 27) (.tmp 29) 22 24 (.agg #[(.int .i64 0), (.int .i64 0), (.int .i64 0), (.slice none 0 0)]) 48 rfl Tryd.underlying22 info24 rfl (by decide) (by omega) u5 (flatL kd (ys.take kk)) y.f3 _ _ _ (fun k => (P k ∨ w.heap.size ≤ k) ∧ k ≠ w.heap.size + 1) (fun k => ((P k ∨ w.heap.size ≤ k) ∧ k ≠ w.heap.size + 1) ∧ k < w3.heap.size) rfl rfl ?aO ?aR ?aK ?aF ?aB ?aS ?aL ?_; (case aR => exact Kd.F_mono HF4.out (fun k hk => ⟨hk.1.elim (fun h => ⟨.inl h.1, by have := h.2; omega⟩) (fun h => ⟨.inr (by omega), by omega⟩), hk.2⟩)); (case aK => exact fun k hk => ⟨hk.1, fun he => by have h1 := Kd.N_base HN3.out k he.symm; have h2 := hk.2; omega⟩); (case aF => exact fun k hk => (show (P k ∨ w.heap.size ≤ k) ∧ k ≠ w.heap.size + 1 from by have h1 := HB4.out.size; exact ⟨.inr (by omega), by omega⟩)); (case aO => exact Kd.N_alloc HN3.out _); (case aB => exact HB4.out); (case aS => exact HB4.out.size); (case aL => have h1 := HR2.out; have h2 := HLE.out; have h3 := congrArg List.length HD2.out; rw [List.length_append] at h3; omega); intro v1 w7 ho hb hg hat; rw [← HD2.out] at ho; have HN7 := Aside0.mk ho; have HB7 := Aside0.mk hb; clear ho hb hg hat))
          go_roundg (ys.length - (kk + 1))
          case measure => omega
          case rel => exact ⟨kk + 1, by omega, by omega, by go_num, ⟨HB7.out⟩, ⟨HN7.out⟩⟩
        · have hkb : (y.f0 == kd) = false := beq_eq_false_iff_ne.2 hky
          have hd := HD.out
          rw [if_neg hky] at hd
          have HD2 := Lib.hid hd
          clear hd hky HD
          have HK4 := Aside0.mk (Kd.FK_step HK.out (fun k hk hlt => HB4.out.block k hk.2))
          go_wp2_with (first | ((with_reducible refine gate_builtin (b := .append) (xs := #[.tmp 31, .tmp 33]) rfl ?_); at_builtin; refine Kd.N_append k24 (w0 := w3) w3.heap.size rfl (.tmp 31) (.tmp 33) 22 24 (.agg #[(.int .i64 0), (.int .i64 0), (.int .i64 0), (.slice none 0 0)]) 48 rfl Tryd.underlying22 info24 rfl (by decide) (by omega) u5 (flatL kd (ys.take kk)) y [.int .i64 y.f0, .int .i64 y.f1, .int .i64 y.f2, .slice A3 y.f3.length c3] (fun k => (P k ∨ w.heap.size ≤ k) ∧ k ≠ w.heap.size + 1) (fun k => ((P k ∨ w.heap.size ≤ k) ∧ k ≠ w.heap.size + 1) ∧ k < w3.heap.size) rfl (by rw [World.size_alloc]; rfl) ?aP ?aK ?aF ?aO ?aB ?aS ?aL ?_; (case aP => exact Kd.FK_mono HK4.out (fun k hk => ⟨hk.1.elim (fun h => ⟨.inl h.1, by have := h.2; omega⟩) (fun h => ⟨.inr (by omega), by omega⟩), hk.2⟩)); (case aK => exact fun k hk => ⟨hk.1, fun he => by have h1 := Kd.N_base HN3.out k he.symm; have h2 := hk.2; omega⟩); (case aF => exact fun k hk => (show (P k ∨ w.heap.size ≤ k) ∧ k ≠ w.heap.size + 1 from by have h1 := HB4.out.size; exact ⟨.inr (by omega), by omega⟩)); (case aO => exact Kd.N_alloc HN3.out _); (case aB => exact HB4.out); (case aS => exact HB4.out.size); (case aL => have h1 := HR2.out; have h2 := HLE.out; have h3 := congrArg List.length HD2.out; rw [List.length_append] at h3; simp at h3; omega); intro v1 w7 ho hb hg hat; rw [← HD2.out] at ho; have HN7 := Aside0.mk ho; have HB7 := Aside0.mk hb; clear ho hb hg hat))
          go_roundg (ys.length - (kk + 1))
          case measure => omega
          case rel => exact ⟨kk + 1, by omega, by omega, by go_num, ⟨HB7.out⟩, ⟨HN7.out⟩⟩
      · have hltz : ¬ (kk : Int) < (ys.length : Int) := by omega
        have hkk2 : kk = ys.length := by omega
        subst hkk2
        have hn := HN3.out
        rw [List.take_length] at hn
        have hq1 := (HB3.out.block _ (Array.getElem?_eq_some_iff.1 HQ1.out).1).trans HQ1.out
        have hq2 := (HB3.out.block _ (Array.getElem?_eq_some_iff.1 HQ2.out).1).trans HQ2.out
        have hwr : Below w.heap.size w wr := HW3.out.trans (HB3.out.mono HW3.out.size)
        have hLr := HL.out.below hwr
        have e1 : wr.cell? ⟨w.heap.size, 0, none⟩ = some (.int .i64 kd) := blk_cell hq1 0
        have HR3 := HR2.out
        clear HR2 HN3
        have hev := HEV.out
        clear HEV
        generalize flatL kd ys = zs at hn HR3 hev
        obtain ⟨Af, cf, rfl⟩ := Kd.N_slice hn
        have HN4 := Lib.hid hn
        have HWR := Lib.hid hwr
        have HQ4 := Lib.hid hq2
        have HEV := Lib.hid hev
        clear hn hwr hq1 hq2 hev
        have hwr1 : w.heap.size + 2 ≤ wr.heap.size := by have := HB3.out.size; omega
        match zs, HN4, HR3, HEV with
        | [], HN4, HR3, HEV =>
          have HER := Lib.hid (show r = (⟨1, idleV kd, 0, []⟩ : S24) from HEV.out)
          clear HEV
          have q2' := HQ4.out
          clear HN4 HR3
          rcases hk with rfl | rfl
          · have e4 : wr.cell? ⟨0, 4, none⟩ = some (.int .i64 1) := hLr.1
            go_wp2_with (go_at_call 41; refine (flat_constant.calls _ _ _ _ _ _ rfl).mono ?_; rintro e w4 ⟨v4, rfl, hR, hb4⟩; obtain ⟨B3, c3, hv3, _, _⟩ := Kd.R_reads hR; subst hv3; have q2'' := (hb4.block _ (by omega)).trans q2'; have z0 : w4.cell? ⟨w.heap.size + 1, 0, none⟩ = some (.int .i64 0) := (blk_cell q2'' 0).trans rfl; have y0 := blk_frozen q2'' 0; have z1 : w4.cell? ⟨w.heap.size + 1, 1, none⟩ = some (.int .i64 0) := (blk_cell q2'' 1).trans rfl; have y1 := blk_frozen q2'' 1; have z2 : w4.cell? ⟨w.heap.size + 1, 2, none⟩ = some (.int .i64 0) := (blk_cell q2'' 2).trans rfl; have y2 := blk_frozen q2'' 2; have z3 : w4.cell? ⟨w.heap.size + 1, 3, none⟩ = some (.slice none 0 0) := (blk_cell q2'' 3).trans rfl; have y3 := blk_frozen q2'' 3)
            refine bodyPost_ret (results_cell_row rfl _ _ (w.heap.size + 1) 24 #[.int .i64 1, .int .i64 1, .int .i64 0, .slice B3 0 c3] (0, 0) _ rfl (four_blk _ _ _ _ q2'') Tryd.underlying24 rfl (by kernel_rfl)) rfl ?_
            rw [HER.out]
            exact ⟨_, by rw [show idleV 4 = 1 by decide]; rfl, Kd.V_mk (xs := ([] : List S24)) (c := c3) (Nat.zero_le _) (fun W' _ => ⟨rfl, by decide, fun h => absurd h (by decide)⟩), four_below _ _ _ _ (below_step HWR.out hb4) (by omega)⟩
          · have e4 : wr.cell? ⟨0, 5, none⟩ = some (.int .i64 0) := hLr.2
            go_wp2_with (go_at_call 41; refine (flat_constant.calls _ _ _ _ _ _ rfl).mono ?_; rintro e w4 ⟨v4, rfl, hR, hb4⟩; obtain ⟨B3, c3, hv3, _, _⟩ := Kd.R_reads hR; subst hv3; have q2'' := (hb4.block _ (by omega)).trans q2'; have z0 : w4.cell? ⟨w.heap.size + 1, 0, none⟩ = some (.int .i64 0) := (blk_cell q2'' 0).trans rfl; have y0 := blk_frozen q2'' 0; have z1 : w4.cell? ⟨w.heap.size + 1, 1, none⟩ = some (.int .i64 0) := (blk_cell q2'' 1).trans rfl; have y1 := blk_frozen q2'' 1; have z2 : w4.cell? ⟨w.heap.size + 1, 2, none⟩ = some (.int .i64 0) := (blk_cell q2'' 2).trans rfl; have y2 := blk_frozen q2'' 2; have z3 : w4.cell? ⟨w.heap.size + 1, 3, none⟩ = some (.slice none 0 0) := (blk_cell q2'' 3).trans rfl; have y3 := blk_frozen q2'' 3)
            refine bodyPost_ret (results_cell_row rfl _ _ (w.heap.size + 1) 24 #[.int .i64 1, .int .i64 0, .int .i64 0, .slice B3 0 c3] (0, 0) _ rfl (four_blk _ _ _ _ q2'') Tryd.underlying24 rfl (by kernel_rfl)) rfl ?_
            rw [HER.out]
            exact ⟨_, by rw [show idleV 5 = 0 by decide]; rfl, Kd.V_mk (xs := ([] : List S24)) (c := c3) (Nat.zero_le _) (fun W' _ => ⟨rfl, by decide, fun h => absurd h (by decide)⟩), four_below _ _ _ _ (below_step HWR.out hb4) (by omega)⟩
        | [z], HN4, HR3, HEV =>
          have HER := Lib.hid (show r = z from HEV.out)
          clear HEV
          obtain ⟨ad, A3, c3, rfl, hx0, hx1, hx2, hx3, hl3, hi3⟩ := at_T24 (Kd.N_reads' HN4.out).2.2 0 (by omega) (by simp)
          obtain ⟨ce, hce, hMe, hcc⟩ := Kd.V_get (Kd.N_V (base' := 0) HN4.out) z24 0 (by omega) (by simp)
          replace hMe : Kd.FK k24 wr _ z ce := hMe
          obtain ⟨ua3, uc3, rfl, ul3, ge3⟩ := k24_openF hMe
          have hv3 := hcc 3 _ rfl
          rw [add_field _ _ 3 (by omega)] at hv3
          replace hv3 := Option.some.inj (hv3.symm.trans hx3)
          injection hv3 with hva hvn hvc
          rw [hva] at ge3
          have HF := Lib.hid ge3
          clear hva hvn hvc ge3 ul3 hcc hce hMe HR3 HN4 hi3
          have hrz : rd_T24 [z] 0 = z := rfl
          have had : ad.add (Int.toNat 0 * 4) = ad := by first | rfl | simp | (cases ad; simp [Addr.add])
          rw [hrz, had] at hx0 hx1 hx2 hx3
          rw [hrz] at hl3
          clear hrz had
          have q2' := HQ4.out
          have z0 : wr.cell? ⟨w.heap.size + 1, 0, none⟩ = some (.int .i64 0) := (blk_cell q2' 0).trans rfl
          have y0 := blk_frozen q2' 0
          have z1 : wr.cell? ⟨w.heap.size + 1, 1, none⟩ = some (.int .i64 0) := (blk_cell q2' 1).trans rfl
          have y1 := blk_frozen q2' 1
          have z2 : wr.cell? ⟨w.heap.size + 1, 2, none⟩ = some (.int .i64 0) := (blk_cell q2' 2).trans rfl
          have y2 := blk_frozen q2' 2
          have z3 : wr.cell? ⟨w.heap.size + 1, 3, none⟩ = some (.slice none 0 0) := (blk_cell q2' 3).trans rfl
          have y3 := blk_frozen q2' 3
          have HL3 := Lib.hid hl3
          clear hl3 q2'
          go_wp2
          refine bodyPost_ret (results_cell_row rfl _ _ (w.heap.size + 1) 24 #[.int .i64 z.f0, .int .i64 z.f1, .int .i64 z.f2, .slice A3 z.f3.length c3] (0, 0) _ rfl (four_blk _ _ _ _ HQ4.out) Tryd.underlying24 rfl (by kernel_rfl)) rfl ?_
          rw [HER.out]
          exact ⟨_, rfl, Kd.V_mono (four_V _ _ _ _ (base := w.heap.size) (Kd.V_mk (e := 24) HL3.out HF.out) (fun k hk => hk.2)) (fun k hk => hk.1), four_below _ _ _ _ HWR.out (by omega)⟩
        | z :: zb :: zr, HN4, HR3, HEV =>
          have HER := Lib.hid (show r = (⟨kd, 0, 0, z :: zb :: zr⟩ : S24) from HEV.out)
          clear HEV
          have hn2 : 2 ≤ (z :: zb :: zr).length := by simp
          have HV4 := Lib.hid (Kd.N_V (base' := w.heap.size) HN4.out)
          clear HN4 HR3
          generalize (z :: zb :: zr).length = n at HV4 hn2 ⊢
          have hn3 : ((n : Int) == 0) = false := beq_eq_false_iff_ne.2 (by omega)
          have hn4 : ((n : Int) == 1) = false := beq_eq_false_iff_ne.2 (by omega)
          have q2' := HQ4.out
          have z0 : wr.cell? ⟨w.heap.size + 1, 0, none⟩ = some (.int .i64 0) := (blk_cell q2' 0).trans rfl
          have y0 := blk_frozen q2' 0
          have z1 : wr.cell? ⟨w.heap.size + 1, 1, none⟩ = some (.int .i64 0) := (blk_cell q2' 1).trans rfl
          have y1 := blk_frozen q2' 1
          have z2 : wr.cell? ⟨w.heap.size + 1, 2, none⟩ = some (.int .i64 0) := (blk_cell q2' 2).trans rfl
          have y2 := blk_frozen q2' 2
          have z3 : wr.cell? ⟨w.heap.size + 1, 3, none⟩ = some (.slice none 0 0) := (blk_cell q2' 3).trans rfl
          have y3 := blk_frozen q2' 3
          clear q2' hn2
          go_wp2
          refine bodyPost_ret (results_cell_row rfl _ _ (w.heap.size + 1) 24 #[.int .i64 kd, .int .i64 0, .int .i64 0, .slice Af n cf] (0, 0) _ rfl (four_blk _ _ _ _ HQ4.out) Tryd.underlying24 rfl (by kernel_rfl)) rfl ?_
          rw [HER.out]
          exact ⟨_, rfl, Kd.V_mono (four_V _ _ _ _ HV4.out (fun k hk => hk.2)) (fun k hk => hk.1), four_below _ _ _ _ HWR.out (by omega)⟩

end Go.Proofs.YtphegiohkggddaaDoor.PF
