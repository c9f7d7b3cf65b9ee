/- The law FlatDuality answers true. -/
import Derived.Test.YtphegiohkggddaaDoorValuesG
import Derived.Test.YtphegiohkggddaaDoorPureS
import Derived.Test.YtphegiohkggddaaDoorPFd
namespace Go.Proofs.YtphegiohkggddaaDoor.PF
open Go.RowKit Go.Proofs.YtphegiohkggddaaDoorW.PrintWords Go.Proofs.YtphegiohkggddaaDoorW.PrintLast Go.Proofs.YtphegiohkggddaaDoorW.PrintMore
set_option linter.unusedVariables false
set_option linter.unusedSimpArgs false

/-- A tree's negation, as the law makes it. -/
def notT (x : S24) : S24 := ⟨3, 0, 0, [x]⟩
theorem notT_val (A : List Bool) (x : S24) : flat_val A (notT x) = !flat_val A x := by
  rw [flat_val_3 A (show (notT x).f0 = 3 from rfl)]
  simp [notT]
theorem notT_fit {x : S24} (h : fitB x = true) : fitB (notT x) = true := by
  simp [notT, fitB, fitsB, h]
theorem S24_eta (y : S24) : (⟨y.f0, y.f1, y.f2, y.f3⟩ : S24) = y := by cases y; rfl
theorem bool_mix (r : Bool) : ((!r) == r) = false := by cases r <;> rfl
theorem bool_ne (r : Bool) : (r != r) = false := by cases r <;> rfl

theorem map_any (A : List Bool) (l : List S24) : (l.map notT).any (flat_val A) = !l.all (flat_val A) := by
  rw [List.any_map, Bool.eq_iff_iff, List.any_eq_true, Bool.not_eq_true', Bool.eq_false_iff, ne_eq, List.all_eq_true]
  constructor
  · rintro ⟨x, hx, hv⟩ h
    have h1 : flat_val A (notT x) = true := hv
    rw [notT_val, h x hx] at h1
    cases h1
  · intro h
    have ⟨x, hx, hv⟩ : ∃ x ∈ l, ¬ flat_val A x = true := by
      refine Classical.byContradiction fun hc => h fun x hx => Classical.byContradiction fun hv => hc ⟨x, hx, hv⟩
    refine ⟨x, hx, ?_⟩
    show flat_val A (notT x) = true
    rw [notT_val]
    cases hb : flat_val A x with
    | true => exact absurd hb hv
    | false => rfl
theorem map_all (A : List Bool) (l : List S24) : (l.map notT).all (flat_val A) = !l.any (flat_val A) := by
  rw [List.all_map, Bool.eq_iff_iff, List.all_eq_true, Bool.not_eq_true', Bool.eq_false_iff, ne_eq, List.any_eq_true]
  constructor
  · rintro h ⟨x, hx, hv⟩
    have h1 : flat_val A (notT x) = true := h x hx
    rw [notT_val, hv] at h1
    cases h1
  · intro h x hx
    show flat_val A (notT x) = true
    rw [notT_val]
    cases hb : flat_val A x with
    | true => exact absurd ⟨x, hx, hb⟩ h
    | false => rfl
theorem map_count (A : List Bool) : ∀ l : List S24, ((l.map notT).filter (flat_val A)).length + (l.filter (flat_val A)).length = l.length
  | [] => rfl
  | x :: l => by
    have ih := map_count A l
    rw [List.map_cons, List.filter_cons, List.filter_cons, notT_val]
    cases flat_val A x <;> simp <;> omega
theorem dual1 (A : List Bool) (l : List S24) : flat_val A ⟨4, 0, 0, l.map notT⟩ = !flat_val A ⟨5, 0, 0, l⟩ := by
  rw [flat_val_4 A rfl, flat_val_5 A rfl]; exact map_all A l
theorem dual2 (A : List Bool) (l : List S24) : flat_val A ⟨5, 0, 0, l.map notT⟩ = !flat_val A ⟨4, 0, 0, l⟩ := by
  rw [flat_val_5 A rfl, flat_val_4 A rfl]; exact map_any A l
theorem dual3 (A : List Bool) (k : Int) (l : List S24) : flat_val A ⟨6, 0, (l.length : Int) - k + 1, l.map notT⟩ = !flat_val A ⟨6, 0, k, l⟩ := by
  rw [flat_val_6 A rfl, flat_val_6 A rfl]
  show decide ((l.length : Int) - k + 1 ≤ (((l.map notT).filter (flat_val A)).length : Int)) = !decide (k ≤ ((l.filter (flat_val A)).length : Int))
  have := map_count A l
  rw [Bool.eq_iff_iff, decide_eq_true_iff, Bool.not_eq_true', decide_eq_false_iff_not]
  omega
theorem ne_not (r : Bool) : ((!r) != r) = true := by cases r <;> rfl
theorem ne_not' (r : Bool) : (r != (!r)) = true := by cases r <;> rfl
theorem node_fits {a b c : Int} {l : List S24} (h : l.length ≤ 20) (hf : ∀ x ∈ l, fitB x = true) : fitB ⟨a, b, c, l⟩ = true := by
  simp only [fitB, Bool.and_eq_true, decide_eq_true_eq]
  exact ⟨by omega, fitsB_of hf⟩

set_option maxHeartbeats 8000000 in
theorem duality_walk (l : List S24) (k : Int) (A : List Bool) (A0 : Option Addr) (c0 : Nat) (A1 : Option Addr) (c1 : Nat) (w : World) (hC : k24.C w A0 l.length l) (hc0 : l.length ≤ c0) (hA : Kd.C Kd.bool w A1 A.length A) (hc1 : A.length ≤ c1) (hL : Laid w) (hf : ∀ x ∈ l, fitB x = true)
    (hfew : ∀ x ∈ l, ∃ kf b, chalklineref11_Few.f kf x.f0 x.f1 x.f2 x.f3 = some b) :
    Calls Tryd.prog 7 #[.slice A0 l.length c0, .int .i64 k, .slice A1 A.length c1] w fun e w' => e = .returned (.bool true) ∧ Below w.heap.size w w' := by
  have hu24 := Tryd.underlying24
  have hbig := hC.2.1
  have hbig1 := hA.2.1
  have HC := Lib.hid hC
  have HA := Lib.hid hA
  have HL := Lib.hid hL
  have HF := Lib.hid hf
  have HFEW := Lib.hid hfew
  clear hL hC hA hf hfew
  by_cases h1 : (20 : Int) < (l.length : Int)
  · go_enter Tryd.func7, Tryd.ntmps7
    go_wp2_with fail
    refine (live_walk _ HL.out).mono ?_
    rintro e w2 ⟨rfl, hb2⟩
    go_wp2
    go_ret
    exact ⟨rfl, hb2⟩
  by_cases h2 : (1000 : Int) < (A.length : Int)
  · go_enter Tryd.func7, Tryd.ntmps7
    go_wp2_with fail
    refine (live_walk _ HL.out).mono ?_
    rintro e w2 ⟨rfl, hb2⟩
    go_wp2
    go_ret
    exact ⟨rfl, hb2⟩
  by_cases h3 : k < -1000
  · go_enter Tryd.func7, Tryd.ntmps7
    go_wp2_with fail
    refine (live_walk _ HL.out).mono ?_
    rintro e w2 ⟨rfl, hb2⟩
    go_wp2
    go_ret
    exact ⟨rfl, hb2⟩
  by_cases h4 : 1000 < k
  · go_enter Tryd.func7, Tryd.ntmps7
    go_wp2_with fail
    refine (live_walk _ HL.out).mono ?_
    rintro e w2 ⟨rfl, hb2⟩
    go_wp2
    go_ret
    exact ⟨rfl, hb2⟩
  have h20 := Lib.hid h1
  have hk3 := Lib.hid h3
  have hk4 := Lib.hid h4
  go_enter Tryd.func7, Tryd.ntmps7
  go_wp2_with fail
  refine (live_walk _ HL.out).mono ?_
  rintro e w2 ⟨rfl, hb2⟩
  have HB2 := Lib.hid hb2
  clear hb2 HL
  go_wp2_with (first | ((with_reducible refine gate_dst (N := 30) rfl ?_); refine Kd.N_lit k24 (w0 := w2) w2.heap.size 24 ?hg (N' := 30) ?hd (xs := ([] : List S24)) (inner := []) (ok := fun _ => True) (okp := fun _ => True) ?hr ?hp (fun _ hk => hk) trivial (Below.refl _ _) (Nat.le_refl _) (by simp) ?_; (case hd => rfl); (case hg => rfl); (case hr => first | (go_simp; done) | (go_simp; rfl)); (case hp => exact (Reps.none _ _)); intro v3 w3 ho3 hb3 hg_ hnew_; have HN0 := Lib.hid ho3; have HB0 := Lib.hid hb3; clear ho3 hb3 hg_ hnew_))
  clear h1 h2 h3 h4
  go_loopg [7, 8] l.length (fun gg s7 s8 wr => ∃ kk : Nat, kk ≤ l.length ∧ l.length - kk ≤ gg ∧ s8 = .int .i64 kk ∧ Aside0 (Below w2.heap.size w2 wr) ∧ Aside0 (Kd.N k24 24 wr w2.heap.size (fun _ => True) s7 ((l.take kk).map notT)))
  case atStart => exact ⟨0, Nat.zero_le _, by omega, rfl, ⟨HB0.out⟩, ⟨HN0.out⟩⟩
  case round =>
    obtain ⟨kk, hkk, hg, rfl, HB3, HN3⟩ := hrel
    have hbw : Below w.heap.size w wr := below_step HB2.out HB3.out
    by_cases hlt : kk < l.length
    · have hltz : (kk : Int) < (l.length : Int) := by omega
      have hm := rd_mem hlt
      have hd : (l.take (kk + 1)).map notT = (l.take kk).map notT ++ [notT (rd_T24 l (kk : Int))] := by
        rw [List.take_succ_eq_append_getElem hlt, List.map_append]
        have : rd_T24 l (kk : Int) = l[kk] := by simp [rd_T24, hlt]
        rw [this]
        rfl
      have hll : ((l.take kk).map notT).length ≤ kk := by rw [List.length_map, List.length_take]; omega
      obtain ⟨kf, b, hfb⟩ := HFEW.out _ hm
      have hfx := HF.out _ hm
      obtain ⟨ad, A3, c3, rfl, hx0, hx1, hx2, hx3, hl3, hi3⟩ := at_T24 HC.out (kk : Int) (by omega) hltz
      have hxw := And.intro hx0 (And.intro hx1 (And.intro hx2 hx3))
      rw [Int.toNat_natCast] at hxw
      replace hx0 := (hbw.cell (World.block_lt_of_cell? w _ hx0)).trans hx0
      replace hx1 := (hbw.cell (World.block_lt_of_cell? w _ hx1)).trans hx1
      replace hx2 := (hbw.cell (World.block_lt_of_cell? w _ hx2)).trans hx2
      replace hx3 := (hbw.cell (World.block_lt_of_cell? w _ hx3)).trans hx3
      rw [Int.toNat_natCast] at hx0 hx1 hx2 hx3
      generalize rd_T24 l (kk : Int) = y at hx0 hx1 hx2 hx3 hd hl3 hi3 hfb hfx hxw
      have HXw := Lib.hid hxw
      clear hxw
      generalize (l.take kk).map notT = ys at hd hll HN3
      have HD := Lib.hid hd
      have HI := Lib.hid hi3
      have HFX := Lib.hid hfx
      have HL3 := Lib.hid hl3
      have HLL := Lib.hid hll
      have kf1 := chalklineref11_Few.calls kf y.f0 y.f1 y.f2 A3 c3 y.f3 b wr (Kd.C_below hi3 hbw) hl3 hfb
      have KF := Lib.hid kf1
      clear hd hi3 hfx hl3 hll kf1 hfb hm
      go_wp2_with fail
      refine KF.out.mono ?_
      rintro e w4 ⟨rfl, hb4⟩
      clear KF
      cases b with
      | false =>
        go_wp2
        go_ret
        exact ⟨rfl, below_step hbw hb4⟩
      | true =>
        have hx0 := (hb4.cell (World.block_lt_of_cell? wr _ hx0)).trans hx0
        have hx1 := (hb4.cell (World.block_lt_of_cell? wr _ hx1)).trans hx1
        have hx2 := (hb4.cell (World.block_lt_of_cell? wr _ hx2)).trans hx2
        have hx3 := (hb4.cell (World.block_lt_of_cell? wr _ hx3)).trans hx3
        have HBW4 := Lib.hid (below_step hbw hb4)
        have HB4 := Lib.hid (below_step HB3.out hb4)
        have HN4 := Lib.hid (Kd.N_below HN3.out hb4)
        have hsz : w.heap.size ≤ w2.heap.size := HB2.out.size
        clear hb4 hbw
        have kn := chalklinelaw11_not.calls y.f0 y.f1 y.f2 (fun k => k < w.heap.size) A3 c3 y.f3 3 0 0 [⟨y.f0, y.f1, y.f2, y.f3⟩] w4 (Kd.V_map (Kd.V_below (V_of_C HI.out HL3.out 0) HBW4.out) (fun _ hf => hf)) rfl
        rw [S24_eta] at kn
        have KN := Lib.hid kn
        clear kn
        go_wp2_with fail
        refine KN.out.mono ?_
        rintro e w5 ⟨v5, rfl, hN5, hb5⟩
        obtain ⟨A5, c5, rfl⟩ := Kd.N_slice hN5
        have hf5 := k24_mkF w5 _ (notT y) (Kd.V_at (Kd.N_V (base' := 0) hN5)).2.1 (Kd.V_at (Kd.N_V (base' := 0) hN5)).2.2
        have HF5 := Lib.hid hf5
        have HB5 := Lib.hid (below_step HB4.out hb5)
        have HN5 := Lib.hid (Kd.N_below HN4.out hb5)
        have HLT := Lib.hid (Kd.N_lt HN4.out)
        have HBS := Lib.hid (Kd.N_base HN4.out)
        have hx0 := (hb5.cell (World.block_lt_of_cell? w4 _ hx0)).trans hx0
        have hx1 := (hb5.cell (World.block_lt_of_cell? w4 _ hx1)).trans hx1
        have hx2 := (hb5.cell (World.block_lt_of_cell? w4 _ hx2)).trans hx2
        have hx3 := (hb5.cell (World.block_lt_of_cell? w4 _ hx3)).trans hx3
        have HX := Lib.hid (And.intro hx0 (And.intro hx1 (And.intro hx2 hx3)))
        have HBW5 := Lib.hid (below_step HBW4.out hb5)
        have hs5 := hb5.size
        clear hf5 hN5 hb5 KN hx0 hx1 hx2 hx3
        go_wp2_with (first | ((with_reducible refine gate_builtin (b := .append) (xs := #[.tmp 43, .tmp 49]) rfl ?_); at_builtin; refine Kd.N_append k24 (w0 := w2) w2.heap.size rfl (.tmp 43) (.tmp 49) 22 24 (.agg #[(.int .i64 0), (.int .i64 0), (.int .i64 0), (.slice none 0 0)]) 48 rfl Tryd.underlying22 info24 rfl (by decide) (by omega) u7 ys (notT y) [.int .i64 3, .int .i64 0, .int .i64 0, .slice A5 1 c5] (fun _ => True) (fun k => k < w.heap.size ∨ w4.heap.size ≤ k) rfl rfl ?aP ?aK ?aF ?aO ?aB ?aS ?aL ?_; (case aP => exact HF5.out); (case aK => exact fun k hk => ⟨trivial, fun he => by have h1 := HBS.out k he.symm; have h2 := HLT.out k he.symm; rcases hk with h | h <;> omega⟩); (case aF => exact fun k hk => trivial); (case aO => exact HN5.out); (case aB => exact HB5.out); (case aS => exact HB5.out.size); (case aL => have h1 := h20.out; have h2 := HLL.out; omega); intro v6 w6 ho hb hg hat; rw [← HD.out] at ho; have HN7 := Aside0.mk ho; have HB7 := Aside0.mk hb; have hg6 := Lib.hid hg; have hat6 := Lib.hid hat; clear ho hb hg hat))
        have HBW6 := Lib.hid (below_step HB2.out HB7.out)
        have hx0 := (HBW6.out.cell (World.block_lt_of_cell? w _ HXw.out.1)).trans HXw.out.1
        have hx1 := (HBW6.out.cell (World.block_lt_of_cell? w _ HXw.out.2.1)).trans HXw.out.2.1
        have hx2 := (HBW6.out.cell (World.block_lt_of_cell? w _ HXw.out.2.2.1)).trans HXw.out.2.2.1
        have hx3 := (HBW6.out.cell (World.block_lt_of_cell? w _ HXw.out.2.2.2)).trans HXw.out.2.2.2
        have HE := Lib.hid (And.intro hx0 (And.intro hx1 (And.intro hx2 hx3)))
        clear HX HN5 HB5 HBW5 HF5 HLT HBS hg6 hat6 HBW4 HB4 HN4 hs5 hsz
        obtain ⟨r', hr'⟩ : ∃ r', r' = !flat_val A y := ⟨_, rfl⟩
        have n1 : ∀ W, Below w6.heap.size w6 W → Calls Tryd.prog 20 #[.agg #[.int .i64 y.f0, .int .i64 y.f1, .int .i64 y.f2, .slice A3 y.f3.length c3]] W fun e w' => ∃ g, e = .returned (.agg #[.int .i64 3, .int .i64 0, .int .i64 0, .slice (some ⟨g, 0, none⟩) 1 1]) ∧ k24.C w' (some ⟨g, 0, none⟩) 1 [y] ∧ W.heap.size + 2 ≤ g ∧ Below W.heap.size W w' :=
          fun W hW => not_calls y A3 c3 W (Kd.C_below (Kd.C_below HI.out HBW6.out) hW) HL3.out
        have v0 : ∀ W, Below w6.heap.size w6 W → Calls Tryd.prog 12 #[.agg #[.int .i64 y.f0, .int .i64 y.f1, .int .i64 y.f2, .slice A3 y.f3.length c3], .slice A1 A.length c1] W fun e w' => e = .returned (.bool (flat_val A y)) ∧ Below W.heap.size W w' :=
          fun W hW => value_at A y A3 c3 A1 c1 W (Kd.C_below (Kd.C_below HI.out HBW6.out) hW) HL3.out (Kd.C_below (Kd.C_below HA.out HBW6.out) hW) hc1 HFX.out
        have v1 : ∀ W g, Below w6.heap.size w6 W → k24.C W (some ⟨g, 0, none⟩) 1 [y] → Calls Tryd.prog 12 #[.agg #[.int .i64 3, .int .i64 0, .int .i64 0, .slice (some ⟨g, 0, none⟩) 1 1], .slice A1 A.length c1] W fun e w' => e = .returned (.bool r') ∧ Below W.heap.size W w' :=
          fun W g hW hg => by
            rw [hr', ← notT_val]
            exact value_at A (notT y) (some ⟨g, 0, none⟩) 1 A1 c1 W hg (Nat.le_refl _) (Kd.C_below (Kd.C_below HA.out HBW6.out) hW) hc1 (notT_fit HFX.out)
        have v2 : ∀ W g, Below w6.heap.size w6 W → k24.C W (some ⟨g, 0, none⟩) 1 [⟨3, 0, 0, [y]⟩] → Calls Tryd.prog 12 #[.agg #[.int .i64 3, .int .i64 0, .int .i64 0, .slice (some ⟨g, 0, none⟩) 1 1], .slice A1 A.length c1] W fun e w' => e = .returned (.bool (flat_val A y)) ∧ Below W.heap.size W w' :=
          fun W g hW hg => by
            have he : flat_val A y = flat_val A (notT (notT y)) := by rw [notT_val, notT_val]; simp
            rw [he]
            exact value_at A (notT (notT y)) (some ⟨g, 0, none⟩) 1 A1 c1 W hg (Nat.le_refl _) (Kd.C_below (Kd.C_below HA.out HBW6.out) hW) hc1 (notT_fit (notT_fit HFX.out))
        generalize flat_val A y = r at v0 v2 hr'
        have n3 : ∀ W g, Below w6.heap.size w6 W → k24.C W (some ⟨g, 0, none⟩) 1 [y] → Calls Tryd.prog 20 #[.agg #[.int .i64 3, .int .i64 0, .int .i64 0, .slice (some ⟨g, 0, none⟩) 1 1]] W fun e w' => ∃ g2, e = .returned (.agg #[.int .i64 3, .int .i64 0, .int .i64 0, .slice (some ⟨g2, 0, none⟩) 1 1]) ∧ k24.C w' (some ⟨g2, 0, none⟩) 1 [⟨3, 0, 0, [y]⟩] ∧ W.heap.size + 2 ≤ g2 ∧ Below W.heap.size W w' :=
          fun W g hW hg => not_calls ⟨3, 0, 0, [y]⟩ (some ⟨g, 0, none⟩) 1 W hg (Nat.le_refl _)
        have N3 := Lib.hid n3
        have N1 := Lib.hid n1
        have N2 := Lib.hid n1
        have V0 := Lib.hid v0
        have V0b := Lib.hid v0
        clear n1 v0 n3
        cases r with
        | true =>
          have hr2 : r' = false := hr'
          subst hr2
          have V1 := Lib.hid v1
          have V2 := Lib.hid v2
          clear v1 v2 hr'
          go_region_held3 (fun W => W.cell? (ad.add (kk * 4)) = some (.int .i64 y.f0) ∧ W.cell? ⟨(ad.add (kk * 4)).block, (ad.add (kk * 4)).off + 1, none⟩ = some (.int .i64 y.f1) ∧ W.cell? ⟨(ad.add (kk * 4)).block, (ad.add (kk * 4)).off + 2, none⟩ = some (.int .i64 y.f2) ∧ W.cell? ⟨(ad.add (kk * 4)).block, (ad.add (kk * 4)).off + 3, none⟩ = some (.slice A3 y.f3.length c3)) (first | exact ⟨(HB17.out.cell (World.block_lt_of_cell? w6 _ HE.out.1)).trans HE.out.1, (HB17.out.cell (World.block_lt_of_cell? w6 _ HE.out.2.1)).trans HE.out.2.1, (HB17.out.cell (World.block_lt_of_cell? w6 _ HE.out.2.2.1)).trans HE.out.2.2.1, (HB17.out.cell (World.block_lt_of_cell? w6 _ HE.out.2.2.2)).trans HE.out.2.2.2⟩ | exact ⟨(HB16.out.cell (World.block_lt_of_cell? w6 _ HE.out.1)).trans HE.out.1, (HB16.out.cell (World.block_lt_of_cell? w6 _ HE.out.2.1)).trans HE.out.2.1, (HB16.out.cell (World.block_lt_of_cell? w6 _ HE.out.2.2.1)).trans HE.out.2.2.1, (HB16.out.cell (World.block_lt_of_cell? w6 _ HE.out.2.2.2)).trans HE.out.2.2.2⟩ | exact ⟨(HB15.out.cell (World.block_lt_of_cell? w6 _ HE.out.1)).trans HE.out.1, (HB15.out.cell (World.block_lt_of_cell? w6 _ HE.out.2.1)).trans HE.out.2.1, (HB15.out.cell (World.block_lt_of_cell? w6 _ HE.out.2.2.1)).trans HE.out.2.2.1, (HB15.out.cell (World.block_lt_of_cell? w6 _ HE.out.2.2.2)).trans HE.out.2.2.2⟩ | exact ⟨(HB14.out.cell (World.block_lt_of_cell? w6 _ HE.out.1)).trans HE.out.1, (HB14.out.cell (World.block_lt_of_cell? w6 _ HE.out.2.1)).trans HE.out.2.1, (HB14.out.cell (World.block_lt_of_cell? w6 _ HE.out.2.2.1)).trans HE.out.2.2.1, (HB14.out.cell (World.block_lt_of_cell? w6 _ HE.out.2.2.2)).trans HE.out.2.2.2⟩ | exact ⟨(HB13.out.cell (World.block_lt_of_cell? w6 _ HE.out.1)).trans HE.out.1, (HB13.out.cell (World.block_lt_of_cell? w6 _ HE.out.2.1)).trans HE.out.2.1, (HB13.out.cell (World.block_lt_of_cell? w6 _ HE.out.2.2.1)).trans HE.out.2.2.1, (HB13.out.cell (World.block_lt_of_cell? w6 _ HE.out.2.2.2)).trans HE.out.2.2.2⟩ | exact ⟨(HB12.out.cell (World.block_lt_of_cell? w6 _ HE.out.1)).trans HE.out.1, (HB12.out.cell (World.block_lt_of_cell? w6 _ HE.out.2.1)).trans HE.out.2.1, (HB12.out.cell (World.block_lt_of_cell? w6 _ HE.out.2.2.1)).trans HE.out.2.2.1, (HB12.out.cell (World.block_lt_of_cell? w6 _ HE.out.2.2.2)).trans HE.out.2.2.2⟩ | exact ⟨(HB11.out.cell (World.block_lt_of_cell? w6 _ HE.out.1)).trans HE.out.1, (HB11.out.cell (World.block_lt_of_cell? w6 _ HE.out.2.1)).trans HE.out.2.1, (HB11.out.cell (World.block_lt_of_cell? w6 _ HE.out.2.2.1)).trans HE.out.2.2.1, (HB11.out.cell (World.block_lt_of_cell? w6 _ HE.out.2.2.2)).trans HE.out.2.2.2⟩ | exact HE.out | go_keep)
            (first
            | (go_at_call 20; refine (N1.out _ (by repeat (first | exact Below.refl _ _ | apply pw_below_drewN | apply below_drew1))).mono ?_; clear N1; rintro e z1 ⟨g1, rfl, hC1, _, hb1⟩; have HC11 := Lib.hid hC1; clear hC1; have HB11 : Hid (Below w6.heap.size w6 z1) := Lib.hid (below_step (by repeat (first | exact Below.refl _ _ | apply pw_below_drewN | apply below_drew1)) hb1); clear hb1)
            | (go_at_call 12; refine (V1.out _ g1 (by repeat (first | exact HB11.out | apply pw_below_drewN | apply below_drew1)) (Kd.C_below HC11.out (by repeat (first | exact Below.refl _ _ | apply pw_below_drewN | apply below_drew1)))).mono ?_; clear V1; rintro e z2 ⟨rfl, hb2⟩; have HB12 : Hid (Below w6.heap.size w6 z2) := Lib.hid (below_step (by repeat (first | exact HB11.out | apply pw_below_drewN | apply below_drew1)) hb2); clear hb2)
            | (go_at_call 12; refine (V0.out _ (by repeat (first | exact HB12.out | apply pw_below_drewN | apply below_drew1))).mono ?_; clear V0; rintro e z3 ⟨rfl, hb3⟩; have HB13 : Hid (Below w6.heap.size w6 z3) := Lib.hid (below_step (by repeat (first | exact HB12.out | apply pw_below_drewN | apply below_drew1)) hb3); clear hb3)
            | (go_at_call 20; refine (N2.out _ (by repeat (first | exact HB13.out | apply pw_below_drewN | apply below_drew1))).mono ?_; clear N2; rintro e z4 ⟨g4, rfl, hC4, _, hb4⟩; have HC14 := Lib.hid hC4; clear hC4; have HB14 : Hid (Below w6.heap.size w6 z4) := Lib.hid (below_step (by repeat (first | exact HB13.out | apply pw_below_drewN | apply below_drew1)) hb4); clear hb4)
            | (go_at_call 20; refine (N3.out _ g4 (by repeat (first | exact HB14.out | apply pw_below_drewN | apply below_drew1)) (Kd.C_below HC14.out (by repeat (first | exact Below.refl _ _ | apply pw_below_drewN | apply below_drew1)))).mono ?_; clear N3; rintro e z5 ⟨g5, rfl, hC5, _, hb5⟩; have HC15 := Lib.hid hC5; clear hC5; have HB15 : Hid (Below w6.heap.size w6 z5) := Lib.hid (below_step (by repeat (first | exact HB14.out | apply pw_below_drewN | apply below_drew1)) hb5); clear hb5)
            | (go_at_call 12; refine (V2.out _ g5 (by repeat (first | exact HB15.out | apply pw_below_drewN | apply below_drew1)) (Kd.C_below HC15.out (by repeat (first | exact Below.refl _ _ | apply pw_below_drewN | apply below_drew1)))).mono ?_; clear V2; rintro e z6 ⟨rfl, hb6⟩; have HB16 : Hid (Below w6.heap.size w6 z6) := Lib.hid (below_step (by repeat (first | exact HB15.out | apply pw_below_drewN | apply below_drew1)) hb6); clear hb6)
            | (go_at_call 12; refine (V0b.out _ (by repeat (first | exact HB16.out | apply pw_below_drewN | apply below_drew1))).mono ?_; clear V0b; rintro e z7 ⟨rfl, hb7⟩; have HB17 : Hid (Below w6.heap.size w6 z7) := Lib.hid (below_step (by repeat (first | exact HB16.out | apply pw_below_drewN | apply below_drew1)) hb7); clear hb7))
          go_wp2
          go_roundg (l.length - (kk + 1))
          case measure => omega
          case rel => exact ⟨kk + 1, by omega, by omega, by go_num, ⟨below_step HB7.out HB17.out⟩, ⟨Kd.N_below HN7.out HB17.out⟩⟩
        | false =>
          have hr2 : r' = true := hr'
          subst hr2
          have V1 := Lib.hid v1
          have V2 := Lib.hid v2
          clear v1 v2 hr'
          go_region_held3 (fun W => W.cell? (ad.add (kk * 4)) = some (.int .i64 y.f0) ∧ W.cell? ⟨(ad.add (kk * 4)).block, (ad.add (kk * 4)).off + 1, none⟩ = some (.int .i64 y.f1) ∧ W.cell? ⟨(ad.add (kk * 4)).block, (ad.add (kk * 4)).off + 2, none⟩ = some (.int .i64 y.f2) ∧ W.cell? ⟨(ad.add (kk * 4)).block, (ad.add (kk * 4)).off + 3, none⟩ = some (.slice A3 y.f3.length c3)) (first | exact ⟨(HB17.out.cell (World.block_lt_of_cell? w6 _ HE.out.1)).trans HE.out.1, (HB17.out.cell (World.block_lt_of_cell? w6 _ HE.out.2.1)).trans HE.out.2.1, (HB17.out.cell (World.block_lt_of_cell? w6 _ HE.out.2.2.1)).trans HE.out.2.2.1, (HB17.out.cell (World.block_lt_of_cell? w6 _ HE.out.2.2.2)).trans HE.out.2.2.2⟩ | exact ⟨(HB16.out.cell (World.block_lt_of_cell? w6 _ HE.out.1)).trans HE.out.1, (HB16.out.cell (World.block_lt_of_cell? w6 _ HE.out.2.1)).trans HE.out.2.1, (HB16.out.cell (World.block_lt_of_cell? w6 _ HE.out.2.2.1)).trans HE.out.2.2.1, (HB16.out.cell (World.block_lt_of_cell? w6 _ HE.out.2.2.2)).trans HE.out.2.2.2⟩ | exact ⟨(HB15.out.cell (World.block_lt_of_cell? w6 _ HE.out.1)).trans HE.out.1, (HB15.out.cell (World.block_lt_of_cell? w6 _ HE.out.2.1)).trans HE.out.2.1, (HB15.out.cell (World.block_lt_of_cell? w6 _ HE.out.2.2.1)).trans HE.out.2.2.1, (HB15.out.cell (World.block_lt_of_cell? w6 _ HE.out.2.2.2)).trans HE.out.2.2.2⟩ | exact ⟨(HB14.out.cell (World.block_lt_of_cell? w6 _ HE.out.1)).trans HE.out.1, (HB14.out.cell (World.block_lt_of_cell? w6 _ HE.out.2.1)).trans HE.out.2.1, (HB14.out.cell (World.block_lt_of_cell? w6 _ HE.out.2.2.1)).trans HE.out.2.2.1, (HB14.out.cell (World.block_lt_of_cell? w6 _ HE.out.2.2.2)).trans HE.out.2.2.2⟩ | exact ⟨(HB13.out.cell (World.block_lt_of_cell? w6 _ HE.out.1)).trans HE.out.1, (HB13.out.cell (World.block_lt_of_cell? w6 _ HE.out.2.1)).trans HE.out.2.1, (HB13.out.cell (World.block_lt_of_cell? w6 _ HE.out.2.2.1)).trans HE.out.2.2.1, (HB13.out.cell (World.block_lt_of_cell? w6 _ HE.out.2.2.2)).trans HE.out.2.2.2⟩ | exact ⟨(HB12.out.cell (World.block_lt_of_cell? w6 _ HE.out.1)).trans HE.out.1, (HB12.out.cell (World.block_lt_of_cell? w6 _ HE.out.2.1)).trans HE.out.2.1, (HB12.out.cell (World.block_lt_of_cell? w6 _ HE.out.2.2.1)).trans HE.out.2.2.1, (HB12.out.cell (World.block_lt_of_cell? w6 _ HE.out.2.2.2)).trans HE.out.2.2.2⟩ | exact ⟨(HB11.out.cell (World.block_lt_of_cell? w6 _ HE.out.1)).trans HE.out.1, (HB11.out.cell (World.block_lt_of_cell? w6 _ HE.out.2.1)).trans HE.out.2.1, (HB11.out.cell (World.block_lt_of_cell? w6 _ HE.out.2.2.1)).trans HE.out.2.2.1, (HB11.out.cell (World.block_lt_of_cell? w6 _ HE.out.2.2.2)).trans HE.out.2.2.2⟩ | exact HE.out | go_keep)
            (first
            | (go_at_call 20; refine (N1.out _ (by repeat (first | exact Below.refl _ _ | apply pw_below_drewN | apply below_drew1))).mono ?_; clear N1; rintro e z1 ⟨g1, rfl, hC1, _, hb1⟩; have HC11 := Lib.hid hC1; clear hC1; have HB11 : Hid (Below w6.heap.size w6 z1) := Lib.hid (below_step (by repeat (first | exact Below.refl _ _ | apply pw_below_drewN | apply below_drew1)) hb1); clear hb1)
            | (go_at_call 12; refine (V1.out _ g1 (by repeat (first | exact HB11.out | apply pw_below_drewN | apply below_drew1)) (Kd.C_below HC11.out (by repeat (first | exact Below.refl _ _ | apply pw_below_drewN | apply below_drew1)))).mono ?_; clear V1; rintro e z2 ⟨rfl, hb2⟩; have HB12 : Hid (Below w6.heap.size w6 z2) := Lib.hid (below_step (by repeat (first | exact HB11.out | apply pw_below_drewN | apply below_drew1)) hb2); clear hb2)
            | (go_at_call 12; refine (V0.out _ (by repeat (first | exact HB12.out | apply pw_below_drewN | apply below_drew1))).mono ?_; clear V0; rintro e z3 ⟨rfl, hb3⟩; have HB13 : Hid (Below w6.heap.size w6 z3) := Lib.hid (below_step (by repeat (first | exact HB12.out | apply pw_below_drewN | apply below_drew1)) hb3); clear hb3)
            | (go_at_call 20; refine (N2.out _ (by repeat (first | exact HB13.out | apply pw_below_drewN | apply below_drew1))).mono ?_; clear N2; rintro e z4 ⟨g4, rfl, hC4, _, hb4⟩; have HC14 := Lib.hid hC4; clear hC4; have HB14 : Hid (Below w6.heap.size w6 z4) := Lib.hid (below_step (by repeat (first | exact HB13.out | apply pw_below_drewN | apply below_drew1)) hb4); clear hb4)
            | (go_at_call 20; refine (N3.out _ g4 (by repeat (first | exact HB14.out | apply pw_below_drewN | apply below_drew1)) (Kd.C_below HC14.out (by repeat (first | exact Below.refl _ _ | apply pw_below_drewN | apply below_drew1)))).mono ?_; clear N3; rintro e z5 ⟨g5, rfl, hC5, _, hb5⟩; have HC15 := Lib.hid hC5; clear hC5; have HB15 : Hid (Below w6.heap.size w6 z5) := Lib.hid (below_step (by repeat (first | exact HB14.out | apply pw_below_drewN | apply below_drew1)) hb5); clear hb5)
            | (go_at_call 12; refine (V2.out _ g5 (by repeat (first | exact HB15.out | apply pw_below_drewN | apply below_drew1)) (Kd.C_below HC15.out (by repeat (first | exact Below.refl _ _ | apply pw_below_drewN | apply below_drew1)))).mono ?_; clear V2; rintro e z6 ⟨rfl, hb6⟩; have HB16 : Hid (Below w6.heap.size w6 z6) := Lib.hid (below_step (by repeat (first | exact HB15.out | apply pw_below_drewN | apply below_drew1)) hb6); clear hb6)
            | (go_at_call 12; refine (V0b.out _ (by repeat (first | exact HB16.out | apply pw_below_drewN | apply below_drew1))).mono ?_; clear V0b; rintro e z7 ⟨rfl, hb7⟩; have HB17 : Hid (Below w6.heap.size w6 z7) := Lib.hid (below_step (by repeat (first | exact HB16.out | apply pw_below_drewN | apply below_drew1)) hb7); clear hb7))
          go_wp2
          go_roundg (l.length - (kk + 1))
          case measure => omega
          case rel => exact ⟨kk + 1, by omega, by omega, by go_num, ⟨below_step HB7.out HB17.out⟩, ⟨Kd.N_below HN7.out HB17.out⟩⟩
    · have hltz : ¬ (kk : Int) < (l.length : Int) := by omega
      have hkk2 : kk = l.length := by omega
      subst hkk2
      have hn := HN3.out
      rw [List.take_length] at hn
      obtain ⟨Am, cm, rfl⟩ := Kd.N_slice hn
      have hml : (l.map notT).length = l.length := List.length_map ..
      have hmf : ∀ x ∈ l.map notT, fitB x = true := by
        intro x hx
        obtain ⟨y, hy, rfl⟩ := List.mem_map.1 hx
        exact notT_fit (HF.out y hy)
      have hl20 : l.length ≤ 20 := by have := h20.out; omega
      have d1 := dual1 A l
      have d2 := dual2 A l
      have d3 := dual3 A k l
      have HM := Lib.hid (Kd.N_reads' hn).2.2
      have HMC := Lib.hid (Kd.N_reads' hn).2.1
      have hmb := (Kd.N_reads' hn).2.2.2.1
      generalize l.map notT = m at hml hmf d1 d2 d3 HM HMC hmb
      have HF4m := Lib.hid (node_fits (a := 4) (b := 0) (c := 0) (by omega) hmf)
      have HF5m := Lib.hid (node_fits (a := 5) (b := 0) (c := 0) (by omega) hmf)
      have HF6m := Lib.hid (node_fits (a := 6) (b := 0) (c := (l.length : Int) - k + 1) (by omega) hmf)
      have HF4 := Lib.hid (node_fits (a := 4) (b := 0) (c := 0) hl20 HF.out)
      have HF5 := Lib.hid (node_fits (a := 5) (b := 0) (c := 0) hl20 HF.out)
      have HF6 := Lib.hid (node_fits (a := 6) (b := 0) (c := k) hl20 HF.out)
      obtain ⟨p1, hp1⟩ : ∃ p, flat_val A ⟨5, 0, 0, l⟩ = p := ⟨_, rfl⟩
      obtain ⟨p2, hp2⟩ : ∃ p, flat_val A ⟨4, 0, 0, l⟩ = p := ⟨_, rfl⟩
      obtain ⟨p3, hp3⟩ : ∃ p, flat_val A ⟨6, 0, k, l⟩ = p := ⟨_, rfl⟩
      rw [hp1] at d1
      rw [hp2] at d2
      rw [hp3] at d3
      obtain ⟨q1, hq1⟩ : ∃ q, (!p1) = q := ⟨_, rfl⟩
      obtain ⟨q2, hq2⟩ : ∃ q, (!p2) = q := ⟨_, rfl⟩
      obtain ⟨q3, hq3⟩ : ∃ q, (!p3) = q := ⟨_, rfl⟩
      have g1 : (q1 == p1) = false := by rw [← hq1]; cases p1 <;> rfl
      have g2 : (q2 == p2) = false := by rw [← hq2]; cases p2 <;> rfl
      have g3 : (p3 == q3) = false := by rw [← hq3]; cases p3 <;> rfl
      rw [hq1] at d1
      rw [hq2] at d2
      rw [hq3] at d3
      have D1 := Lib.hid d1
      have D2 := Lib.hid d2
      have D3 := Lib.hid d3
      have P1 := Lib.hid hp1
      have P2 := Lib.hid hp2
      have P3 := Lib.hid hp3
      have HB := Lib.hid hbw
      have HBm := Lib.hid (Below.refl wr.heap.size wr)
      clear d1 d2 d3 hp1 hp2 hp3 hq1 hq2 hq3 hml hmf hl20 hn HN3 hbw
      go_wp2_with fail
      refine (of_calls 4 0 Am m.length cm wr).mono ?_
      rintro e y1 ⟨rfl, hb⟩
      have HB' := Lib.hid (below_step HB.out hb)
      have HBm' := Lib.hid (below_step HBm.out hb)
      clear HB HBm hb
      have HB := HB'
      have HBm := HBm'
      clear HB' HBm'
      go_wp2_with fail
      refine (Value_C ⟨4, 0, 0, m⟩ A q1 Am cm A1 c1 y1 (Kd.C_below HM.out HBm.out) HMC.out (Kd.C_below HA.out HB.out) hc1 HF4m.out D1.out).mono ?_
      rintro e y2 ⟨rfl, hb⟩
      have HB' := Lib.hid (below_step HB.out hb)
      have HBm' := Lib.hid (below_step HBm.out hb)
      clear HB HBm hb
      have HB := HB'
      have HBm := HBm'
      clear HB' HBm'
      go_wp2_with fail
      refine (of_calls 5 0 A0 l.length c0 y2).mono ?_
      rintro e y3 ⟨rfl, hb⟩
      have HB' := Lib.hid (below_step HB.out hb)
      have HBm' := Lib.hid (below_step HBm.out hb)
      clear HB HBm hb
      have HB := HB'
      have HBm := HBm'
      clear HB' HBm'
      go_wp2_with fail
      refine (Value_C ⟨5, 0, 0, l⟩ A p1 A0 c0 A1 c1 y3 (Kd.C_below HC.out HB.out) hc0 (Kd.C_below HA.out HB.out) hc1 HF5.out P1.out).mono ?_
      rintro e y4 ⟨rfl, hb⟩
      have HB' := Lib.hid (below_step HB.out hb)
      have HBm' := Lib.hid (below_step HBm.out hb)
      clear HB HBm hb
      have HB := HB'
      have HBm := HBm'
      clear HB' HBm'
      go_wp2_with fail
      refine (of_calls 5 0 Am m.length cm y4).mono ?_
      rintro e y5 ⟨rfl, hb⟩
      have HB' := Lib.hid (below_step HB.out hb)
      have HBm' := Lib.hid (below_step HBm.out hb)
      clear HB HBm hb
      have HB := HB'
      have HBm := HBm'
      clear HB' HBm'
      go_wp2_with fail
      refine (Value_C ⟨5, 0, 0, m⟩ A q2 Am cm A1 c1 y5 (Kd.C_below HM.out HBm.out) HMC.out (Kd.C_below HA.out HB.out) hc1 HF5m.out D2.out).mono ?_
      rintro e y6 ⟨rfl, hb⟩
      have HB' := Lib.hid (below_step HB.out hb)
      have HBm' := Lib.hid (below_step HBm.out hb)
      clear HB HBm hb
      have HB := HB'
      have HBm := HBm'
      clear HB' HBm'
      go_wp2_with fail
      refine (of_calls 4 0 A0 l.length c0 y6).mono ?_
      rintro e y7 ⟨rfl, hb⟩
      have HB' := Lib.hid (below_step HB.out hb)
      have HBm' := Lib.hid (below_step HBm.out hb)
      clear HB HBm hb
      have HB := HB'
      have HBm := HBm'
      clear HB' HBm'
      go_wp2_with fail
      refine (Value_C ⟨4, 0, 0, l⟩ A p2 A0 c0 A1 c1 y7 (Kd.C_below HC.out HB.out) hc0 (Kd.C_below HA.out HB.out) hc1 HF4.out P2.out).mono ?_
      rintro e y8 ⟨rfl, hb⟩
      have HB' := Lib.hid (below_step HB.out hb)
      have HBm' := Lib.hid (below_step HBm.out hb)
      clear HB HBm hb
      have HB := HB'
      have HBm := HBm'
      clear HB' HBm'
      go_wp2_with fail
      refine (of_calls 6 k A0 l.length c0 y8).mono ?_
      rintro e y9 ⟨rfl, hb⟩
      have HB' := Lib.hid (below_step HB.out hb)
      have HBm' := Lib.hid (below_step HBm.out hb)
      clear HB HBm hb
      have HB := HB'
      have HBm := HBm'
      clear HB' HBm'
      go_wp2_with fail
      refine (Value_C ⟨6, 0, k, l⟩ A p3 A0 c0 A1 c1 y9 (Kd.C_below HC.out HB.out) hc0 (Kd.C_below HA.out HB.out) hc1 HF6.out P3.out).mono ?_
      rintro e y10 ⟨rfl, hb⟩
      have HB' := Lib.hid (below_step HB.out hb)
      have HBm' := Lib.hid (below_step HBm.out hb)
      clear HB HBm hb
      have HB := HB'
      have HBm := HBm'
      clear HB' HBm'
      go_wp2_with fail
      refine (of_calls 6 ((l.length : Int) - k + 1) Am m.length cm y10).mono ?_
      rintro e y11 ⟨rfl, hb⟩
      have HB' := Lib.hid (below_step HB.out hb)
      have HBm' := Lib.hid (below_step HBm.out hb)
      clear HB HBm hb
      have HB := HB'
      have HBm := HBm'
      clear HB' HBm'
      go_wp2_with fail
      refine (Value_C ⟨6, 0, (l.length : Int) - k + 1, m⟩ A q3 Am cm A1 c1 y11 (Kd.C_below HM.out HBm.out) HMC.out (Kd.C_below HA.out HB.out) hc1 HF6m.out D3.out).mono ?_
      rintro e y12 ⟨rfl, hb⟩
      have HB' := Lib.hid (below_step HB.out hb)
      have HBm' := Lib.hid (below_step HBm.out hb)
      clear HB HBm hb
      have HB := HB'
      have HBm := HBm'
      clear HB' HBm'
      go_wp2
      go_ret
      exact ⟨rfl, HB.out⟩

end Go.Proofs.YtphegiohkggddaaDoor.PF
