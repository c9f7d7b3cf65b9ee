/- live() of chalklinelaw11 answers true. -/
import Derived.Test.YtphegiohkggddaaDoorTreesG
import Derived.Test.YtphegiohkggddaaDoorVarsG
import Derived.Test.YtphegiohkggddaaDoorValueG
namespace Go.Proofs.YtphegiohkggddaaDoor.PF
open Go.RowKit Go.Proofs.YtphegiohkggddaaDoorW.PrintWords Go.Proofs.YtphegiohkggddaaDoorW.PrintLast Go.Proofs.YtphegiohkggddaaDoorW.PrintMore
set_option linter.unusedVariables false
set_option linter.unusedSimpArgs false

theorem C_two {W : World} {g : Nat} {x y : S24} (cx cy : List Value) (h : W.heap[g]? = some (.cells (cx ++ cy).toArray 24 (0, 0))) (hx : k24.K W x cx) (hy : k24.K W y cy) : k24.C W (some ⟨g, 0, none⟩) 2 [x, y] :=
  C_rows [x, y] [cx, cy] (by simp) (by simpa using h) rfl (fun i x' c' h1 h2 => by
    match i, h1, h2 with
    | 0, h1, h2 => cases h1; cases h2; exact hx
    | 1, h1, h2 => cases h1; cases h2; exact hy)
theorem C_three {W : World} {g : Nat} {x y z : S24} (cx cy cz : List Value) (h : W.heap[g]? = some (.cells (cx ++ cy ++ cz).toArray 24 (0, 0))) (hx : k24.K W x cx) (hy : k24.K W y cy) (hz : k24.K W z cz) : k24.C W (some ⟨g, 0, none⟩) 3 [x, y, z] :=
  C_rows [x, y, z] [cx, cy, cz] (by simp) (by simpa [List.append_assoc] using h) rfl (fun i x' c' h1 h2 => by
    match i, h1, h2 with
    | 0, h1, h2 => cases h1; cases h2; exact hx
    | 1, h1, h2 => cases h1; cases h2; exact hy
    | 2, h1, h2 => cases h1; cases h2; exact hz)
theorem Cb_blk {W : World} {g : Nat} (xs : List Bool) (h : W.heap[g]? = some (.cells (xs.map Value.bool).toArray 4 (0, 0))) (hl : xs.length ≤ 1000000 := by decide) : Kd.C Kd.bool W (some ⟨g, 0, none⟩) xs.length xs := by
  refine Kd.C_of_reads (h1 := fun _ => rfl) (d := false) ⟨rfl, by omega, fun _ => ⟨_, rfl, fun j hj => ?_⟩⟩
  have := blk_cell h j
  rw [add_mk]
  refine this.trans ?_
  simp [hj]

/-- flat.Simple over a tree that the memory reads. -/
theorem Simple_C (t r : S24) (A : Option Addr) (c : Nat) (w : World) (hC : k24.C w A t.f3.length t.f3) (hc : t.f3.length ≤ c) (hL : Laid w) (hfit : made_fit t = true) (hr : simple_val t = r) :
    Calls Tryd.prog 15 #[.agg #[.int .i64 t.f0, .int .i64 t.f1, .int .i64 t.f2, .slice A t.f3.length c]] w fun e w' => ∃ A2 c2, e = .returned (.agg #[.int .i64 r.f0, .int .i64 r.f1, .int .i64 r.f2, .slice A2 r.f3.length c2]) ∧ r.f3.length ≤ c2 ∧ k24.C w' A2 r.f3.length r.f3 ∧ Below w.heap.size w w' := by
  subst hr
  refine (Simple_calls t _ A c w (V_of_C hC hc _) hL (fun _ => hfit)).mono ?_
  rintro e w' ⟨v3, rfl, hV, hb⟩
  obtain ⟨A2, c2, rfl⟩ := Kd.V_slice hV
  exact ⟨A2, c2, rfl, (Kd.V_reads' hV).2.1, (Kd.V_reads' hV).2.2, hb⟩
theorem Same_C (t u : S24) (r : Bool) (A0 : Option Addr) (c0 : Nat) (A1 : Option Addr) (c1 : Nat) (w : World) (h0 : k24.C w A0 t.f3.length t.f3) (hc0 : t.f3.length ≤ c0) (h1 : k24.C w A1 u.f3.length u.f3) (hc1 : u.f3.length ≤ c1) (hr : eqT t u = r) :
    Calls Tryd.prog 27 #[.agg #[.int .i64 t.f0, .int .i64 t.f1, .int .i64 t.f2, .slice A0 t.f3.length c0], .agg #[.int .i64 u.f0, .int .i64 u.f1, .int .i64 u.f2, .slice A1 u.f3.length c1]] w fun e w' => e = .returned (.bool r) ∧ Below w.heap.size w w' := by
  subst hr
  exact same_at t u A0 c0 A1 c1 w h0 hc0 h1 hc1
theorem Value_C (t : S24) (A : List Bool) (r : Bool) (A0 : Option Addr) (c0 : Nat) (A1 : Option Addr) (c1 : Nat) (w : World) (h0 : k24.C w A0 t.f3.length t.f3) (hc0 : t.f3.length ≤ c0) (h1 : Kd.C Kd.bool w A1 A.length A) (hc1 : A.length ≤ c1) (hf : fitB t = true) (hr : flat_val A t = r) :
    Calls Tryd.prog 12 #[.agg #[.int .i64 t.f0, .int .i64 t.f1, .int .i64 t.f2, .slice A0 t.f3.length c0], .slice A1 A.length c1] w fun e w' => e = .returned (.bool r) ∧ Below w.heap.size w w' := by
  subst hr
  exact value_at A t A0 c0 A1 c1 w h0 hc0 h1 hc1 hf

def tv (n : Int) : S24 := ⟨2, n, 0, []⟩
def tc (n : Int) : S24 := ⟨1, n, 0, []⟩
def T1 : S24 := ⟨4, 0, 0, [tv 1, ⟨4, 0, 0, [tv 2, tv 3]⟩, tc 1]⟩
def T2 : S24 := ⟨6, 0, 2, [tv 1, tv 2, tc 1]⟩
def T3 : S24 := ⟨6, 0, 2, [tv 1, tv 2]⟩
def T0 : S24 := ⟨3, 0, 0, [⟨3, 0, 0, [tv 1]⟩]⟩
theorem T1_vars : vars_val T1 = [1, 2, 3] := by
  have h : varsL (nodesT T1) = [1, 2, 3] := by kernel_rfl
  unfold vars_val
  rw [h, List.mergeSort_of_pairwise (by decide)]
  exact Lib.compact_all _ (by decide)

set_option maxRecDepth 100000 in
set_option maxHeartbeats 8000000 in
theorem live_walk (w : World) (hL : Laid w) : Calls Tryd.prog 10 #[] w fun e w' => e = .returned (.bool true) ∧ Below w.heap.size w w' := by
  have hu24 := Tryd.underlying24
  have hu22 := Tryd.underlying22
  have HB := Aside0.mk (Below.refl w.heap.size w)
  have HL := Aside0.mk hL
  clear hL
  go_enter Tryd.func10, Tryd.ntmps10
  go_wp2_with fail
  refine (v_calls 1 w).mono ?_
  rintro e w1 ⟨rfl, hb⟩
  have T := Aside0.mk (HL.out.below hb)
  clear HL
  have HL := T
  clear T
  have T := Aside0.mk (HB.out.trans (hb.mono HB.out.size))
  clear HB
  have HB := T
  clear T
  clear hb
  go_wp2_with fail
  refine (v_calls 2 w1).mono ?_
  rintro e w2 ⟨rfl, hb⟩
  have T := Aside0.mk (HL.out.below hb)
  clear HL
  have HL := T
  clear T
  have T := Aside0.mk (HB.out.trans (hb.mono HB.out.size))
  clear HB
  have HB := T
  clear T
  clear hb
  go_wp2_with fail
  refine (v_calls 3 w2).mono ?_
  rintro e w3 ⟨rfl, hb⟩
  have T := Aside0.mk (HL.out.below hb)
  clear HL
  have HL := T
  clear T
  have T := Aside0.mk (HB.out.trans (hb.mono HB.out.size))
  clear HB
  have HB := T
  clear T
  clear hb
  go_wp2_with fail
  have hb := Below.refl w3.heap.size w3
  have hb0 := (Below.refl (w3).heap.size (w3)).alloc (Nat.le_refl _) (.cells #[Value.int .i64 2, Value.int .i64 2, Value.int .i64 0, Value.slice none 0 0, Value.int .i64 2, Value.int .i64 3, Value.int .i64 0, Value.slice none 0 0] 24)
  have hc0 := hb.trans (hb0.mono (by first | (simp; done) | (simp; omega)))
  have T := Aside0.mk (HL.out.below hc0)
  clear HL
  have HL := T
  clear T
  have T := Aside0.mk (HB.out.trans (hc0.mono HB.out.size))
  clear HB
  have HB := T
  clear T
  have nb := blk_new (w3) (.cells #[Value.int .i64 2, Value.int .i64 2, Value.int .i64 0, Value.slice none 0 0, Value.int .i64 2, Value.int .i64 3, Value.int .i64 0, Value.slice none 0 0] 24)
  have N9 := Aside0.mk (C_two [Value.int .i64 2, Value.int .i64 2, Value.int .i64 0, Value.slice none 0 0] [Value.int .i64 2, Value.int .i64 3, Value.int .i64 0, Value.slice none 0 0] nb (k24_mk _ (tv 2) (A3 := none) (c3 := 0) (Nat.le_refl _) (Kd.C_nil _ _)) (k24_mk _ (tv 3) (A3 := none) (c3 := 0) (Nat.le_refl _) (Kd.C_nil _ _)))
  clear nb
  clear hb hb0 hc0
  try simp only [World.size_alloc] at N9 ⊢
  generalize (w3.alloc (.cells #[Value.int .i64 2, Value.int .i64 2, Value.int .i64 0, Value.slice none 0 0, Value.int .i64 2, Value.int .i64 3, Value.int .i64 0, Value.slice none 0 0] 24)) = w4 at HL N9 HB ⊢
  refine (of_calls 4 0 (some ⟨w3.heap.size, 0, none⟩) 2 2 w4).mono ?_
  rintro e w5 ⟨rfl, hb⟩
  have T := Aside0.mk (HL.out.below hb)
  clear HL
  have HL := T
  clear T
  have T := Aside0.mk (Kd.C_below N9.out hb)
  clear N9
  have N9 := T
  clear T
  have T := Aside0.mk (HB.out.trans (hb.mono HB.out.size))
  clear HB
  have HB := T
  clear T
  clear hb
  go_wp2_with fail
  refine (c_calls 1 w5).mono ?_
  rintro e w6 ⟨rfl, hb⟩
  have T := Aside0.mk (HL.out.below hb)
  clear HL
  have HL := T
  clear T
  have T := Aside0.mk (Kd.C_below N9.out hb)
  clear N9
  have N9 := T
  clear T
  have T := Aside0.mk (HB.out.trans (hb.mono HB.out.size))
  clear HB
  have HB := T
  clear T
  clear hb
  go_wp2_with fail
  have hb := Below.refl w6.heap.size w6
  have hb0 := (Below.refl (w6).heap.size (w6)).alloc (Nat.le_refl _) (.cells #[Value.int .i64 2, Value.int .i64 1, Value.int .i64 0, Value.slice none 0 0, Value.int .i64 4, Value.int .i64 0, Value.int .i64 0, Value.slice (some ⟨w3.heap.size, 0, none⟩) 2 2, Value.int .i64 1, Value.int .i64 1, Value.int .i64 0, Value.slice none 0 0] 24)
  have hc0 := hb.trans (hb0.mono (by first | (simp; done) | (simp; omega)))
  have T := Aside0.mk (HL.out.below hc0)
  clear HL
  have HL := T
  clear T
  have T := Aside0.mk (Kd.C_below N9.out hc0)
  clear N9
  have N9 := T
  clear T
  have T := Aside0.mk (HB.out.trans (hc0.mono HB.out.size))
  clear HB
  have HB := T
  clear T
  have nb := blk_new (w6) (.cells #[Value.int .i64 2, Value.int .i64 1, Value.int .i64 0, Value.slice none 0 0, Value.int .i64 4, Value.int .i64 0, Value.int .i64 0, Value.slice (some ⟨w3.heap.size, 0, none⟩) 2 2, Value.int .i64 1, Value.int .i64 1, Value.int .i64 0, Value.slice none 0 0] 24)
  have N12 := Aside0.mk (C_three [Value.int .i64 2, Value.int .i64 1, Value.int .i64 0, Value.slice none 0 0] [Value.int .i64 4, Value.int .i64 0, Value.int .i64 0, Value.slice (some ⟨w3.heap.size, 0, none⟩) 2 2] [Value.int .i64 1, Value.int .i64 1, Value.int .i64 0, Value.slice none 0 0] nb (k24_mk _ (tv 1) (A3 := none) (c3 := 0) (Nat.le_refl _) (Kd.C_nil _ _)) (k24_mk _ ⟨4, 0, 0, [tv 2, tv 3]⟩ (A3 := (some ⟨w3.heap.size, 0, none⟩)) (c3 := 2) (by decide) N9.out) (k24_mk _ (tc 1) (A3 := none) (c3 := 0) (Nat.le_refl _) (Kd.C_nil _ _)))
  clear nb
  clear hb hb0 hc0
  try simp only [World.size_alloc] at N12 ⊢
  generalize (w6.alloc (.cells #[Value.int .i64 2, Value.int .i64 1, Value.int .i64 0, Value.slice none 0 0, Value.int .i64 4, Value.int .i64 0, Value.int .i64 0, Value.slice (some ⟨w3.heap.size, 0, none⟩) 2 2, Value.int .i64 1, Value.int .i64 1, Value.int .i64 0, Value.slice none 0 0] 24)) = w7 at HL N9 N12 HB ⊢
  refine (of_calls 4 0 (some ⟨w6.heap.size, 0, none⟩) 3 3 w7).mono ?_
  rintro e w8 ⟨rfl, hb⟩
  have T := Aside0.mk (HL.out.below hb)
  clear HL
  have HL := T
  clear T
  have T := Aside0.mk (Kd.C_below N9.out hb)
  clear N9
  have N9 := T
  clear T
  have T := Aside0.mk (Kd.C_below N12.out hb)
  clear N12
  have N12 := T
  clear T
  have T := Aside0.mk (HB.out.trans (hb.mono HB.out.size))
  clear HB
  have HB := T
  clear T
  clear hb
  go_wp2_with fail
  have hb := Below.refl w8.heap.size w8
  have hb0 := (Below.refl (w8).heap.size (w8)).alloc (Nat.le_refl _) (.cells #[Value.int .i64 4, Value.int .i64 0, Value.int .i64 0, Value.slice (some ⟨w6.heap.size, 0, none⟩) 3 3] 24)
  have hc0 := hb.trans (hb0.mono (by first | (simp; done) | (simp; omega)))
  have T := Aside0.mk (HL.out.below hc0)
  clear HL
  have HL := T
  clear T
  have T := Aside0.mk (Kd.C_below N9.out hc0)
  clear N9
  have N9 := T
  clear T
  have T := Aside0.mk (Kd.C_below N12.out hc0)
  clear N12
  have N12 := T
  clear T
  have T := Aside0.mk (HB.out.trans (hc0.mono HB.out.size))
  clear HB
  have HB := T
  clear T
  have nb := blk_new (w8) (.cells #[Value.int .i64 4, Value.int .i64 0, Value.int .i64 0, Value.slice (some ⟨w6.heap.size, 0, none⟩) 3 3] 24)
  have B1 := Aside0.mk nb
  clear nb
  clear hb hb0 hc0
  try simp only [World.size_alloc] at B1 ⊢
  generalize (w8.alloc (.cells #[Value.int .i64 4, Value.int .i64 0, Value.int .i64 0, Value.slice (some ⟨w6.heap.size, 0, none⟩) 3 3] 24)) = w9 at HL N9 N12 B1 HB ⊢
  refine (v_calls 1 w9).mono ?_
  rintro e w10 ⟨rfl, hb⟩
  have T := Aside0.mk (HL.out.below hb)
  clear HL
  have HL := T
  clear T
  have T := Aside0.mk (Kd.C_below N9.out hb)
  clear N9
  have N9 := T
  clear T
  have T := Aside0.mk (Kd.C_below N12.out hb)
  clear N12
  have N12 := T
  clear T
  have T := Aside0.mk ((hb.block _ (blk_lt B1.out)).trans B1.out)
  clear B1
  have B1 := T
  clear T
  have T := Aside0.mk (HB.out.trans (hb.mono HB.out.size))
  clear HB
  have HB := T
  clear T
  clear hb
  go_wp2_with fail
  refine (v_calls 2 w10).mono ?_
  rintro e w11 ⟨rfl, hb⟩
  have T := Aside0.mk (HL.out.below hb)
  clear HL
  have HL := T
  clear T
  have T := Aside0.mk (Kd.C_below N9.out hb)
  clear N9
  have N9 := T
  clear T
  have T := Aside0.mk (Kd.C_below N12.out hb)
  clear N12
  have N12 := T
  clear T
  have T := Aside0.mk ((hb.block _ (blk_lt B1.out)).trans B1.out)
  clear B1
  have B1 := T
  clear T
  have T := Aside0.mk (HB.out.trans (hb.mono HB.out.size))
  clear HB
  have HB := T
  clear T
  clear hb
  go_wp2_with fail
  refine (c_calls 1 w11).mono ?_
  rintro e w12 ⟨rfl, hb⟩
  have T := Aside0.mk (HL.out.below hb)
  clear HL
  have HL := T
  clear T
  have T := Aside0.mk (Kd.C_below N9.out hb)
  clear N9
  have N9 := T
  clear T
  have T := Aside0.mk (Kd.C_below N12.out hb)
  clear N12
  have N12 := T
  clear T
  have T := Aside0.mk ((hb.block _ (blk_lt B1.out)).trans B1.out)
  clear B1
  have B1 := T
  clear T
  have T := Aside0.mk (HB.out.trans (hb.mono HB.out.size))
  clear HB
  have HB := T
  clear T
  clear hb
  go_wp2_with fail
  have hb := Below.refl w12.heap.size w12
  have hb0 := (Below.refl (w12).heap.size (w12)).alloc (Nat.le_refl _) (.cells #[Value.int .i64 2, Value.int .i64 1, Value.int .i64 0, Value.slice none 0 0, Value.int .i64 2, Value.int .i64 2, Value.int .i64 0, Value.slice none 0 0, Value.int .i64 1, Value.int .i64 1, Value.int .i64 0, Value.slice none 0 0] 24)
  have hc0 := hb.trans (hb0.mono (by first | (simp; done) | (simp; omega)))
  have T := Aside0.mk (HL.out.below hc0)
  clear HL
  have HL := T
  clear T
  have T := Aside0.mk (Kd.C_below N9.out hc0)
  clear N9
  have N9 := T
  clear T
  have T := Aside0.mk (Kd.C_below N12.out hc0)
  clear N12
  have N12 := T
  clear T
  have T := Aside0.mk ((hc0.block _ (blk_lt B1.out)).trans B1.out)
  clear B1
  have B1 := T
  clear T
  have T := Aside0.mk (HB.out.trans (hc0.mono HB.out.size))
  clear HB
  have HB := T
  clear T
  have nb := blk_new (w12) (.cells #[Value.int .i64 2, Value.int .i64 1, Value.int .i64 0, Value.slice none 0 0, Value.int .i64 2, Value.int .i64 2, Value.int .i64 0, Value.slice none 0 0, Value.int .i64 1, Value.int .i64 1, Value.int .i64 0, Value.slice none 0 0] 24)
  have N17 := Aside0.mk (C_three [Value.int .i64 2, Value.int .i64 1, Value.int .i64 0, Value.slice none 0 0] [Value.int .i64 2, Value.int .i64 2, Value.int .i64 0, Value.slice none 0 0] [Value.int .i64 1, Value.int .i64 1, Value.int .i64 0, Value.slice none 0 0] nb (k24_mk _ (tv 1) (A3 := none) (c3 := 0) (Nat.le_refl _) (Kd.C_nil _ _)) (k24_mk _ (tv 2) (A3 := none) (c3 := 0) (Nat.le_refl _) (Kd.C_nil _ _)) (k24_mk _ (tc 1) (A3 := none) (c3 := 0) (Nat.le_refl _) (Kd.C_nil _ _)))
  clear nb
  clear hb hb0 hc0
  try simp only [World.size_alloc] at N17 ⊢
  generalize (w12.alloc (.cells #[Value.int .i64 2, Value.int .i64 1, Value.int .i64 0, Value.slice none 0 0, Value.int .i64 2, Value.int .i64 2, Value.int .i64 0, Value.slice none 0 0, Value.int .i64 1, Value.int .i64 1, Value.int .i64 0, Value.slice none 0 0] 24)) = w13 at HL N9 N12 B1 N17 HB ⊢
  refine (of_calls 6 2 (some ⟨w12.heap.size, 0, none⟩) 3 3 w13).mono ?_
  rintro e w14 ⟨rfl, hb⟩
  have T := Aside0.mk (HL.out.below hb)
  clear HL
  have HL := T
  clear T
  have T := Aside0.mk (Kd.C_below N9.out hb)
  clear N9
  have N9 := T
  clear T
  have T := Aside0.mk (Kd.C_below N12.out hb)
  clear N12
  have N12 := T
  clear T
  have T := Aside0.mk ((hb.block _ (blk_lt B1.out)).trans B1.out)
  clear B1
  have B1 := T
  clear T
  have T := Aside0.mk (Kd.C_below N17.out hb)
  clear N17
  have N17 := T
  clear T
  have T := Aside0.mk (HB.out.trans (hb.mono HB.out.size))
  clear HB
  have HB := T
  clear T
  clear hb
  go_wp2_with fail
  have hb := Below.refl w14.heap.size w14
  have hb0 := (Below.refl (w14).heap.size (w14)).alloc (Nat.le_refl _) (.cells #[Value.int .i64 6, Value.int .i64 0, Value.int .i64 2, Value.slice (some ⟨w12.heap.size, 0, none⟩) 3 3] 24)
  have hc0 := hb.trans (hb0.mono (by first | (simp; done) | (simp; omega)))
  have T := Aside0.mk (HL.out.below hc0)
  clear HL
  have HL := T
  clear T
  have T := Aside0.mk (Kd.C_below N9.out hc0)
  clear N9
  have N9 := T
  clear T
  have T := Aside0.mk (Kd.C_below N12.out hc0)
  clear N12
  have N12 := T
  clear T
  have T := Aside0.mk ((hc0.block _ (blk_lt B1.out)).trans B1.out)
  clear B1
  have B1 := T
  clear T
  have T := Aside0.mk (Kd.C_below N17.out hc0)
  clear N17
  have N17 := T
  clear T
  have T := Aside0.mk (HB.out.trans (hc0.mono HB.out.size))
  clear HB
  have HB := T
  clear T
  have nb := blk_new (w14) (.cells #[Value.int .i64 6, Value.int .i64 0, Value.int .i64 2, Value.slice (some ⟨w12.heap.size, 0, none⟩) 3 3] 24)
  have B2 := Aside0.mk nb
  clear nb
  clear hb hb0 hc0
  try simp only [World.size_alloc] at B2 ⊢
  generalize (w14.alloc (.cells #[Value.int .i64 6, Value.int .i64 0, Value.int .i64 2, Value.slice (some ⟨w12.heap.size, 0, none⟩) 3 3] 24)) = w15 at HL N9 N12 B1 N17 B2 HB ⊢
  refine (v_calls 1 w15).mono ?_
  rintro e w16 ⟨rfl, hb⟩
  have T := Aside0.mk (HL.out.below hb)
  clear HL
  have HL := T
  clear T
  have T := Aside0.mk (Kd.C_below N9.out hb)
  clear N9
  have N9 := T
  clear T
  have T := Aside0.mk (Kd.C_below N12.out hb)
  clear N12
  have N12 := T
  clear T
  have T := Aside0.mk ((hb.block _ (blk_lt B1.out)).trans B1.out)
  clear B1
  have B1 := T
  clear T
  have T := Aside0.mk (Kd.C_below N17.out hb)
  clear N17
  have N17 := T
  clear T
  have T := Aside0.mk ((hb.block _ (blk_lt B2.out)).trans B2.out)
  clear B2
  have B2 := T
  clear T
  have T := Aside0.mk (HB.out.trans (hb.mono HB.out.size))
  clear HB
  have HB := T
  clear T
  clear hb
  go_wp2_with fail
  refine (v_calls 2 w16).mono ?_
  rintro e w17 ⟨rfl, hb⟩
  have T := Aside0.mk (HL.out.below hb)
  clear HL
  have HL := T
  clear T
  have T := Aside0.mk (Kd.C_below N9.out hb)
  clear N9
  have N9 := T
  clear T
  have T := Aside0.mk (Kd.C_below N12.out hb)
  clear N12
  have N12 := T
  clear T
  have T := Aside0.mk ((hb.block _ (blk_lt B1.out)).trans B1.out)
  clear B1
  have B1 := T
  clear T
  have T := Aside0.mk (Kd.C_below N17.out hb)
  clear N17
  have N17 := T
  clear T
  have T := Aside0.mk ((hb.block _ (blk_lt B2.out)).trans B2.out)
  clear B2
  have B2 := T
  clear T
  have T := Aside0.mk (HB.out.trans (hb.mono HB.out.size))
  clear HB
  have HB := T
  clear T
  clear hb
  go_wp2_with fail
  have hb := Below.refl w17.heap.size w17
  have hb0 := (Below.refl (w17).heap.size (w17)).alloc (Nat.le_refl _) (.cells #[Value.int .i64 2, Value.int .i64 1, Value.int .i64 0, Value.slice none 0 0, Value.int .i64 2, Value.int .i64 2, Value.int .i64 0, Value.slice none 0 0] 24)
  have hc0 := hb.trans (hb0.mono (by first | (simp; done) | (simp; omega)))
  have T := Aside0.mk (HL.out.below hc0)
  clear HL
  have HL := T
  clear T
  have T := Aside0.mk (Kd.C_below N9.out hc0)
  clear N9
  have N9 := T
  clear T
  have T := Aside0.mk (Kd.C_below N12.out hc0)
  clear N12
  have N12 := T
  clear T
  have T := Aside0.mk ((hc0.block _ (blk_lt B1.out)).trans B1.out)
  clear B1
  have B1 := T
  clear T
  have T := Aside0.mk (Kd.C_below N17.out hc0)
  clear N17
  have N17 := T
  clear T
  have T := Aside0.mk ((hc0.block _ (blk_lt B2.out)).trans B2.out)
  clear B2
  have B2 := T
  clear T
  have T := Aside0.mk (HB.out.trans (hc0.mono HB.out.size))
  clear HB
  have HB := T
  clear T
  have nb := blk_new (w17) (.cells #[Value.int .i64 2, Value.int .i64 1, Value.int .i64 0, Value.slice none 0 0, Value.int .i64 2, Value.int .i64 2, Value.int .i64 0, Value.slice none 0 0] 24)
  have N21 := Aside0.mk (C_two [Value.int .i64 2, Value.int .i64 1, Value.int .i64 0, Value.slice none 0 0] [Value.int .i64 2, Value.int .i64 2, Value.int .i64 0, Value.slice none 0 0] nb (k24_mk _ (tv 1) (A3 := none) (c3 := 0) (Nat.le_refl _) (Kd.C_nil _ _)) (k24_mk _ (tv 2) (A3 := none) (c3 := 0) (Nat.le_refl _) (Kd.C_nil _ _)))
  clear nb
  clear hb hb0 hc0
  try simp only [World.size_alloc] at N21 ⊢
  generalize (w17.alloc (.cells #[Value.int .i64 2, Value.int .i64 1, Value.int .i64 0, Value.slice none 0 0, Value.int .i64 2, Value.int .i64 2, Value.int .i64 0, Value.slice none 0 0] 24)) = w18 at HL N9 N12 B1 N17 B2 N21 HB ⊢
  refine (of_calls 6 2 (some ⟨w17.heap.size, 0, none⟩) 2 2 w18).mono ?_
  rintro e w19 ⟨rfl, hb⟩
  have T := Aside0.mk (HL.out.below hb)
  clear HL
  have HL := T
  clear T
  have T := Aside0.mk (Kd.C_below N9.out hb)
  clear N9
  have N9 := T
  clear T
  have T := Aside0.mk (Kd.C_below N12.out hb)
  clear N12
  have N12 := T
  clear T
  have T := Aside0.mk ((hb.block _ (blk_lt B1.out)).trans B1.out)
  clear B1
  have B1 := T
  clear T
  have T := Aside0.mk (Kd.C_below N17.out hb)
  clear N17
  have N17 := T
  clear T
  have T := Aside0.mk ((hb.block _ (blk_lt B2.out)).trans B2.out)
  clear B2
  have B2 := T
  clear T
  have T := Aside0.mk (Kd.C_below N21.out hb)
  clear N21
  have N21 := T
  clear T
  have T := Aside0.mk (HB.out.trans (hb.mono HB.out.size))
  clear HB
  have HB := T
  clear T
  clear hb
  go_wp2_with fail
  have hb := Below.refl w19.heap.size w19
  have hb0 := (Below.refl (w19).heap.size (w19)).alloc (Nat.le_refl _) (.cells #[Value.int .i64 6, Value.int .i64 0, Value.int .i64 2, Value.slice (some ⟨w17.heap.size, 0, none⟩) 2 2] 24)
  have hc0 := hb.trans (hb0.mono (by first | (simp; done) | (simp; omega)))
  have T := Aside0.mk (HL.out.below hc0)
  clear HL
  have HL := T
  clear T
  have T := Aside0.mk (Kd.C_below N9.out hc0)
  clear N9
  have N9 := T
  clear T
  have T := Aside0.mk (Kd.C_below N12.out hc0)
  clear N12
  have N12 := T
  clear T
  have T := Aside0.mk ((hc0.block _ (blk_lt B1.out)).trans B1.out)
  clear B1
  have B1 := T
  clear T
  have T := Aside0.mk (Kd.C_below N17.out hc0)
  clear N17
  have N17 := T
  clear T
  have T := Aside0.mk ((hc0.block _ (blk_lt B2.out)).trans B2.out)
  clear B2
  have B2 := T
  clear T
  have T := Aside0.mk (Kd.C_below N21.out hc0)
  clear N21
  have N21 := T
  clear T
  have T := Aside0.mk (HB.out.trans (hc0.mono HB.out.size))
  clear HB
  have HB := T
  clear T
  have nb := blk_new (w19) (.cells #[Value.int .i64 6, Value.int .i64 0, Value.int .i64 2, Value.slice (some ⟨w17.heap.size, 0, none⟩) 2 2] 24)
  have B3 := Aside0.mk nb
  clear nb
  clear hb hb0 hc0
  try simp only [World.size_alloc] at B3 ⊢
  generalize (w19.alloc (.cells #[Value.int .i64 6, Value.int .i64 0, Value.int .i64 2, Value.slice (some ⟨w17.heap.size, 0, none⟩) 2 2] 24)) = w20 at HL N9 N12 B1 N17 B2 N21 B3 HB ⊢
  refine (v_calls 1 w20).mono ?_
  rintro e w21 ⟨rfl, hb⟩
  have T := Aside0.mk (HL.out.below hb)
  clear HL
  have HL := T
  clear T
  have T := Aside0.mk (Kd.C_below N9.out hb)
  clear N9
  have N9 := T
  clear T
  have T := Aside0.mk (Kd.C_below N12.out hb)
  clear N12
  have N12 := T
  clear T
  have T := Aside0.mk ((hb.block _ (blk_lt B1.out)).trans B1.out)
  clear B1
  have B1 := T
  clear T
  have T := Aside0.mk (Kd.C_below N17.out hb)
  clear N17
  have N17 := T
  clear T
  have T := Aside0.mk ((hb.block _ (blk_lt B2.out)).trans B2.out)
  clear B2
  have B2 := T
  clear T
  have T := Aside0.mk (Kd.C_below N21.out hb)
  clear N21
  have N21 := T
  clear T
  have T := Aside0.mk ((hb.block _ (blk_lt B3.out)).trans B3.out)
  clear B3
  have B3 := T
  clear T
  have T := Aside0.mk (HB.out.trans (hb.mono HB.out.size))
  clear HB
  have HB := T
  clear T
  clear hb
  go_wp2_with fail
  refine (not_calls (tv 1) none 0 w21 (Kd.C_nil _ _) (Nat.le_refl _)).mono ?_
  rintro e w22 ⟨g24, rfl, hC, _, hb⟩
  have T := Aside0.mk (HL.out.below hb)
  clear HL
  have HL := T
  clear T
  have T := Aside0.mk (Kd.C_below N9.out hb)
  clear N9
  have N9 := T
  clear T
  have T := Aside0.mk (Kd.C_below N12.out hb)
  clear N12
  have N12 := T
  clear T
  have T := Aside0.mk ((hb.block _ (blk_lt B1.out)).trans B1.out)
  clear B1
  have B1 := T
  clear T
  have T := Aside0.mk (Kd.C_below N17.out hb)
  clear N17
  have N17 := T
  clear T
  have T := Aside0.mk ((hb.block _ (blk_lt B2.out)).trans B2.out)
  clear B2
  have B2 := T
  clear T
  have T := Aside0.mk (Kd.C_below N21.out hb)
  clear N21
  have N21 := T
  clear T
  have T := Aside0.mk ((hb.block _ (blk_lt B3.out)).trans B3.out)
  clear B3
  have B3 := T
  clear T
  have T := Aside0.mk (HB.out.trans (hb.mono HB.out.size))
  clear HB
  have HB := T
  clear T
  clear hb
  have N24 := Aside0.mk hC
  clear hC
  go_wp2_with fail
  refine (not_calls ⟨3, 0, 0, [tv 1]⟩ (some ⟨g24, 0, none⟩) 1 w22 N24.out (by decide)).mono ?_
  rintro e w23 ⟨g25, rfl, hC, _, hb⟩
  have T := Aside0.mk (HL.out.below hb)
  clear HL
  have HL := T
  clear T
  have T := Aside0.mk (Kd.C_below N9.out hb)
  clear N9
  have N9 := T
  clear T
  have T := Aside0.mk (Kd.C_below N12.out hb)
  clear N12
  have N12 := T
  clear T
  have T := Aside0.mk ((hb.block _ (blk_lt B1.out)).trans B1.out)
  clear B1
  have B1 := T
  clear T
  have T := Aside0.mk (Kd.C_below N17.out hb)
  clear N17
  have N17 := T
  clear T
  have T := Aside0.mk ((hb.block _ (blk_lt B2.out)).trans B2.out)
  clear B2
  have B2 := T
  clear T
  have T := Aside0.mk (Kd.C_below N21.out hb)
  clear N21
  have N21 := T
  clear T
  have T := Aside0.mk ((hb.block _ (blk_lt B3.out)).trans B3.out)
  clear B3
  have B3 := T
  clear T
  have T := Aside0.mk (Kd.C_below N24.out hb)
  clear N24
  have N24 := T
  clear T
  have T := Aside0.mk (HB.out.trans (hb.mono HB.out.size))
  clear HB
  have HB := T
  clear T
  clear hb
  have N25 := Aside0.mk hC
  clear hC
  go_wp2_with fail
  refine (Simple_C T0 (tv 1) (some ⟨g25, 0, none⟩) 1 w23 N25.out (by decide) HL.out (by kernel_rfl) (by kernel_rfl)).mono ?_
  rintro e w24 ⟨As1, cs1, rfl, hl, hC, hb⟩
  have T := Aside0.mk (HL.out.below hb)
  clear HL
  have HL := T
  clear T
  have T := Aside0.mk (Kd.C_below N9.out hb)
  clear N9
  have N9 := T
  clear T
  have T := Aside0.mk (Kd.C_below N12.out hb)
  clear N12
  have N12 := T
  clear T
  have T := Aside0.mk ((hb.block _ (blk_lt B1.out)).trans B1.out)
  clear B1
  have B1 := T
  clear T
  have T := Aside0.mk (Kd.C_below N17.out hb)
  clear N17
  have N17 := T
  clear T
  have T := Aside0.mk ((hb.block _ (blk_lt B2.out)).trans B2.out)
  clear B2
  have B2 := T
  clear T
  have T := Aside0.mk (Kd.C_below N21.out hb)
  clear N21
  have N21 := T
  clear T
  have T := Aside0.mk ((hb.block _ (blk_lt B3.out)).trans B3.out)
  clear B3
  have B3 := T
  clear T
  have T := Aside0.mk (Kd.C_below N24.out hb)
  clear N24
  have N24 := T
  clear T
  have T := Aside0.mk (Kd.C_below N25.out hb)
  clear N25
  have N25 := T
  clear T
  have T := Aside0.mk (HB.out.trans (hb.mono HB.out.size))
  clear HB
  have HB := T
  clear T
  clear hb
  have S1 := Aside0.mk hC
  have L1 := Lib.hid hl
  clear hC hl
  go_wp2_with fail
  refine (v_calls 1 w24).mono ?_
  rintro e w25 ⟨rfl, hb⟩
  have T := Aside0.mk (HL.out.below hb)
  clear HL
  have HL := T
  clear T
  have T := Aside0.mk (Kd.C_below N9.out hb)
  clear N9
  have N9 := T
  clear T
  have T := Aside0.mk (Kd.C_below N12.out hb)
  clear N12
  have N12 := T
  clear T
  have T := Aside0.mk ((hb.block _ (blk_lt B1.out)).trans B1.out)
  clear B1
  have B1 := T
  clear T
  have T := Aside0.mk (Kd.C_below N17.out hb)
  clear N17
  have N17 := T
  clear T
  have T := Aside0.mk ((hb.block _ (blk_lt B2.out)).trans B2.out)
  clear B2
  have B2 := T
  clear T
  have T := Aside0.mk (Kd.C_below N21.out hb)
  clear N21
  have N21 := T
  clear T
  have T := Aside0.mk ((hb.block _ (blk_lt B3.out)).trans B3.out)
  clear B3
  have B3 := T
  clear T
  have T := Aside0.mk (Kd.C_below N24.out hb)
  clear N24
  have N24 := T
  clear T
  have T := Aside0.mk (Kd.C_below N25.out hb)
  clear N25
  have N25 := T
  clear T
  have T := Aside0.mk (Kd.C_below S1.out hb)
  clear S1
  have S1 := T
  clear T
  have T := Aside0.mk (HB.out.trans (hb.mono HB.out.size))
  clear HB
  have HB := T
  clear T
  clear hb
  go_wp2_with fail
  refine (Same_C (tv 1) (tv 1) true As1 cs1 none 0 w25 S1.out L1.out (Kd.C_nil _ _) (Nat.le_refl _) (by kernel_rfl)).mono ?_
  rintro e w26 ⟨rfl, hb⟩
  have T := Aside0.mk (HL.out.below hb)
  clear HL
  have HL := T
  clear T
  have T := Aside0.mk (Kd.C_below N9.out hb)
  clear N9
  have N9 := T
  clear T
  have T := Aside0.mk (Kd.C_below N12.out hb)
  clear N12
  have N12 := T
  clear T
  have T := Aside0.mk ((hb.block _ (blk_lt B1.out)).trans B1.out)
  clear B1
  have B1 := T
  clear T
  have T := Aside0.mk (Kd.C_below N17.out hb)
  clear N17
  have N17 := T
  clear T
  have T := Aside0.mk ((hb.block _ (blk_lt B2.out)).trans B2.out)
  clear B2
  have B2 := T
  clear T
  have T := Aside0.mk (Kd.C_below N21.out hb)
  clear N21
  have N21 := T
  clear T
  have T := Aside0.mk ((hb.block _ (blk_lt B3.out)).trans B3.out)
  clear B3
  have B3 := T
  clear T
  have T := Aside0.mk (Kd.C_below N24.out hb)
  clear N24
  have N24 := T
  clear T
  have T := Aside0.mk (Kd.C_below N25.out hb)
  clear N25
  have N25 := T
  clear T
  have T := Aside0.mk (Kd.C_below S1.out hb)
  clear S1
  have S1 := T
  clear T
  have T := Aside0.mk (HB.out.trans (hb.mono HB.out.size))
  clear HB
  have HB := T
  clear T
  clear hb
  have qB10 := (blk_cell B1.out 0).trans rfl
  have qB11 := (blk_cell B1.out 1).trans rfl
  have qB12 := (blk_cell B1.out 2).trans rfl
  have qB13 := (blk_cell B1.out 3).trans rfl
  go_wp2_with fail
  clear qB10 qB11 qB12 qB13
  refine (Simple_C T1 ⟨4, 0, 0, [tv 1, tv 2, tv 3]⟩ (some ⟨w6.heap.size, 0, none⟩) 3 w26 N12.out (by decide) HL.out (by kernel_rfl) (by kernel_rfl)).mono ?_
  rintro e w27 ⟨As2, cs2, rfl, hl, hC, hb⟩
  have T := Aside0.mk (HL.out.below hb)
  clear HL
  have HL := T
  clear T
  have T := Aside0.mk (Kd.C_below N9.out hb)
  clear N9
  have N9 := T
  clear T
  have T := Aside0.mk (Kd.C_below N12.out hb)
  clear N12
  have N12 := T
  clear T
  have T := Aside0.mk ((hb.block _ (blk_lt B1.out)).trans B1.out)
  clear B1
  have B1 := T
  clear T
  have T := Aside0.mk (Kd.C_below N17.out hb)
  clear N17
  have N17 := T
  clear T
  have T := Aside0.mk ((hb.block _ (blk_lt B2.out)).trans B2.out)
  clear B2
  have B2 := T
  clear T
  have T := Aside0.mk (Kd.C_below N21.out hb)
  clear N21
  have N21 := T
  clear T
  have T := Aside0.mk ((hb.block _ (blk_lt B3.out)).trans B3.out)
  clear B3
  have B3 := T
  clear T
  have T := Aside0.mk (Kd.C_below N24.out hb)
  clear N24
  have N24 := T
  clear T
  have T := Aside0.mk (Kd.C_below N25.out hb)
  clear N25
  have N25 := T
  clear T
  have T := Aside0.mk (Kd.C_below S1.out hb)
  clear S1
  have S1 := T
  clear T
  have T := Aside0.mk (HB.out.trans (hb.mono HB.out.size))
  clear HB
  have HB := T
  clear T
  clear hb
  have S2 := Aside0.mk hC
  have L2 := Lib.hid hl
  clear hC hl
  go_wp2_with fail
  refine (v_calls 1 w27).mono ?_
  rintro e w28 ⟨rfl, hb⟩
  have T := Aside0.mk (HL.out.below hb)
  clear HL
  have HL := T
  clear T
  have T := Aside0.mk (Kd.C_below N9.out hb)
  clear N9
  have N9 := T
  clear T
  have T := Aside0.mk (Kd.C_below N12.out hb)
  clear N12
  have N12 := T
  clear T
  have T := Aside0.mk ((hb.block _ (blk_lt B1.out)).trans B1.out)
  clear B1
  have B1 := T
  clear T
  have T := Aside0.mk (Kd.C_below N17.out hb)
  clear N17
  have N17 := T
  clear T
  have T := Aside0.mk ((hb.block _ (blk_lt B2.out)).trans B2.out)
  clear B2
  have B2 := T
  clear T
  have T := Aside0.mk (Kd.C_below N21.out hb)
  clear N21
  have N21 := T
  clear T
  have T := Aside0.mk ((hb.block _ (blk_lt B3.out)).trans B3.out)
  clear B3
  have B3 := T
  clear T
  have T := Aside0.mk (Kd.C_below N24.out hb)
  clear N24
  have N24 := T
  clear T
  have T := Aside0.mk (Kd.C_below N25.out hb)
  clear N25
  have N25 := T
  clear T
  have T := Aside0.mk (Kd.C_below S1.out hb)
  clear S1
  have S1 := T
  clear T
  have T := Aside0.mk (Kd.C_below S2.out hb)
  clear S2
  have S2 := T
  clear T
  have T := Aside0.mk (HB.out.trans (hb.mono HB.out.size))
  clear HB
  have HB := T
  clear T
  clear hb
  go_wp2_with fail
  refine (v_calls 2 w28).mono ?_
  rintro e w29 ⟨rfl, hb⟩
  have T := Aside0.mk (HL.out.below hb)
  clear HL
  have HL := T
  clear T
  have T := Aside0.mk (Kd.C_below N9.out hb)
  clear N9
  have N9 := T
  clear T
  have T := Aside0.mk (Kd.C_below N12.out hb)
  clear N12
  have N12 := T
  clear T
  have T := Aside0.mk ((hb.block _ (blk_lt B1.out)).trans B1.out)
  clear B1
  have B1 := T
  clear T
  have T := Aside0.mk (Kd.C_below N17.out hb)
  clear N17
  have N17 := T
  clear T
  have T := Aside0.mk ((hb.block _ (blk_lt B2.out)).trans B2.out)
  clear B2
  have B2 := T
  clear T
  have T := Aside0.mk (Kd.C_below N21.out hb)
  clear N21
  have N21 := T
  clear T
  have T := Aside0.mk ((hb.block _ (blk_lt B3.out)).trans B3.out)
  clear B3
  have B3 := T
  clear T
  have T := Aside0.mk (Kd.C_below N24.out hb)
  clear N24
  have N24 := T
  clear T
  have T := Aside0.mk (Kd.C_below N25.out hb)
  clear N25
  have N25 := T
  clear T
  have T := Aside0.mk (Kd.C_below S1.out hb)
  clear S1
  have S1 := T
  clear T
  have T := Aside0.mk (Kd.C_below S2.out hb)
  clear S2
  have S2 := T
  clear T
  have T := Aside0.mk (HB.out.trans (hb.mono HB.out.size))
  clear HB
  have HB := T
  clear T
  clear hb
  go_wp2_with fail
  refine (v_calls 3 w29).mono ?_
  rintro e w30 ⟨rfl, hb⟩
  have T := Aside0.mk (HL.out.below hb)
  clear HL
  have HL := T
  clear T
  have T := Aside0.mk (Kd.C_below N9.out hb)
  clear N9
  have N9 := T
  clear T
  have T := Aside0.mk (Kd.C_below N12.out hb)
  clear N12
  have N12 := T
  clear T
  have T := Aside0.mk ((hb.block _ (blk_lt B1.out)).trans B1.out)
  clear B1
  have B1 := T
  clear T
  have T := Aside0.mk (Kd.C_below N17.out hb)
  clear N17
  have N17 := T
  clear T
  have T := Aside0.mk ((hb.block _ (blk_lt B2.out)).trans B2.out)
  clear B2
  have B2 := T
  clear T
  have T := Aside0.mk (Kd.C_below N21.out hb)
  clear N21
  have N21 := T
  clear T
  have T := Aside0.mk ((hb.block _ (blk_lt B3.out)).trans B3.out)
  clear B3
  have B3 := T
  clear T
  have T := Aside0.mk (Kd.C_below N24.out hb)
  clear N24
  have N24 := T
  clear T
  have T := Aside0.mk (Kd.C_below N25.out hb)
  clear N25
  have N25 := T
  clear T
  have T := Aside0.mk (Kd.C_below S1.out hb)
  clear S1
  have S1 := T
  clear T
  have T := Aside0.mk (Kd.C_below S2.out hb)
  clear S2
  have S2 := T
  clear T
  have T := Aside0.mk (HB.out.trans (hb.mono HB.out.size))
  clear HB
  have HB := T
  clear T
  clear hb
  go_wp2_with fail
  have hb := Below.refl w30.heap.size w30
  have hb0 := (Below.refl (w30).heap.size (w30)).alloc (Nat.le_refl _) (.cells #[Value.int .i64 2, Value.int .i64 1, Value.int .i64 0, Value.slice none 0 0, Value.int .i64 2, Value.int .i64 2, Value.int .i64 0, Value.slice none 0 0, Value.int .i64 2, Value.int .i64 3, Value.int .i64 0, Value.slice none 0 0] 24)
  have hc0 := hb.trans (hb0.mono (by first | (simp; done) | (simp; omega)))
  have T := Aside0.mk (HL.out.below hc0)
  clear HL
  have HL := T
  clear T
  have T := Aside0.mk (Kd.C_below N9.out hc0)
  clear N9
  have N9 := T
  clear T
  have T := Aside0.mk (Kd.C_below N12.out hc0)
  clear N12
  have N12 := T
  clear T
  have T := Aside0.mk ((hc0.block _ (blk_lt B1.out)).trans B1.out)
  clear B1
  have B1 := T
  clear T
  have T := Aside0.mk (Kd.C_below N17.out hc0)
  clear N17
  have N17 := T
  clear T
  have T := Aside0.mk ((hc0.block _ (blk_lt B2.out)).trans B2.out)
  clear B2
  have B2 := T
  clear T
  have T := Aside0.mk (Kd.C_below N21.out hc0)
  clear N21
  have N21 := T
  clear T
  have T := Aside0.mk ((hc0.block _ (blk_lt B3.out)).trans B3.out)
  clear B3
  have B3 := T
  clear T
  have T := Aside0.mk (Kd.C_below N24.out hc0)
  clear N24
  have N24 := T
  clear T
  have T := Aside0.mk (Kd.C_below N25.out hc0)
  clear N25
  have N25 := T
  clear T
  have T := Aside0.mk (Kd.C_below S1.out hc0)
  clear S1
  have S1 := T
  clear T
  have T := Aside0.mk (Kd.C_below S2.out hc0)
  clear S2
  have S2 := T
  clear T
  have T := Aside0.mk (HB.out.trans (hc0.mono HB.out.size))
  clear HB
  have HB := T
  clear T
  have nb := blk_new (w30) (.cells #[Value.int .i64 2, Value.int .i64 1, Value.int .i64 0, Value.slice none 0 0, Value.int .i64 2, Value.int .i64 2, Value.int .i64 0, Value.slice none 0 0, Value.int .i64 2, Value.int .i64 3, Value.int .i64 0, Value.slice none 0 0] 24)
  have N35 := Aside0.mk (C_three [Value.int .i64 2, Value.int .i64 1, Value.int .i64 0, Value.slice none 0 0] [Value.int .i64 2, Value.int .i64 2, Value.int .i64 0, Value.slice none 0 0] [Value.int .i64 2, Value.int .i64 3, Value.int .i64 0, Value.slice none 0 0] nb (k24_mk _ (tv 1) (A3 := none) (c3 := 0) (Nat.le_refl _) (Kd.C_nil _ _)) (k24_mk _ (tv 2) (A3 := none) (c3 := 0) (Nat.le_refl _) (Kd.C_nil _ _)) (k24_mk _ (tv 3) (A3 := none) (c3 := 0) (Nat.le_refl _) (Kd.C_nil _ _)))
  clear nb
  clear hb hb0 hc0
  try simp only [World.size_alloc] at N35 ⊢
  generalize (w30.alloc (.cells #[Value.int .i64 2, Value.int .i64 1, Value.int .i64 0, Value.slice none 0 0, Value.int .i64 2, Value.int .i64 2, Value.int .i64 0, Value.slice none 0 0, Value.int .i64 2, Value.int .i64 3, Value.int .i64 0, Value.slice none 0 0] 24)) = w31 at HL N9 N12 B1 N17 B2 N21 B3 N24 N25 S1 S2 N35 HB ⊢
  refine (of_calls 4 0 (some ⟨w30.heap.size, 0, none⟩) 3 3 w31).mono ?_
  rintro e w32 ⟨rfl, hb⟩
  have T := Aside0.mk (HL.out.below hb)
  clear HL
  have HL := T
  clear T
  have T := Aside0.mk (Kd.C_below N9.out hb)
  clear N9
  have N9 := T
  clear T
  have T := Aside0.mk (Kd.C_below N12.out hb)
  clear N12
  have N12 := T
  clear T
  have T := Aside0.mk ((hb.block _ (blk_lt B1.out)).trans B1.out)
  clear B1
  have B1 := T
  clear T
  have T := Aside0.mk (Kd.C_below N17.out hb)
  clear N17
  have N17 := T
  clear T
  have T := Aside0.mk ((hb.block _ (blk_lt B2.out)).trans B2.out)
  clear B2
  have B2 := T
  clear T
  have T := Aside0.mk (Kd.C_below N21.out hb)
  clear N21
  have N21 := T
  clear T
  have T := Aside0.mk ((hb.block _ (blk_lt B3.out)).trans B3.out)
  clear B3
  have B3 := T
  clear T
  have T := Aside0.mk (Kd.C_below N24.out hb)
  clear N24
  have N24 := T
  clear T
  have T := Aside0.mk (Kd.C_below N25.out hb)
  clear N25
  have N25 := T
  clear T
  have T := Aside0.mk (Kd.C_below S1.out hb)
  clear S1
  have S1 := T
  clear T
  have T := Aside0.mk (Kd.C_below S2.out hb)
  clear S2
  have S2 := T
  clear T
  have T := Aside0.mk (Kd.C_below N35.out hb)
  clear N35
  have N35 := T
  clear T
  have T := Aside0.mk (HB.out.trans (hb.mono HB.out.size))
  clear HB
  have HB := T
  clear T
  clear hb
  go_wp2_with fail
  refine (Same_C ⟨4, 0, 0, [tv 1, tv 2, tv 3]⟩ ⟨4, 0, 0, [tv 1, tv 2, tv 3]⟩ true As2 cs2 (some ⟨w30.heap.size, 0, none⟩) 3 w32 S2.out L2.out N35.out (by decide) (by kernel_rfl)).mono ?_
  rintro e w33 ⟨rfl, hb⟩
  have T := Aside0.mk (HL.out.below hb)
  clear HL
  have HL := T
  clear T
  have T := Aside0.mk (Kd.C_below N9.out hb)
  clear N9
  have N9 := T
  clear T
  have T := Aside0.mk (Kd.C_below N12.out hb)
  clear N12
  have N12 := T
  clear T
  have T := Aside0.mk ((hb.block _ (blk_lt B1.out)).trans B1.out)
  clear B1
  have B1 := T
  clear T
  have T := Aside0.mk (Kd.C_below N17.out hb)
  clear N17
  have N17 := T
  clear T
  have T := Aside0.mk ((hb.block _ (blk_lt B2.out)).trans B2.out)
  clear B2
  have B2 := T
  clear T
  have T := Aside0.mk (Kd.C_below N21.out hb)
  clear N21
  have N21 := T
  clear T
  have T := Aside0.mk ((hb.block _ (blk_lt B3.out)).trans B3.out)
  clear B3
  have B3 := T
  clear T
  have T := Aside0.mk (Kd.C_below N24.out hb)
  clear N24
  have N24 := T
  clear T
  have T := Aside0.mk (Kd.C_below N25.out hb)
  clear N25
  have N25 := T
  clear T
  have T := Aside0.mk (Kd.C_below S1.out hb)
  clear S1
  have S1 := T
  clear T
  have T := Aside0.mk (Kd.C_below S2.out hb)
  clear S2
  have S2 := T
  clear T
  have T := Aside0.mk (Kd.C_below N35.out hb)
  clear N35
  have N35 := T
  clear T
  have T := Aside0.mk (HB.out.trans (hb.mono HB.out.size))
  clear HB
  have HB := T
  clear T
  clear hb
  have qB20 := (blk_cell B2.out 0).trans rfl
  have qB21 := (blk_cell B2.out 1).trans rfl
  have qB22 := (blk_cell B2.out 2).trans rfl
  have qB23 := (blk_cell B2.out 3).trans rfl
  go_wp2_with fail
  clear qB20 qB21 qB22 qB23
  refine (Simple_C T2 ⟨5, 0, 0, [tv 1, tv 2]⟩ (some ⟨w12.heap.size, 0, none⟩) 3 w33 N17.out (by decide) HL.out (by kernel_rfl) (by kernel_rfl)).mono ?_
  rintro e w34 ⟨As3, cs3, rfl, hl, hC, hb⟩
  have T := Aside0.mk (HL.out.below hb)
  clear HL
  have HL := T
  clear T
  have T := Aside0.mk (Kd.C_below N9.out hb)
  clear N9
  have N9 := T
  clear T
  have T := Aside0.mk (Kd.C_below N12.out hb)
  clear N12
  have N12 := T
  clear T
  have T := Aside0.mk ((hb.block _ (blk_lt B1.out)).trans B1.out)
  clear B1
  have B1 := T
  clear T
  have T := Aside0.mk (Kd.C_below N17.out hb)
  clear N17
  have N17 := T
  clear T
  have T := Aside0.mk ((hb.block _ (blk_lt B2.out)).trans B2.out)
  clear B2
  have B2 := T
  clear T
  have T := Aside0.mk (Kd.C_below N21.out hb)
  clear N21
  have N21 := T
  clear T
  have T := Aside0.mk ((hb.block _ (blk_lt B3.out)).trans B3.out)
  clear B3
  have B3 := T
  clear T
  have T := Aside0.mk (Kd.C_below N24.out hb)
  clear N24
  have N24 := T
  clear T
  have T := Aside0.mk (Kd.C_below N25.out hb)
  clear N25
  have N25 := T
  clear T
  have T := Aside0.mk (Kd.C_below S1.out hb)
  clear S1
  have S1 := T
  clear T
  have T := Aside0.mk (Kd.C_below S2.out hb)
  clear S2
  have S2 := T
  clear T
  have T := Aside0.mk (Kd.C_below N35.out hb)
  clear N35
  have N35 := T
  clear T
  have T := Aside0.mk (HB.out.trans (hb.mono HB.out.size))
  clear HB
  have HB := T
  clear T
  clear hb
  have S3 := Aside0.mk hC
  have L3 := Lib.hid hl
  clear hC hl
  go_wp2_with fail
  refine (v_calls 1 w34).mono ?_
  rintro e w35 ⟨rfl, hb⟩
  have T := Aside0.mk (HL.out.below hb)
  clear HL
  have HL := T
  clear T
  have T := Aside0.mk (Kd.C_below N9.out hb)
  clear N9
  have N9 := T
  clear T
  have T := Aside0.mk (Kd.C_below N12.out hb)
  clear N12
  have N12 := T
  clear T
  have T := Aside0.mk ((hb.block _ (blk_lt B1.out)).trans B1.out)
  clear B1
  have B1 := T
  clear T
  have T := Aside0.mk (Kd.C_below N17.out hb)
  clear N17
  have N17 := T
  clear T
  have T := Aside0.mk ((hb.block _ (blk_lt B2.out)).trans B2.out)
  clear B2
  have B2 := T
  clear T
  have T := Aside0.mk (Kd.C_below N21.out hb)
  clear N21
  have N21 := T
  clear T
  have T := Aside0.mk ((hb.block _ (blk_lt B3.out)).trans B3.out)
  clear B3
  have B3 := T
  clear T
  have T := Aside0.mk (Kd.C_below N24.out hb)
  clear N24
  have N24 := T
  clear T
  have T := Aside0.mk (Kd.C_below N25.out hb)
  clear N25
  have N25 := T
  clear T
  have T := Aside0.mk (Kd.C_below S1.out hb)
  clear S1
  have S1 := T
  clear T
  have T := Aside0.mk (Kd.C_below S2.out hb)
  clear S2
  have S2 := T
  clear T
  have T := Aside0.mk (Kd.C_below N35.out hb)
  clear N35
  have N35 := T
  clear T
  have T := Aside0.mk (Kd.C_below S3.out hb)
  clear S3
  have S3 := T
  clear T
  have T := Aside0.mk (HB.out.trans (hb.mono HB.out.size))
  clear HB
  have HB := T
  clear T
  clear hb
  go_wp2_with fail
  refine (v_calls 2 w35).mono ?_
  rintro e w36 ⟨rfl, hb⟩
  have T := Aside0.mk (HL.out.below hb)
  clear HL
  have HL := T
  clear T
  have T := Aside0.mk (Kd.C_below N9.out hb)
  clear N9
  have N9 := T
  clear T
  have T := Aside0.mk (Kd.C_below N12.out hb)
  clear N12
  have N12 := T
  clear T
  have T := Aside0.mk ((hb.block _ (blk_lt B1.out)).trans B1.out)
  clear B1
  have B1 := T
  clear T
  have T := Aside0.mk (Kd.C_below N17.out hb)
  clear N17
  have N17 := T
  clear T
  have T := Aside0.mk ((hb.block _ (blk_lt B2.out)).trans B2.out)
  clear B2
  have B2 := T
  clear T
  have T := Aside0.mk (Kd.C_below N21.out hb)
  clear N21
  have N21 := T
  clear T
  have T := Aside0.mk ((hb.block _ (blk_lt B3.out)).trans B3.out)
  clear B3
  have B3 := T
  clear T
  have T := Aside0.mk (Kd.C_below N24.out hb)
  clear N24
  have N24 := T
  clear T
  have T := Aside0.mk (Kd.C_below N25.out hb)
  clear N25
  have N25 := T
  clear T
  have T := Aside0.mk (Kd.C_below S1.out hb)
  clear S1
  have S1 := T
  clear T
  have T := Aside0.mk (Kd.C_below S2.out hb)
  clear S2
  have S2 := T
  clear T
  have T := Aside0.mk (Kd.C_below N35.out hb)
  clear N35
  have N35 := T
  clear T
  have T := Aside0.mk (Kd.C_below S3.out hb)
  clear S3
  have S3 := T
  clear T
  have T := Aside0.mk (HB.out.trans (hb.mono HB.out.size))
  clear HB
  have HB := T
  clear T
  clear hb
  go_wp2_with fail
  have hb := Below.refl w36.heap.size w36
  have hb0 := (Below.refl (w36).heap.size (w36)).alloc (Nat.le_refl _) (.cells #[Value.int .i64 2, Value.int .i64 1, Value.int .i64 0, Value.slice none 0 0, Value.int .i64 2, Value.int .i64 2, Value.int .i64 0, Value.slice none 0 0] 24)
  have hc0 := hb.trans (hb0.mono (by first | (simp; done) | (simp; omega)))
  have T := Aside0.mk (HL.out.below hc0)
  clear HL
  have HL := T
  clear T
  have T := Aside0.mk (Kd.C_below N9.out hc0)
  clear N9
  have N9 := T
  clear T
  have T := Aside0.mk (Kd.C_below N12.out hc0)
  clear N12
  have N12 := T
  clear T
  have T := Aside0.mk ((hc0.block _ (blk_lt B1.out)).trans B1.out)
  clear B1
  have B1 := T
  clear T
  have T := Aside0.mk (Kd.C_below N17.out hc0)
  clear N17
  have N17 := T
  clear T
  have T := Aside0.mk ((hc0.block _ (blk_lt B2.out)).trans B2.out)
  clear B2
  have B2 := T
  clear T
  have T := Aside0.mk (Kd.C_below N21.out hc0)
  clear N21
  have N21 := T
  clear T
  have T := Aside0.mk ((hc0.block _ (blk_lt B3.out)).trans B3.out)
  clear B3
  have B3 := T
  clear T
  have T := Aside0.mk (Kd.C_below N24.out hc0)
  clear N24
  have N24 := T
  clear T
  have T := Aside0.mk (Kd.C_below N25.out hc0)
  clear N25
  have N25 := T
  clear T
  have T := Aside0.mk (Kd.C_below S1.out hc0)
  clear S1
  have S1 := T
  clear T
  have T := Aside0.mk (Kd.C_below S2.out hc0)
  clear S2
  have S2 := T
  clear T
  have T := Aside0.mk (Kd.C_below N35.out hc0)
  clear N35
  have N35 := T
  clear T
  have T := Aside0.mk (Kd.C_below S3.out hc0)
  clear S3
  have S3 := T
  clear T
  have T := Aside0.mk (HB.out.trans (hc0.mono HB.out.size))
  clear HB
  have HB := T
  clear T
  have nb := blk_new (w36) (.cells #[Value.int .i64 2, Value.int .i64 1, Value.int .i64 0, Value.slice none 0 0, Value.int .i64 2, Value.int .i64 2, Value.int .i64 0, Value.slice none 0 0] 24)
  have N44 := Aside0.mk (C_two [Value.int .i64 2, Value.int .i64 1, Value.int .i64 0, Value.slice none 0 0] [Value.int .i64 2, Value.int .i64 2, Value.int .i64 0, Value.slice none 0 0] nb (k24_mk _ (tv 1) (A3 := none) (c3 := 0) (Nat.le_refl _) (Kd.C_nil _ _)) (k24_mk _ (tv 2) (A3 := none) (c3 := 0) (Nat.le_refl _) (Kd.C_nil _ _)))
  clear nb
  clear hb hb0 hc0
  try simp only [World.size_alloc] at N44 ⊢
  generalize (w36.alloc (.cells #[Value.int .i64 2, Value.int .i64 1, Value.int .i64 0, Value.slice none 0 0, Value.int .i64 2, Value.int .i64 2, Value.int .i64 0, Value.slice none 0 0] 24)) = w37 at HL N9 N12 B1 N17 B2 N21 B3 N24 N25 S1 S2 N35 S3 N44 HB ⊢
  refine (of_calls 5 0 (some ⟨w36.heap.size, 0, none⟩) 2 2 w37).mono ?_
  rintro e w38 ⟨rfl, hb⟩
  have T := Aside0.mk (HL.out.below hb)
  clear HL
  have HL := T
  clear T
  have T := Aside0.mk (Kd.C_below N9.out hb)
  clear N9
  have N9 := T
  clear T
  have T := Aside0.mk (Kd.C_below N12.out hb)
  clear N12
  have N12 := T
  clear T
  have T := Aside0.mk ((hb.block _ (blk_lt B1.out)).trans B1.out)
  clear B1
  have B1 := T
  clear T
  have T := Aside0.mk (Kd.C_below N17.out hb)
  clear N17
  have N17 := T
  clear T
  have T := Aside0.mk ((hb.block _ (blk_lt B2.out)).trans B2.out)
  clear B2
  have B2 := T
  clear T
  have T := Aside0.mk (Kd.C_below N21.out hb)
  clear N21
  have N21 := T
  clear T
  have T := Aside0.mk ((hb.block _ (blk_lt B3.out)).trans B3.out)
  clear B3
  have B3 := T
  clear T
  have T := Aside0.mk (Kd.C_below N24.out hb)
  clear N24
  have N24 := T
  clear T
  have T := Aside0.mk (Kd.C_below N25.out hb)
  clear N25
  have N25 := T
  clear T
  have T := Aside0.mk (Kd.C_below S1.out hb)
  clear S1
  have S1 := T
  clear T
  have T := Aside0.mk (Kd.C_below S2.out hb)
  clear S2
  have S2 := T
  clear T
  have T := Aside0.mk (Kd.C_below N35.out hb)
  clear N35
  have N35 := T
  clear T
  have T := Aside0.mk (Kd.C_below S3.out hb)
  clear S3
  have S3 := T
  clear T
  have T := Aside0.mk (Kd.C_below N44.out hb)
  clear N44
  have N44 := T
  clear T
  have T := Aside0.mk (HB.out.trans (hb.mono HB.out.size))
  clear HB
  have HB := T
  clear T
  clear hb
  go_wp2_with fail
  refine (Same_C ⟨5, 0, 0, [tv 1, tv 2]⟩ ⟨5, 0, 0, [tv 1, tv 2]⟩ true As3 cs3 (some ⟨w36.heap.size, 0, none⟩) 2 w38 S3.out L3.out N44.out (by decide) (by kernel_rfl)).mono ?_
  rintro e w39 ⟨rfl, hb⟩
  have T := Aside0.mk (HL.out.below hb)
  clear HL
  have HL := T
  clear T
  have T := Aside0.mk (Kd.C_below N9.out hb)
  clear N9
  have N9 := T
  clear T
  have T := Aside0.mk (Kd.C_below N12.out hb)
  clear N12
  have N12 := T
  clear T
  have T := Aside0.mk ((hb.block _ (blk_lt B1.out)).trans B1.out)
  clear B1
  have B1 := T
  clear T
  have T := Aside0.mk (Kd.C_below N17.out hb)
  clear N17
  have N17 := T
  clear T
  have T := Aside0.mk ((hb.block _ (blk_lt B2.out)).trans B2.out)
  clear B2
  have B2 := T
  clear T
  have T := Aside0.mk (Kd.C_below N21.out hb)
  clear N21
  have N21 := T
  clear T
  have T := Aside0.mk ((hb.block _ (blk_lt B3.out)).trans B3.out)
  clear B3
  have B3 := T
  clear T
  have T := Aside0.mk (Kd.C_below N24.out hb)
  clear N24
  have N24 := T
  clear T
  have T := Aside0.mk (Kd.C_below N25.out hb)
  clear N25
  have N25 := T
  clear T
  have T := Aside0.mk (Kd.C_below S1.out hb)
  clear S1
  have S1 := T
  clear T
  have T := Aside0.mk (Kd.C_below S2.out hb)
  clear S2
  have S2 := T
  clear T
  have T := Aside0.mk (Kd.C_below N35.out hb)
  clear N35
  have N35 := T
  clear T
  have T := Aside0.mk (Kd.C_below S3.out hb)
  clear S3
  have S3 := T
  clear T
  have T := Aside0.mk (Kd.C_below N44.out hb)
  clear N44
  have N44 := T
  clear T
  have T := Aside0.mk (HB.out.trans (hb.mono HB.out.size))
  clear HB
  have HB := T
  clear T
  clear hb
  have qB30 := (blk_cell B3.out 0).trans rfl
  have qB31 := (blk_cell B3.out 1).trans rfl
  have qB32 := (blk_cell B3.out 2).trans rfl
  have qB33 := (blk_cell B3.out 3).trans rfl
  go_wp2_with fail
  clear qB30 qB31 qB32 qB33
  refine (Simple_C T3 ⟨4, 0, 0, [tv 1, tv 2]⟩ (some ⟨w17.heap.size, 0, none⟩) 2 w39 N21.out (by decide) HL.out (by kernel_rfl) (by kernel_rfl)).mono ?_
  rintro e w40 ⟨As4, cs4, rfl, hl, hC, hb⟩
  have T := Aside0.mk (HL.out.below hb)
  clear HL
  have HL := T
  clear T
  have T := Aside0.mk (Kd.C_below N9.out hb)
  clear N9
  have N9 := T
  clear T
  have T := Aside0.mk (Kd.C_below N12.out hb)
  clear N12
  have N12 := T
  clear T
  have T := Aside0.mk ((hb.block _ (blk_lt B1.out)).trans B1.out)
  clear B1
  have B1 := T
  clear T
  have T := Aside0.mk (Kd.C_below N17.out hb)
  clear N17
  have N17 := T
  clear T
  have T := Aside0.mk ((hb.block _ (blk_lt B2.out)).trans B2.out)
  clear B2
  have B2 := T
  clear T
  have T := Aside0.mk (Kd.C_below N21.out hb)
  clear N21
  have N21 := T
  clear T
  have T := Aside0.mk ((hb.block _ (blk_lt B3.out)).trans B3.out)
  clear B3
  have B3 := T
  clear T
  have T := Aside0.mk (Kd.C_below N24.out hb)
  clear N24
  have N24 := T
  clear T
  have T := Aside0.mk (Kd.C_below N25.out hb)
  clear N25
  have N25 := T
  clear T
  have T := Aside0.mk (Kd.C_below S1.out hb)
  clear S1
  have S1 := T
  clear T
  have T := Aside0.mk (Kd.C_below S2.out hb)
  clear S2
  have S2 := T
  clear T
  have T := Aside0.mk (Kd.C_below N35.out hb)
  clear N35
  have N35 := T
  clear T
  have T := Aside0.mk (Kd.C_below S3.out hb)
  clear S3
  have S3 := T
  clear T
  have T := Aside0.mk (Kd.C_below N44.out hb)
  clear N44
  have N44 := T
  clear T
  have T := Aside0.mk (HB.out.trans (hb.mono HB.out.size))
  clear HB
  have HB := T
  clear T
  clear hb
  have S4 := Aside0.mk hC
  have L4 := Lib.hid hl
  clear hC hl
  go_wp2_with fail
  refine (v_calls 1 w40).mono ?_
  rintro e w41 ⟨rfl, hb⟩
  have T := Aside0.mk (HL.out.below hb)
  clear HL
  have HL := T
  clear T
  have T := Aside0.mk (Kd.C_below N9.out hb)
  clear N9
  have N9 := T
  clear T
  have T := Aside0.mk (Kd.C_below N12.out hb)
  clear N12
  have N12 := T
  clear T
  have T := Aside0.mk ((hb.block _ (blk_lt B1.out)).trans B1.out)
  clear B1
  have B1 := T
  clear T
  have T := Aside0.mk (Kd.C_below N17.out hb)
  clear N17
  have N17 := T
  clear T
  have T := Aside0.mk ((hb.block _ (blk_lt B2.out)).trans B2.out)
  clear B2
  have B2 := T
  clear T
  have T := Aside0.mk (Kd.C_below N21.out hb)
  clear N21
  have N21 := T
  clear T
  have T := Aside0.mk ((hb.block _ (blk_lt B3.out)).trans B3.out)
  clear B3
  have B3 := T
  clear T
  have T := Aside0.mk (Kd.C_below N24.out hb)
  clear N24
  have N24 := T
  clear T
  have T := Aside0.mk (Kd.C_below N25.out hb)
  clear N25
  have N25 := T
  clear T
  have T := Aside0.mk (Kd.C_below S1.out hb)
  clear S1
  have S1 := T
  clear T
  have T := Aside0.mk (Kd.C_below S2.out hb)
  clear S2
  have S2 := T
  clear T
  have T := Aside0.mk (Kd.C_below N35.out hb)
  clear N35
  have N35 := T
  clear T
  have T := Aside0.mk (Kd.C_below S3.out hb)
  clear S3
  have S3 := T
  clear T
  have T := Aside0.mk (Kd.C_below N44.out hb)
  clear N44
  have N44 := T
  clear T
  have T := Aside0.mk (Kd.C_below S4.out hb)
  clear S4
  have S4 := T
  clear T
  have T := Aside0.mk (HB.out.trans (hb.mono HB.out.size))
  clear HB
  have HB := T
  clear T
  clear hb
  go_wp2_with fail
  refine (v_calls 2 w41).mono ?_
  rintro e w42 ⟨rfl, hb⟩
  have T := Aside0.mk (HL.out.below hb)
  clear HL
  have HL := T
  clear T
  have T := Aside0.mk (Kd.C_below N9.out hb)
  clear N9
  have N9 := T
  clear T
  have T := Aside0.mk (Kd.C_below N12.out hb)
  clear N12
  have N12 := T
  clear T
  have T := Aside0.mk ((hb.block _ (blk_lt B1.out)).trans B1.out)
  clear B1
  have B1 := T
  clear T
  have T := Aside0.mk (Kd.C_below N17.out hb)
  clear N17
  have N17 := T
  clear T
  have T := Aside0.mk ((hb.block _ (blk_lt B2.out)).trans B2.out)
  clear B2
  have B2 := T
  clear T
  have T := Aside0.mk (Kd.C_below N21.out hb)
  clear N21
  have N21 := T
  clear T
  have T := Aside0.mk ((hb.block _ (blk_lt B3.out)).trans B3.out)
  clear B3
  have B3 := T
  clear T
  have T := Aside0.mk (Kd.C_below N24.out hb)
  clear N24
  have N24 := T
  clear T
  have T := Aside0.mk (Kd.C_below N25.out hb)
  clear N25
  have N25 := T
  clear T
  have T := Aside0.mk (Kd.C_below S1.out hb)
  clear S1
  have S1 := T
  clear T
  have T := Aside0.mk (Kd.C_below S2.out hb)
  clear S2
  have S2 := T
  clear T
  have T := Aside0.mk (Kd.C_below N35.out hb)
  clear N35
  have N35 := T
  clear T
  have T := Aside0.mk (Kd.C_below S3.out hb)
  clear S3
  have S3 := T
  clear T
  have T := Aside0.mk (Kd.C_below N44.out hb)
  clear N44
  have N44 := T
  clear T
  have T := Aside0.mk (Kd.C_below S4.out hb)
  clear S4
  have S4 := T
  clear T
  have T := Aside0.mk (HB.out.trans (hb.mono HB.out.size))
  clear HB
  have HB := T
  clear T
  clear hb
  go_wp2_with fail
  have hb := Below.refl w42.heap.size w42
  have hb0 := (Below.refl (w42).heap.size (w42)).alloc (Nat.le_refl _) (.cells #[Value.int .i64 2, Value.int .i64 1, Value.int .i64 0, Value.slice none 0 0, Value.int .i64 2, Value.int .i64 2, Value.int .i64 0, Value.slice none 0 0] 24)
  have hc0 := hb.trans (hb0.mono (by first | (simp; done) | (simp; omega)))
  have T := Aside0.mk (HL.out.below hc0)
  clear HL
  have HL := T
  clear T
  have T := Aside0.mk (Kd.C_below N9.out hc0)
  clear N9
  have N9 := T
  clear T
  have T := Aside0.mk (Kd.C_below N12.out hc0)
  clear N12
  have N12 := T
  clear T
  have T := Aside0.mk ((hc0.block _ (blk_lt B1.out)).trans B1.out)
  clear B1
  have B1 := T
  clear T
  have T := Aside0.mk (Kd.C_below N17.out hc0)
  clear N17
  have N17 := T
  clear T
  have T := Aside0.mk ((hc0.block _ (blk_lt B2.out)).trans B2.out)
  clear B2
  have B2 := T
  clear T
  have T := Aside0.mk (Kd.C_below N21.out hc0)
  clear N21
  have N21 := T
  clear T
  have T := Aside0.mk ((hc0.block _ (blk_lt B3.out)).trans B3.out)
  clear B3
  have B3 := T
  clear T
  have T := Aside0.mk (Kd.C_below N24.out hc0)
  clear N24
  have N24 := T
  clear T
  have T := Aside0.mk (Kd.C_below N25.out hc0)
  clear N25
  have N25 := T
  clear T
  have T := Aside0.mk (Kd.C_below S1.out hc0)
  clear S1
  have S1 := T
  clear T
  have T := Aside0.mk (Kd.C_below S2.out hc0)
  clear S2
  have S2 := T
  clear T
  have T := Aside0.mk (Kd.C_below N35.out hc0)
  clear N35
  have N35 := T
  clear T
  have T := Aside0.mk (Kd.C_below S3.out hc0)
  clear S3
  have S3 := T
  clear T
  have T := Aside0.mk (Kd.C_below N44.out hc0)
  clear N44
  have N44 := T
  clear T
  have T := Aside0.mk (Kd.C_below S4.out hc0)
  clear S4
  have S4 := T
  clear T
  have T := Aside0.mk (HB.out.trans (hc0.mono HB.out.size))
  clear HB
  have HB := T
  clear T
  have nb := blk_new (w42) (.cells #[Value.int .i64 2, Value.int .i64 1, Value.int .i64 0, Value.slice none 0 0, Value.int .i64 2, Value.int .i64 2, Value.int .i64 0, Value.slice none 0 0] 24)
  have N53 := Aside0.mk (C_two [Value.int .i64 2, Value.int .i64 1, Value.int .i64 0, Value.slice none 0 0] [Value.int .i64 2, Value.int .i64 2, Value.int .i64 0, Value.slice none 0 0] nb (k24_mk _ (tv 1) (A3 := none) (c3 := 0) (Nat.le_refl _) (Kd.C_nil _ _)) (k24_mk _ (tv 2) (A3 := none) (c3 := 0) (Nat.le_refl _) (Kd.C_nil _ _)))
  clear nb
  clear hb hb0 hc0
  try simp only [World.size_alloc] at N53 ⊢
  generalize (w42.alloc (.cells #[Value.int .i64 2, Value.int .i64 1, Value.int .i64 0, Value.slice none 0 0, Value.int .i64 2, Value.int .i64 2, Value.int .i64 0, Value.slice none 0 0] 24)) = w43 at HL N9 N12 B1 N17 B2 N21 B3 N24 N25 S1 S2 N35 S3 N44 S4 N53 HB ⊢
  refine (of_calls 4 0 (some ⟨w42.heap.size, 0, none⟩) 2 2 w43).mono ?_
  rintro e w44 ⟨rfl, hb⟩
  have T := Aside0.mk (HL.out.below hb)
  clear HL
  have HL := T
  clear T
  have T := Aside0.mk (Kd.C_below N9.out hb)
  clear N9
  have N9 := T
  clear T
  have T := Aside0.mk (Kd.C_below N12.out hb)
  clear N12
  have N12 := T
  clear T
  have T := Aside0.mk ((hb.block _ (blk_lt B1.out)).trans B1.out)
  clear B1
  have B1 := T
  clear T
  have T := Aside0.mk (Kd.C_below N17.out hb)
  clear N17
  have N17 := T
  clear T
  have T := Aside0.mk ((hb.block _ (blk_lt B2.out)).trans B2.out)
  clear B2
  have B2 := T
  clear T
  have T := Aside0.mk (Kd.C_below N21.out hb)
  clear N21
  have N21 := T
  clear T
  have T := Aside0.mk ((hb.block _ (blk_lt B3.out)).trans B3.out)
  clear B3
  have B3 := T
  clear T
  have T := Aside0.mk (Kd.C_below N24.out hb)
  clear N24
  have N24 := T
  clear T
  have T := Aside0.mk (Kd.C_below N25.out hb)
  clear N25
  have N25 := T
  clear T
  have T := Aside0.mk (Kd.C_below S1.out hb)
  clear S1
  have S1 := T
  clear T
  have T := Aside0.mk (Kd.C_below S2.out hb)
  clear S2
  have S2 := T
  clear T
  have T := Aside0.mk (Kd.C_below N35.out hb)
  clear N35
  have N35 := T
  clear T
  have T := Aside0.mk (Kd.C_below S3.out hb)
  clear S3
  have S3 := T
  clear T
  have T := Aside0.mk (Kd.C_below N44.out hb)
  clear N44
  have N44 := T
  clear T
  have T := Aside0.mk (Kd.C_below S4.out hb)
  clear S4
  have S4 := T
  clear T
  have T := Aside0.mk (Kd.C_below N53.out hb)
  clear N53
  have N53 := T
  clear T
  have T := Aside0.mk (HB.out.trans (hb.mono HB.out.size))
  clear HB
  have HB := T
  clear T
  clear hb
  go_wp2_with fail
  refine (Same_C ⟨4, 0, 0, [tv 1, tv 2]⟩ ⟨4, 0, 0, [tv 1, tv 2]⟩ true As4 cs4 (some ⟨w42.heap.size, 0, none⟩) 2 w44 S4.out L4.out N53.out (by decide) (by kernel_rfl)).mono ?_
  rintro e w45 ⟨rfl, hb⟩
  have T := Aside0.mk (HL.out.below hb)
  clear HL
  have HL := T
  clear T
  have T := Aside0.mk (Kd.C_below N9.out hb)
  clear N9
  have N9 := T
  clear T
  have T := Aside0.mk (Kd.C_below N12.out hb)
  clear N12
  have N12 := T
  clear T
  have T := Aside0.mk ((hb.block _ (blk_lt B1.out)).trans B1.out)
  clear B1
  have B1 := T
  clear T
  have T := Aside0.mk (Kd.C_below N17.out hb)
  clear N17
  have N17 := T
  clear T
  have T := Aside0.mk ((hb.block _ (blk_lt B2.out)).trans B2.out)
  clear B2
  have B2 := T
  clear T
  have T := Aside0.mk (Kd.C_below N21.out hb)
  clear N21
  have N21 := T
  clear T
  have T := Aside0.mk ((hb.block _ (blk_lt B3.out)).trans B3.out)
  clear B3
  have B3 := T
  clear T
  have T := Aside0.mk (Kd.C_below N24.out hb)
  clear N24
  have N24 := T
  clear T
  have T := Aside0.mk (Kd.C_below N25.out hb)
  clear N25
  have N25 := T
  clear T
  have T := Aside0.mk (Kd.C_below S1.out hb)
  clear S1
  have S1 := T
  clear T
  have T := Aside0.mk (Kd.C_below S2.out hb)
  clear S2
  have S2 := T
  clear T
  have T := Aside0.mk (Kd.C_below N35.out hb)
  clear N35
  have N35 := T
  clear T
  have T := Aside0.mk (Kd.C_below S3.out hb)
  clear S3
  have S3 := T
  clear T
  have T := Aside0.mk (Kd.C_below N44.out hb)
  clear N44
  have N44 := T
  clear T
  have T := Aside0.mk (Kd.C_below S4.out hb)
  clear S4
  have S4 := T
  clear T
  have T := Aside0.mk (Kd.C_below N53.out hb)
  clear N53
  have N53 := T
  clear T
  have T := Aside0.mk (HB.out.trans (hb.mono HB.out.size))
  clear HB
  have HB := T
  clear T
  clear hb
  have qB10 := (blk_cell B1.out 0).trans rfl
  have qB11 := (blk_cell B1.out 1).trans rfl
  have qB12 := (blk_cell B1.out 2).trans rfl
  have qB13 := (blk_cell B1.out 3).trans rfl
  go_wp2_with fail
  clear qB10 qB11 qB12 qB13
  refine ((T1_vars ▸ Vars_calls T1 (some ⟨w6.heap.size, 0, none⟩) 3 w45 N12.out (by decide) (by decide))).mono ?_
  rintro e w46 ⟨Av, cv, rfl, hl, hC, hb⟩
  have T := Aside0.mk (HL.out.below hb)
  clear HL
  have HL := T
  clear T
  have T := Aside0.mk (Kd.C_below N9.out hb)
  clear N9
  have N9 := T
  clear T
  have T := Aside0.mk (Kd.C_below N12.out hb)
  clear N12
  have N12 := T
  clear T
  have T := Aside0.mk ((hb.block _ (blk_lt B1.out)).trans B1.out)
  clear B1
  have B1 := T
  clear T
  have T := Aside0.mk (Kd.C_below N17.out hb)
  clear N17
  have N17 := T
  clear T
  have T := Aside0.mk ((hb.block _ (blk_lt B2.out)).trans B2.out)
  clear B2
  have B2 := T
  clear T
  have T := Aside0.mk (Kd.C_below N21.out hb)
  clear N21
  have N21 := T
  clear T
  have T := Aside0.mk ((hb.block _ (blk_lt B3.out)).trans B3.out)
  clear B3
  have B3 := T
  clear T
  have T := Aside0.mk (Kd.C_below N24.out hb)
  clear N24
  have N24 := T
  clear T
  have T := Aside0.mk (Kd.C_below N25.out hb)
  clear N25
  have N25 := T
  clear T
  have T := Aside0.mk (Kd.C_below S1.out hb)
  clear S1
  have S1 := T
  clear T
  have T := Aside0.mk (Kd.C_below S2.out hb)
  clear S2
  have S2 := T
  clear T
  have T := Aside0.mk (Kd.C_below N35.out hb)
  clear N35
  have N35 := T
  clear T
  have T := Aside0.mk (Kd.C_below S3.out hb)
  clear S3
  have S3 := T
  clear T
  have T := Aside0.mk (Kd.C_below N44.out hb)
  clear N44
  have N44 := T
  clear T
  have T := Aside0.mk (Kd.C_below S4.out hb)
  clear S4
  have S4 := T
  clear T
  have T := Aside0.mk (Kd.C_below N53.out hb)
  clear N53
  have N53 := T
  clear T
  have T := Aside0.mk (HB.out.trans (hb.mono HB.out.size))
  clear HB
  have HB := T
  clear T
  clear hb
  have NV := Aside0.mk hC
  have LV := Lib.hid hl
  clear hC hl
  obtain ⟨adv, rfl, hv0⟩ := Kd.at_int NV.out 0 (by decide) (by decide)
  obtain ⟨adw, hadw, hv2⟩ := Kd.at_int NV.out 2 (by decide) (by decide)
  obtain rfl := Option.some.inj hadw
  rw [show adv.add (Int.toNat 0) = adv from by first | rfl | simp | (cases adv; simp [Addr.add])] at hv0
  rw [show adv.add (Int.toNat 2) = ⟨adv.block, adv.off + 2, none⟩ from by first | rfl | simp [Addr.add]] at hv2
  have hv0' : _ = some (Value.int .i64 1) := hv0
  have hv2' : _ = some (Value.int .i64 3) := hv2
  clear hv0 hv2
  have qB10 := (blk_cell B1.out 0).trans rfl
  have qB11 := (blk_cell B1.out 1).trans rfl
  have qB12 := (blk_cell B1.out 2).trans rfl
  have qB13 := (blk_cell B1.out 3).trans rfl
  go_wp2_with fail
  clear qB10 qB11 qB12 qB13
  clear hv0' hv2'
  refine (Size_calls T1 (some ⟨w6.heap.size, 0, none⟩) 3 w46 N12.out (by decide)).mono ?_
  rintro e w47 ⟨rfl, hb⟩
  have T := Aside0.mk (HL.out.below hb)
  clear HL
  have HL := T
  clear T
  have T := Aside0.mk (Kd.C_below N9.out hb)
  clear N9
  have N9 := T
  clear T
  have T := Aside0.mk (Kd.C_below N12.out hb)
  clear N12
  have N12 := T
  clear T
  have T := Aside0.mk ((hb.block _ (blk_lt B1.out)).trans B1.out)
  clear B1
  have B1 := T
  clear T
  have T := Aside0.mk (Kd.C_below N17.out hb)
  clear N17
  have N17 := T
  clear T
  have T := Aside0.mk ((hb.block _ (blk_lt B2.out)).trans B2.out)
  clear B2
  have B2 := T
  clear T
  have T := Aside0.mk (Kd.C_below N21.out hb)
  clear N21
  have N21 := T
  clear T
  have T := Aside0.mk ((hb.block _ (blk_lt B3.out)).trans B3.out)
  clear B3
  have B3 := T
  clear T
  have T := Aside0.mk (Kd.C_below N24.out hb)
  clear N24
  have N24 := T
  clear T
  have T := Aside0.mk (Kd.C_below N25.out hb)
  clear N25
  have N25 := T
  clear T
  have T := Aside0.mk (Kd.C_below S1.out hb)
  clear S1
  have S1 := T
  clear T
  have T := Aside0.mk (Kd.C_below S2.out hb)
  clear S2
  have S2 := T
  clear T
  have T := Aside0.mk (Kd.C_below N35.out hb)
  clear N35
  have N35 := T
  clear T
  have T := Aside0.mk (Kd.C_below S3.out hb)
  clear S3
  have S3 := T
  clear T
  have T := Aside0.mk (Kd.C_below N44.out hb)
  clear N44
  have N44 := T
  clear T
  have T := Aside0.mk (Kd.C_below S4.out hb)
  clear S4
  have S4 := T
  clear T
  have T := Aside0.mk (Kd.C_below N53.out hb)
  clear N53
  have N53 := T
  clear T
  have T := Aside0.mk (Kd.C_below NV.out hb)
  clear NV
  have NV := T
  clear T
  have T := Aside0.mk (HB.out.trans (hb.mono HB.out.size))
  clear HB
  have HB := T
  clear T
  clear hb
  rw [show cntW (nodesT T1).length = 6 from by kernel_rfl]
  have qB10 := (blk_cell B1.out 0).trans rfl
  have qB11 := (blk_cell B1.out 1).trans rfl
  have qB12 := (blk_cell B1.out 2).trans rfl
  have qB13 := (blk_cell B1.out 3).trans rfl
  go_wp2_with fail
  clear qB10 qB11 qB12 qB13
  refine (Check_calls T1 3 (some ⟨w6.heap.size, 0, none⟩) 3 w47 N12.out (by decide)).mono ?_
  rintro e w48 ⟨rfl, hb⟩
  have T := Aside0.mk (HL.out.below hb)
  clear HL
  have HL := T
  clear T
  have T := Aside0.mk (Kd.C_below N9.out hb)
  clear N9
  have N9 := T
  clear T
  have T := Aside0.mk (Kd.C_below N12.out hb)
  clear N12
  have N12 := T
  clear T
  have T := Aside0.mk ((hb.block _ (blk_lt B1.out)).trans B1.out)
  clear B1
  have B1 := T
  clear T
  have T := Aside0.mk (Kd.C_below N17.out hb)
  clear N17
  have N17 := T
  clear T
  have T := Aside0.mk ((hb.block _ (blk_lt B2.out)).trans B2.out)
  clear B2
  have B2 := T
  clear T
  have T := Aside0.mk (Kd.C_below N21.out hb)
  clear N21
  have N21 := T
  clear T
  have T := Aside0.mk ((hb.block _ (blk_lt B3.out)).trans B3.out)
  clear B3
  have B3 := T
  clear T
  have T := Aside0.mk (Kd.C_below N24.out hb)
  clear N24
  have N24 := T
  clear T
  have T := Aside0.mk (Kd.C_below N25.out hb)
  clear N25
  have N25 := T
  clear T
  have T := Aside0.mk (Kd.C_below S1.out hb)
  clear S1
  have S1 := T
  clear T
  have T := Aside0.mk (Kd.C_below S2.out hb)
  clear S2
  have S2 := T
  clear T
  have T := Aside0.mk (Kd.C_below N35.out hb)
  clear N35
  have N35 := T
  clear T
  have T := Aside0.mk (Kd.C_below S3.out hb)
  clear S3
  have S3 := T
  clear T
  have T := Aside0.mk (Kd.C_below N44.out hb)
  clear N44
  have N44 := T
  clear T
  have T := Aside0.mk (Kd.C_below S4.out hb)
  clear S4
  have S4 := T
  clear T
  have T := Aside0.mk (Kd.C_below N53.out hb)
  clear N53
  have N53 := T
  clear T
  have T := Aside0.mk (Kd.C_below NV.out hb)
  clear NV
  have NV := T
  clear T
  have T := Aside0.mk (HB.out.trans (hb.mono HB.out.size))
  clear HB
  have HB := T
  clear T
  clear hb
  rw [show check_val 3 T1 = 0 from by kernel_rfl]
  have qB10 := (blk_cell B1.out 0).trans rfl
  have qB11 := (blk_cell B1.out 1).trans rfl
  have qB12 := (blk_cell B1.out 2).trans rfl
  have qB13 := (blk_cell B1.out 3).trans rfl
  go_wp2_with fail
  clear qB10 qB11 qB12 qB13
  refine (Check_calls T1 2 (some ⟨w6.heap.size, 0, none⟩) 3 w48 N12.out (by decide)).mono ?_
  rintro e w49 ⟨rfl, hb⟩
  have T := Aside0.mk (HL.out.below hb)
  clear HL
  have HL := T
  clear T
  have T := Aside0.mk (Kd.C_below N9.out hb)
  clear N9
  have N9 := T
  clear T
  have T := Aside0.mk (Kd.C_below N12.out hb)
  clear N12
  have N12 := T
  clear T
  have T := Aside0.mk ((hb.block _ (blk_lt B1.out)).trans B1.out)
  clear B1
  have B1 := T
  clear T
  have T := Aside0.mk (Kd.C_below N17.out hb)
  clear N17
  have N17 := T
  clear T
  have T := Aside0.mk ((hb.block _ (blk_lt B2.out)).trans B2.out)
  clear B2
  have B2 := T
  clear T
  have T := Aside0.mk (Kd.C_below N21.out hb)
  clear N21
  have N21 := T
  clear T
  have T := Aside0.mk ((hb.block _ (blk_lt B3.out)).trans B3.out)
  clear B3
  have B3 := T
  clear T
  have T := Aside0.mk (Kd.C_below N24.out hb)
  clear N24
  have N24 := T
  clear T
  have T := Aside0.mk (Kd.C_below N25.out hb)
  clear N25
  have N25 := T
  clear T
  have T := Aside0.mk (Kd.C_below S1.out hb)
  clear S1
  have S1 := T
  clear T
  have T := Aside0.mk (Kd.C_below S2.out hb)
  clear S2
  have S2 := T
  clear T
  have T := Aside0.mk (Kd.C_below N35.out hb)
  clear N35
  have N35 := T
  clear T
  have T := Aside0.mk (Kd.C_below S3.out hb)
  clear S3
  have S3 := T
  clear T
  have T := Aside0.mk (Kd.C_below N44.out hb)
  clear N44
  have N44 := T
  clear T
  have T := Aside0.mk (Kd.C_below S4.out hb)
  clear S4
  have S4 := T
  clear T
  have T := Aside0.mk (Kd.C_below N53.out hb)
  clear N53
  have N53 := T
  clear T
  have T := Aside0.mk (Kd.C_below NV.out hb)
  clear NV
  have NV := T
  clear T
  have T := Aside0.mk (HB.out.trans (hb.mono HB.out.size))
  clear HB
  have HB := T
  clear T
  clear hb
  rw [show check_val 2 T1 = 1 from by kernel_rfl]
  have qB30 := (blk_cell B3.out 0).trans rfl
  have qB31 := (blk_cell B3.out 1).trans rfl
  have qB32 := (blk_cell B3.out 2).trans rfl
  have qB33 := (blk_cell B3.out 3).trans rfl
  go_wp2_with fail
  clear qB30 qB31 qB32 qB33
  have hb := Below.refl w49.heap.size w49
  have hb0 := (Below.refl (w49).heap.size (w49)).alloc (Nat.le_refl _) (.cells #[Value.bool false, Value.bool true, Value.bool true] 4)
  have hc0 := hb.trans (hb0.mono (by first | (simp; done) | (simp; omega)))
  have T := Aside0.mk (HL.out.below hc0)
  clear HL
  have HL := T
  clear T
  have T := Aside0.mk (Kd.C_below N9.out hc0)
  clear N9
  have N9 := T
  clear T
  have T := Aside0.mk (Kd.C_below N12.out hc0)
  clear N12
  have N12 := T
  clear T
  have T := Aside0.mk ((hc0.block _ (blk_lt B1.out)).trans B1.out)
  clear B1
  have B1 := T
  clear T
  have T := Aside0.mk (Kd.C_below N17.out hc0)
  clear N17
  have N17 := T
  clear T
  have T := Aside0.mk ((hc0.block _ (blk_lt B2.out)).trans B2.out)
  clear B2
  have B2 := T
  clear T
  have T := Aside0.mk (Kd.C_below N21.out hc0)
  clear N21
  have N21 := T
  clear T
  have T := Aside0.mk ((hc0.block _ (blk_lt B3.out)).trans B3.out)
  clear B3
  have B3 := T
  clear T
  have T := Aside0.mk (Kd.C_below N24.out hc0)
  clear N24
  have N24 := T
  clear T
  have T := Aside0.mk (Kd.C_below N25.out hc0)
  clear N25
  have N25 := T
  clear T
  have T := Aside0.mk (Kd.C_below S1.out hc0)
  clear S1
  have S1 := T
  clear T
  have T := Aside0.mk (Kd.C_below S2.out hc0)
  clear S2
  have S2 := T
  clear T
  have T := Aside0.mk (Kd.C_below N35.out hc0)
  clear N35
  have N35 := T
  clear T
  have T := Aside0.mk (Kd.C_below S3.out hc0)
  clear S3
  have S3 := T
  clear T
  have T := Aside0.mk (Kd.C_below N44.out hc0)
  clear N44
  have N44 := T
  clear T
  have T := Aside0.mk (Kd.C_below S4.out hc0)
  clear S4
  have S4 := T
  clear T
  have T := Aside0.mk (Kd.C_below N53.out hc0)
  clear N53
  have N53 := T
  clear T
  have T := Aside0.mk (Kd.C_below NV.out hc0)
  clear NV
  have NV := T
  clear T
  have T := Aside0.mk (HB.out.trans (hc0.mono HB.out.size))
  clear HB
  have HB := T
  clear T
  have nb := blk_new (w49) (.cells #[Value.bool false, Value.bool true, Value.bool true] 4)
  have N92 := Aside0.mk (Cb_blk [false, true, true] nb)
  clear nb
  clear hb hb0 hc0
  try simp only [World.size_alloc] at N92 ⊢
  generalize (w49.alloc (.cells #[Value.bool false, Value.bool true, Value.bool true] 4)) = w50 at HL N9 N12 B1 N17 B2 N21 B3 N24 N25 S1 S2 N35 S3 N44 S4 N53 NV N92 HB ⊢
  refine (Value_C T3 [false, true, true] true (some ⟨w17.heap.size, 0, none⟩) 2 (some ⟨w49.heap.size, 0, none⟩) 3 w50 N21.out (by decide) N92.out (by decide) (by kernel_rfl) (by kernel_rfl)).mono ?_
  rintro e w51 ⟨rfl, hb⟩
  have T := Aside0.mk (HL.out.below hb)
  clear HL
  have HL := T
  clear T
  have T := Aside0.mk (Kd.C_below N9.out hb)
  clear N9
  have N9 := T
  clear T
  have T := Aside0.mk (Kd.C_below N12.out hb)
  clear N12
  have N12 := T
  clear T
  have T := Aside0.mk ((hb.block _ (blk_lt B1.out)).trans B1.out)
  clear B1
  have B1 := T
  clear T
  have T := Aside0.mk (Kd.C_below N17.out hb)
  clear N17
  have N17 := T
  clear T
  have T := Aside0.mk ((hb.block _ (blk_lt B2.out)).trans B2.out)
  clear B2
  have B2 := T
  clear T
  have T := Aside0.mk (Kd.C_below N21.out hb)
  clear N21
  have N21 := T
  clear T
  have T := Aside0.mk ((hb.block _ (blk_lt B3.out)).trans B3.out)
  clear B3
  have B3 := T
  clear T
  have T := Aside0.mk (Kd.C_below N24.out hb)
  clear N24
  have N24 := T
  clear T
  have T := Aside0.mk (Kd.C_below N25.out hb)
  clear N25
  have N25 := T
  clear T
  have T := Aside0.mk (Kd.C_below S1.out hb)
  clear S1
  have S1 := T
  clear T
  have T := Aside0.mk (Kd.C_below S2.out hb)
  clear S2
  have S2 := T
  clear T
  have T := Aside0.mk (Kd.C_below N35.out hb)
  clear N35
  have N35 := T
  clear T
  have T := Aside0.mk (Kd.C_below S3.out hb)
  clear S3
  have S3 := T
  clear T
  have T := Aside0.mk (Kd.C_below N44.out hb)
  clear N44
  have N44 := T
  clear T
  have T := Aside0.mk (Kd.C_below S4.out hb)
  clear S4
  have S4 := T
  clear T
  have T := Aside0.mk (Kd.C_below N53.out hb)
  clear N53
  have N53 := T
  clear T
  have T := Aside0.mk (Kd.C_below NV.out hb)
  clear NV
  have NV := T
  clear T
  have T := Aside0.mk (Kd.C_below N92.out hb)
  clear N92
  have N92 := T
  clear T
  have T := Aside0.mk (HB.out.trans (hb.mono HB.out.size))
  clear HB
  have HB := T
  clear T
  clear hb
  have qB30 := (blk_cell B3.out 0).trans rfl
  have qB31 := (blk_cell B3.out 1).trans rfl
  have qB32 := (blk_cell B3.out 2).trans rfl
  have qB33 := (blk_cell B3.out 3).trans rfl
  go_wp2_with fail
  clear qB30 qB31 qB32 qB33
  have hb := Below.refl w51.heap.size w51
  have hb0 := (Below.refl (w51).heap.size (w51)).alloc (Nat.le_refl _) (.cells #[Value.bool false, Value.bool true] 4)
  have hc0 := hb.trans (hb0.mono (by first | (simp; done) | (simp; omega)))
  have T := Aside0.mk (HL.out.below hc0)
  clear HL
  have HL := T
  clear T
  have T := Aside0.mk (Kd.C_below N9.out hc0)
  clear N9
  have N9 := T
  clear T
  have T := Aside0.mk (Kd.C_below N12.out hc0)
  clear N12
  have N12 := T
  clear T
  have T := Aside0.mk ((hc0.block _ (blk_lt B1.out)).trans B1.out)
  clear B1
  have B1 := T
  clear T
  have T := Aside0.mk (Kd.C_below N17.out hc0)
  clear N17
  have N17 := T
  clear T
  have T := Aside0.mk ((hc0.block _ (blk_lt B2.out)).trans B2.out)
  clear B2
  have B2 := T
  clear T
  have T := Aside0.mk (Kd.C_below N21.out hc0)
  clear N21
  have N21 := T
  clear T
  have T := Aside0.mk ((hc0.block _ (blk_lt B3.out)).trans B3.out)
  clear B3
  have B3 := T
  clear T
  have T := Aside0.mk (Kd.C_below N24.out hc0)
  clear N24
  have N24 := T
  clear T
  have T := Aside0.mk (Kd.C_below N25.out hc0)
  clear N25
  have N25 := T
  clear T
  have T := Aside0.mk (Kd.C_below S1.out hc0)
  clear S1
  have S1 := T
  clear T
  have T := Aside0.mk (Kd.C_below S2.out hc0)
  clear S2
  have S2 := T
  clear T
  have T := Aside0.mk (Kd.C_below N35.out hc0)
  clear N35
  have N35 := T
  clear T
  have T := Aside0.mk (Kd.C_below S3.out hc0)
  clear S3
  have S3 := T
  clear T
  have T := Aside0.mk (Kd.C_below N44.out hc0)
  clear N44
  have N44 := T
  clear T
  have T := Aside0.mk (Kd.C_below S4.out hc0)
  clear S4
  have S4 := T
  clear T
  have T := Aside0.mk (Kd.C_below N53.out hc0)
  clear N53
  have N53 := T
  clear T
  have T := Aside0.mk (Kd.C_below NV.out hc0)
  clear NV
  have NV := T
  clear T
  have T := Aside0.mk (Kd.C_below N92.out hc0)
  clear N92
  have N92 := T
  clear T
  have T := Aside0.mk (HB.out.trans (hc0.mono HB.out.size))
  clear HB
  have HB := T
  clear T
  have nb := blk_new (w51) (.cells #[Value.bool false, Value.bool true] 4)
  have N97 := Aside0.mk (Cb_blk [false, true] nb)
  clear nb
  clear hb hb0 hc0
  try simp only [World.size_alloc] at N97 ⊢
  generalize (w51.alloc (.cells #[Value.bool false, Value.bool true] 4)) = w52 at HL N9 N12 B1 N17 B2 N21 B3 N24 N25 S1 S2 N35 S3 N44 S4 N53 NV N92 N97 HB ⊢
  refine (Value_C T3 [false, true] false (some ⟨w17.heap.size, 0, none⟩) 2 (some ⟨w51.heap.size, 0, none⟩) 2 w52 N21.out (by decide) N97.out (by decide) (by kernel_rfl) (by kernel_rfl)).mono ?_
  rintro e w53 ⟨rfl, hb⟩
  have T := Aside0.mk (HL.out.below hb)
  clear HL
  have HL := T
  clear T
  have T := Aside0.mk (Kd.C_below N9.out hb)
  clear N9
  have N9 := T
  clear T
  have T := Aside0.mk (Kd.C_below N12.out hb)
  clear N12
  have N12 := T
  clear T
  have T := Aside0.mk ((hb.block _ (blk_lt B1.out)).trans B1.out)
  clear B1
  have B1 := T
  clear T
  have T := Aside0.mk (Kd.C_below N17.out hb)
  clear N17
  have N17 := T
  clear T
  have T := Aside0.mk ((hb.block _ (blk_lt B2.out)).trans B2.out)
  clear B2
  have B2 := T
  clear T
  have T := Aside0.mk (Kd.C_below N21.out hb)
  clear N21
  have N21 := T
  clear T
  have T := Aside0.mk ((hb.block _ (blk_lt B3.out)).trans B3.out)
  clear B3
  have B3 := T
  clear T
  have T := Aside0.mk (Kd.C_below N24.out hb)
  clear N24
  have N24 := T
  clear T
  have T := Aside0.mk (Kd.C_below N25.out hb)
  clear N25
  have N25 := T
  clear T
  have T := Aside0.mk (Kd.C_below S1.out hb)
  clear S1
  have S1 := T
  clear T
  have T := Aside0.mk (Kd.C_below S2.out hb)
  clear S2
  have S2 := T
  clear T
  have T := Aside0.mk (Kd.C_below N35.out hb)
  clear N35
  have N35 := T
  clear T
  have T := Aside0.mk (Kd.C_below S3.out hb)
  clear S3
  have S3 := T
  clear T
  have T := Aside0.mk (Kd.C_below N44.out hb)
  clear N44
  have N44 := T
  clear T
  have T := Aside0.mk (Kd.C_below S4.out hb)
  clear S4
  have S4 := T
  clear T
  have T := Aside0.mk (Kd.C_below N53.out hb)
  clear N53
  have N53 := T
  clear T
  have T := Aside0.mk (Kd.C_below NV.out hb)
  clear NV
  have NV := T
  clear T
  have T := Aside0.mk (Kd.C_below N92.out hb)
  clear N92
  have N92 := T
  clear T
  have T := Aside0.mk (Kd.C_below N97.out hb)
  clear N97
  have N97 := T
  clear T
  have T := Aside0.mk (HB.out.trans (hb.mono HB.out.size))
  clear HB
  have HB := T
  clear T
  clear hb
  have qB20 := (blk_cell B2.out 0).trans rfl
  have qB21 := (blk_cell B2.out 1).trans rfl
  have qB22 := (blk_cell B2.out 2).trans rfl
  have qB23 := (blk_cell B2.out 3).trans rfl
  go_wp2_with fail
  clear qB20 qB21 qB22 qB23
  have hb := Below.refl w53.heap.size w53
  have hb0 := (Below.refl (w53).heap.size (w53)).alloc (Nat.le_refl _) (.cells #[Value.bool false, Value.bool true] 4)
  have hc0 := hb.trans (hb0.mono (by first | (simp; done) | (simp; omega)))
  have T := Aside0.mk (HL.out.below hc0)
  clear HL
  have HL := T
  clear T
  have T := Aside0.mk (Kd.C_below N9.out hc0)
  clear N9
  have N9 := T
  clear T
  have T := Aside0.mk (Kd.C_below N12.out hc0)
  clear N12
  have N12 := T
  clear T
  have T := Aside0.mk ((hc0.block _ (blk_lt B1.out)).trans B1.out)
  clear B1
  have B1 := T
  clear T
  have T := Aside0.mk (Kd.C_below N17.out hc0)
  clear N17
  have N17 := T
  clear T
  have T := Aside0.mk ((hc0.block _ (blk_lt B2.out)).trans B2.out)
  clear B2
  have B2 := T
  clear T
  have T := Aside0.mk (Kd.C_below N21.out hc0)
  clear N21
  have N21 := T
  clear T
  have T := Aside0.mk ((hc0.block _ (blk_lt B3.out)).trans B3.out)
  clear B3
  have B3 := T
  clear T
  have T := Aside0.mk (Kd.C_below N24.out hc0)
  clear N24
  have N24 := T
  clear T
  have T := Aside0.mk (Kd.C_below N25.out hc0)
  clear N25
  have N25 := T
  clear T
  have T := Aside0.mk (Kd.C_below S1.out hc0)
  clear S1
  have S1 := T
  clear T
  have T := Aside0.mk (Kd.C_below S2.out hc0)
  clear S2
  have S2 := T
  clear T
  have T := Aside0.mk (Kd.C_below N35.out hc0)
  clear N35
  have N35 := T
  clear T
  have T := Aside0.mk (Kd.C_below S3.out hc0)
  clear S3
  have S3 := T
  clear T
  have T := Aside0.mk (Kd.C_below N44.out hc0)
  clear N44
  have N44 := T
  clear T
  have T := Aside0.mk (Kd.C_below S4.out hc0)
  clear S4
  have S4 := T
  clear T
  have T := Aside0.mk (Kd.C_below N53.out hc0)
  clear N53
  have N53 := T
  clear T
  have T := Aside0.mk (Kd.C_below NV.out hc0)
  clear NV
  have NV := T
  clear T
  have T := Aside0.mk (Kd.C_below N92.out hc0)
  clear N92
  have N92 := T
  clear T
  have T := Aside0.mk (Kd.C_below N97.out hc0)
  clear N97
  have N97 := T
  clear T
  have T := Aside0.mk (HB.out.trans (hc0.mono HB.out.size))
  clear HB
  have HB := T
  clear T
  have nb := blk_new (w53) (.cells #[Value.bool false, Value.bool true] 4)
  have N103 := Aside0.mk (Cb_blk [false, true] nb)
  clear nb
  clear hb hb0 hc0
  try simp only [World.size_alloc] at N103 ⊢
  generalize (w53.alloc (.cells #[Value.bool false, Value.bool true] 4)) = w54 at HL N9 N12 B1 N17 B2 N21 B3 N24 N25 S1 S2 N35 S3 N44 S4 N53 NV N92 N97 N103 HB ⊢
  refine (Value_C T2 [false, true] true (some ⟨w12.heap.size, 0, none⟩) 3 (some ⟨w53.heap.size, 0, none⟩) 2 w54 N17.out (by decide) N103.out (by decide) (by kernel_rfl) (by kernel_rfl)).mono ?_
  rintro e w55 ⟨rfl, hb⟩
  have T := Aside0.mk (HL.out.below hb)
  clear HL
  have HL := T
  clear T
  have T := Aside0.mk (Kd.C_below N9.out hb)
  clear N9
  have N9 := T
  clear T
  have T := Aside0.mk (Kd.C_below N12.out hb)
  clear N12
  have N12 := T
  clear T
  have T := Aside0.mk ((hb.block _ (blk_lt B1.out)).trans B1.out)
  clear B1
  have B1 := T
  clear T
  have T := Aside0.mk (Kd.C_below N17.out hb)
  clear N17
  have N17 := T
  clear T
  have T := Aside0.mk ((hb.block _ (blk_lt B2.out)).trans B2.out)
  clear B2
  have B2 := T
  clear T
  have T := Aside0.mk (Kd.C_below N21.out hb)
  clear N21
  have N21 := T
  clear T
  have T := Aside0.mk ((hb.block _ (blk_lt B3.out)).trans B3.out)
  clear B3
  have B3 := T
  clear T
  have T := Aside0.mk (Kd.C_below N24.out hb)
  clear N24
  have N24 := T
  clear T
  have T := Aside0.mk (Kd.C_below N25.out hb)
  clear N25
  have N25 := T
  clear T
  have T := Aside0.mk (Kd.C_below S1.out hb)
  clear S1
  have S1 := T
  clear T
  have T := Aside0.mk (Kd.C_below S2.out hb)
  clear S2
  have S2 := T
  clear T
  have T := Aside0.mk (Kd.C_below N35.out hb)
  clear N35
  have N35 := T
  clear T
  have T := Aside0.mk (Kd.C_below S3.out hb)
  clear S3
  have S3 := T
  clear T
  have T := Aside0.mk (Kd.C_below N44.out hb)
  clear N44
  have N44 := T
  clear T
  have T := Aside0.mk (Kd.C_below S4.out hb)
  clear S4
  have S4 := T
  clear T
  have T := Aside0.mk (Kd.C_below N53.out hb)
  clear N53
  have N53 := T
  clear T
  have T := Aside0.mk (Kd.C_below NV.out hb)
  clear NV
  have NV := T
  clear T
  have T := Aside0.mk (Kd.C_below N92.out hb)
  clear N92
  have N92 := T
  clear T
  have T := Aside0.mk (Kd.C_below N97.out hb)
  clear N97
  have N97 := T
  clear T
  have T := Aside0.mk (Kd.C_below N103.out hb)
  clear N103
  have N103 := T
  clear T
  have T := Aside0.mk (HB.out.trans (hb.mono HB.out.size))
  clear HB
  have HB := T
  clear T
  clear hb
  go_wp2
  go_ret
  exact ⟨rfl, HB.out⟩

end Go.Proofs.YtphegiohkggddaaDoor.PF
