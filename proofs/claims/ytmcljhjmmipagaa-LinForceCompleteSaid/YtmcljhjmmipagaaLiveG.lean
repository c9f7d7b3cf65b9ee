/- live() of chalklinelaw12 answers true. -/
import Derived.Test.YtmcljhjmmipagaaAddG
import Derived.Test.YtmcljhjmmipagaaForceG
import Derived.Test.YtmcljhjmmipagaaPLx1
import Derived.Test.YtmcljhjmmipagaaPLx10
namespace Go.Proofs.Ytmcljhjmmipagaa.PL
open Go.RowKit Go.Proofs.YtmcljhjmmipagaaW.PrintWords Go.Proofs.YtmcljhjmmipagaaW.PrintLast Go.Proofs.YtmcljhjmmipagaaW.PrintMore
set_option linter.unusedVariables false
set_option linter.unusedSimpArgs false

theorem C_blk {W : World} {g : Nat} (xs : List Int) (h : W.heap[g]? = some (.cells (xs.map (Value.int .i64)).toArray 3 (0, 0))) (hl : xs.length ≤ 1000000 := by decide) : Kd.C (Kd.int .i64) W (some ⟨g, 0, none⟩) xs.length xs := by
 refine Kd.C_of_reads (h1 := fun _ => rfl) (d := 0) ⟨rfl, by omega, fun _ => ⟨_, rfl, fun j hj => ?_⟩⟩
 have := blk_cell h j
 rw [add_mk]
 refine this.trans ?_
 simp [hj]
theorem Cb_blk {W : World} {g : Nat} (xs : List Bool) (h : W.heap[g]? = some (.cells (xs.map Value.bool).toArray 4 (0, 0))) (hl : xs.length ≤ 1000000 := by decide) : Kd.C Kd.bool W (some ⟨g, 0, none⟩) xs.length xs := by
 refine Kd.C_of_reads (h1 := fun _ => rfl) (d := false) ⟨rfl, by omega, fun _ => ⟨_, rfl, fun j hj => ?_⟩⟩
 have := blk_cell h j
 rw [add_mk]
 refine this.trans ?_
 simp [hj]

set_option maxRecDepth 100000 in
set_option maxHeartbeats 8000000 in
theorem live_walk (w : World) : Calls Try.prog 12 #[] w fun e w' => e = .returned (.bool true) ∧ Below w.heap.size w w' := by
 have hu24 := Try.underlying24
 have hu22 := Try.underlying22
 have HB := Aside0.mk (Below.refl w.heap.size w)
 go_enter Try.func12, Try.ntmps12
 go_wp2_with fail
 have hb := Below.refl w.heap.size w
 have hb0 := (Below.refl (w).heap.size (w)).alloc (Nat.le_refl _) (.cells #[Value.int .i64 2, Value.int .i64 3, Value.int .i64 1] 3)
 have hb1 := (Below.refl ((w.alloc (.cells #[Value.int .i64 2, Value.int .i64 3, Value.int .i64 1] 3))).heap.size ((w.alloc (.cells #[Value.int .i64 2, Value.int .i64 3, Value.int .i64 1] 3)))).alloc (Nat.le_refl _) (.cells #[Value.int .i64 1, Value.int .i64 (-2), Value.int .i64 2] 3)
 have hc0 := hb.trans (hb0.mono (by first | (simp; done) | (simp; omega)))
 have hc1 := hc0.trans (hb1.mono (by first | (simp; done) | (simp; omega)))
 have T := Aside0.mk (HB.out.trans (hc1.mono HB.out.size))
 clear HB
 have HB := T
 clear T
 have nb := blk_new (w) (.cells #[Value.int .i64 2, Value.int .i64 3, Value.int .i64 1] 3)
 replace nb := blk_alloc nb (.cells #[Value.int .i64 1, Value.int .i64 (-2), Value.int .i64 2] 3)
 have Na := Aside0.mk (C_blk [2, 3, 1] nb)
 clear nb
 have nb := blk_new ((w.alloc (.cells #[Value.int .i64 2, Value.int .i64 3, Value.int .i64 1] 3))) (.cells #[Value.int .i64 1, Value.int .i64 (-2), Value.int .i64 2] 3)
 have Nb := Aside0.mk (C_blk [1, -2, 2] nb)
 clear nb
 clear hb hb0 hc0 hb1 hc1
 try simp only [World.size_alloc] at Na Nb ⊢
 generalize ((w.alloc (.cells #[Value.int .i64 2, Value.int .i64 3, Value.int .i64 1] 3)).alloc (.cells #[Value.int .i64 1, Value.int .i64 (-2), Value.int .i64 2] 3)) = w1 at Na Nb HB ⊢
 refine (lin_Norm.calls (some ⟨w.heap.size, 0, none⟩) 3 [2, 3, 1] (some ⟨w.heap.size + 1, 0, none⟩) 3 [1, -2, 2] 3 [2, 2] [1, -2] 2 w1 Na.out (by decide) Nb.out (by decide) (by kernel_rfl)).mono ?_
 rintro e w2 ⟨v0, v1, rfl, hx0, hx1, hb⟩
 have T := Aside0.mk (Kd.C_below Na.out hb)
 clear Na
 have Na := T
 clear T
 have T := Aside0.mk (Kd.C_below Nb.out hb)
 clear Nb
 have Nb := T
 clear T
 have T := Aside0.mk (HB.out.trans (hb.mono HB.out.size))
 clear HB
 have HB := T
 clear T
 clear hb
 obtain ⟨Ax, cx, rfl, hj, hC⟩ := Kd.R_reads hx0
 have Nx := Aside0.mk hC
 have LNx := hj
 clear hC hj hx0
 obtain ⟨Ay, cy, rfl, hj, hC⟩ := Kd.R_reads hx1
 have Ny := Aside0.mk hC
 have LNy := hj
 clear hC hj hx1
 go_wp2_with fail
 have hb := Below.refl w2.heap.size w2
 have hb0 := (Below.refl (w2).heap.size (w2)).alloc (Nat.le_refl _) (.cells #[Value.slice Ax 2 cx, Value.slice Ay 2 cy, Value.int .i64 2] 24)
 have hb1 := (Below.refl ((w2.alloc (.cells #[Value.slice Ax 2 cx, Value.slice Ay 2 cy, Value.int .i64 2] 24))).heap.size ((w2.alloc (.cells #[Value.slice Ax 2 cx, Value.slice Ay 2 cy, Value.int .i64 2] 24)))).alloc (Nat.le_refl _) (.cells #[Value.int .i64 3, Value.int .i64 2, Value.int .i64 2] 3)
 have hb2 := (Below.refl (((w2.alloc (.cells #[Value.slice Ax 2 cx, Value.slice Ay 2 cy, Value.int .i64 2] 24)).alloc (.cells #[Value.int .i64 3, Value.int .i64 2, Value.int .i64 2] 3))).heap.size (((w2.alloc (.cells #[Value.slice Ax 2 cx, Value.slice Ay 2 cy, Value.int .i64 2] 24)).alloc (.cells #[Value.int .i64 3, Value.int .i64 2, Value.int .i64 2] 3)))).alloc (Nat.le_refl _) (.cells #[Value.int .i64 1, Value.int .i64 2, Value.int .i64 3] 3)
 have hb3 := (Below.refl ((((w2.alloc (.cells #[Value.slice Ax 2 cx, Value.slice Ay 2 cy, Value.int .i64 2] 24)).alloc (.cells #[Value.int .i64 3, Value.int .i64 2, Value.int .i64 2] 3)).alloc (.cells #[Value.int .i64 1, Value.int .i64 2, Value.int .i64 3] 3))).heap.size ((((w2.alloc (.cells #[Value.slice Ax 2 cx, Value.slice Ay 2 cy, Value.int .i64 2] 24)).alloc (.cells #[Value.int .i64 3, Value.int .i64 2, Value.int .i64 2] 3)).alloc (.cells #[Value.int .i64 1, Value.int .i64 2, Value.int .i64 3] 3)))).alloc (Nat.le_refl _) (.cells #[Value.slice (some ⟨w2.heap.size + 1, 0, none⟩) 3 3, Value.slice (some ⟨w2.heap.size + 2, 0, none⟩) 3 3, Value.int .i64 5] 24)
 have hc0 := hb.trans (hb0.mono (by first | (simp; done) | (simp; omega)))
 have hc1 := hc0.trans (hb1.mono (by first | (simp; done) | (simp; omega)))
 have hc2 := hc1.trans (hb2.mono (by first | (simp; done) | (simp; omega)))
 have hc3 := hc2.trans (hb3.mono (by first | (simp; done) | (simp; omega)))
 have T := Aside0.mk (Kd.C_below Na.out hc3)
 clear Na
 have Na := T
 clear T
 have T := Aside0.mk (Kd.C_below Nb.out hc3)
 clear Nb
 have Nb := T
 clear T
 have T := Aside0.mk (Kd.C_below Nx.out hc3)
 clear Nx
 have Nx := T
 clear T
 have T := Aside0.mk (Kd.C_below Ny.out hc3)
 clear Ny
 have Ny := T
 clear T
 have T := Aside0.mk (HB.out.trans (hc3.mono HB.out.size))
 clear HB
 have HB := T
 clear T
 have nb := blk_new (w2) (.cells #[Value.slice Ax 2 cx, Value.slice Ay 2 cy, Value.int .i64 2] 24)
 replace nb := blk_alloc nb (.cells #[Value.int .i64 3, Value.int .i64 2, Value.int .i64 2] 3)
 replace nb := blk_alloc nb (.cells #[Value.int .i64 1, Value.int .i64 2, Value.int .i64 3] 3)
 replace nb := blk_alloc nb (.cells #[Value.slice (some ⟨w2.heap.size + 1, 0, none⟩) 3 3, Value.slice (some ⟨w2.heap.size + 2, 0, none⟩) 3 3, Value.int .i64 5] 24)
 have Bx := Aside0.mk nb
 clear nb
 have nb := blk_new ((w2.alloc (.cells #[Value.slice Ax 2 cx, Value.slice Ay 2 cy, Value.int .i64 2] 24))) (.cells #[Value.int .i64 3, Value.int .i64 2, Value.int .i64 2] 3)
 replace nb := blk_alloc nb (.cells #[Value.int .i64 1, Value.int .i64 2, Value.int .i64 3] 3)
 replace nb := blk_alloc nb (.cells #[Value.slice (some ⟨w2.heap.size + 1, 0, none⟩) 3 3, Value.slice (some ⟨w2.heap.size + 2, 0, none⟩) 3 3, Value.int .i64 5] 24)
 have Nc := Aside0.mk (C_blk [3, 2, 2] nb)
 clear nb
 have nb := blk_new (((w2.alloc (.cells #[Value.slice Ax 2 cx, Value.slice Ay 2 cy, Value.int .i64 2] 24)).alloc (.cells #[Value.int .i64 3, Value.int .i64 2, Value.int .i64 2] 3))) (.cells #[Value.int .i64 1, Value.int .i64 2, Value.int .i64 3] 3)
 replace nb := blk_alloc nb (.cells #[Value.slice (some ⟨w2.heap.size + 1, 0, none⟩) 3 3, Value.slice (some ⟨w2.heap.size + 2, 0, none⟩) 3 3, Value.int .i64 5] 24)
 have Nd := Aside0.mk (C_blk [1, 2, 3] nb)
 clear nb
 have nb := blk_new ((((w2.alloc (.cells #[Value.slice Ax 2 cx, Value.slice Ay 2 cy, Value.int .i64 2] 24)).alloc (.cells #[Value.int .i64 3, Value.int .i64 2, Value.int .i64 2] 3)).alloc (.cells #[Value.int .i64 1, Value.int .i64 2, Value.int .i64 3] 3))) (.cells #[Value.slice (some ⟨w2.heap.size + 1, 0, none⟩) 3 3, Value.slice (some ⟨w2.heap.size + 2, 0, none⟩) 3 3, Value.int .i64 5] 24)
 have Bl := Aside0.mk nb
 clear nb
 clear hb hb0 hc0 hb1 hc1 hb2 hc2 hb3 hc3
 try simp only [World.size_alloc] at Bx Nc Nd Bl ⊢
 generalize ((((w2.alloc (.cells #[Value.slice Ax 2 cx, Value.slice Ay 2 cy, Value.int .i64 2] 24)).alloc (.cells #[Value.int .i64 3, Value.int .i64 2, Value.int .i64 2] 3)).alloc (.cells #[Value.int .i64 1, Value.int .i64 2, Value.int .i64 3] 3)).alloc (.cells #[Value.slice (some ⟨w2.heap.size + 1, 0, none⟩) 3 3, Value.slice (some ⟨w2.heap.size + 2, 0, none⟩) 3 3, Value.int .i64 5] 24)) = w3 at Na Nb Nx Ny Bx Nc Nd Bl HB ⊢
 refine (lin_Force.calls (some ⟨w2.heap.size + 1, 0, none⟩) 3 [3, 2, 2] (some ⟨w2.heap.size + 2, 0, none⟩) 3 [1, 2, 3] 5 none 0 [] [1] true w3 Nc.out (by decide) Nd.out (by decide) (Kd.C_nil _ _) (by decide) (by kernel_rfl)).mono ?_
 rintro e w4 ⟨v0, rfl, hx0, hb⟩
 have T := Aside0.mk (Kd.C_below Na.out hb)
 clear Na
 have Na := T
 clear T
 have T := Aside0.mk (Kd.C_below Nb.out hb)
 clear Nb
 have Nb := T
 clear T
 have T := Aside0.mk (Kd.C_below Nx.out hb)
 clear Nx
 have Nx := T
 clear T
 have T := Aside0.mk (Kd.C_below Ny.out hb)
 clear Ny
 have Ny := T
 clear T
 have T := Aside0.mk ((hb.block _ (blk_lt Bx.out)).trans Bx.out)
 clear Bx
 have Bx := T
 clear T
 have T := Aside0.mk (Kd.C_below Nc.out hb)
 clear Nc
 have Nc := T
 clear T
 have T := Aside0.mk (Kd.C_below Nd.out hb)
 clear Nd
 have Nd := T
 clear T
 have T := Aside0.mk ((hb.block _ (blk_lt Bl.out)).trans Bl.out)
 clear Bl
 have Bl := T
 clear T
 have T := Aside0.mk (HB.out.trans (hb.mono HB.out.size))
 clear HB
 have HB := T
 clear T
 clear hb
 obtain ⟨Aa1, ca1, rfl, hj, hC⟩ := Kd.R_reads hx0
 have Na1 := Aside0.mk hC
 have LNa1 := hj
 clear hC hj hx0
 have qBl0 := (blk_cell Bl.out 0).trans rfl
 have qBl1 := (blk_cell Bl.out 1).trans rfl
 have qBl2 := (blk_cell Bl.out 2).trans rfl
 go_wp2_with fail
 clear qBl0 qBl1 qBl2
 have hb := Below.refl w4.heap.size w4
 have hb0 := (Below.refl (w4).heap.size (w4)).alloc (Nat.le_refl _) (.cells #[Value.int .i64 (-2)] 3)
 have hc0 := hb.trans (hb0.mono (by first | (simp; done) | (simp; omega)))
 have T := Aside0.mk (Kd.C_below Na.out hc0)
 clear Na
 have Na := T
 clear T
 have T := Aside0.mk (Kd.C_below Nb.out hc0)
 clear Nb
 have Nb := T
 clear T
 have T := Aside0.mk (Kd.C_below Nx.out hc0)
 clear Nx
 have Nx := T
 clear T
 have T := Aside0.mk (Kd.C_below Ny.out hc0)
 clear Ny
 have Ny := T
 clear T
 have T := Aside0.mk ((hc0.block _ (blk_lt Bx.out)).trans Bx.out)
 clear Bx
 have Bx := T
 clear T
 have T := Aside0.mk (Kd.C_below Nc.out hc0)
 clear Nc
 have Nc := T
 clear T
 have T := Aside0.mk (Kd.C_below Nd.out hc0)
 clear Nd
 have Nd := T
 clear T
 have T := Aside0.mk ((hc0.block _ (blk_lt Bl.out)).trans Bl.out)
 clear Bl
 have Bl := T
 clear T
 have T := Aside0.mk (Kd.C_below Na1.out hc0)
 clear Na1
 have Na1 := T
 clear T
 have T := Aside0.mk (HB.out.trans (hc0.mono HB.out.size))
 clear HB
 have HB := T
 clear T
 have nb := blk_new (w4) (.cells #[Value.int .i64 (-2)] 3)
 have Ne := Aside0.mk (C_blk [-2] nb)
 clear nb
 clear hb hb0 hc0
 try simp only [World.size_alloc] at Ne ⊢
 generalize (w4.alloc (.cells #[Value.int .i64 (-2)] 3)) = w5 at Na Nb Nx Ny Bx Nc Nd Bl Na1 Ne HB ⊢
 refine (lin_Force.calls (some ⟨w2.heap.size + 1, 0, none⟩) 3 [3, 2, 2] (some ⟨w2.heap.size + 2, 0, none⟩) 3 [1, 2, 3] 5 (some ⟨w4.heap.size, 0, none⟩) 1 [-2] [1, 3] true w5 Nc.out (by decide) Nd.out (by decide) Ne.out (by decide) (by kernel_rfl)).mono ?_
 rintro e w6 ⟨v0, rfl, hx0, hb⟩
 have T := Aside0.mk (Kd.C_below Na.out hb)
 clear Na
 have Na := T
 clear T
 have T := Aside0.mk (Kd.C_below Nb.out hb)
 clear Nb
 have Nb := T
 clear T
 have T := Aside0.mk (Kd.C_below Nx.out hb)
 clear Nx
 have Nx := T
 clear T
 have T := Aside0.mk (Kd.C_below Ny.out hb)
 clear Ny
 have Ny := T
 clear T
 have T := Aside0.mk ((hb.block _ (blk_lt Bx.out)).trans Bx.out)
 clear Bx
 have Bx := T
 clear T
 have T := Aside0.mk (Kd.C_below Nc.out hb)
 clear Nc
 have Nc := T
 clear T
 have T := Aside0.mk (Kd.C_below Nd.out hb)
 clear Nd
 have Nd := T
 clear T
 have T := Aside0.mk ((hb.block _ (blk_lt Bl.out)).trans Bl.out)
 clear Bl
 have Bl := T
 clear T
 have T := Aside0.mk (Kd.C_below Na1.out hb)
 clear Na1
 have Na1 := T
 clear T
 have T := Aside0.mk (Kd.C_below Ne.out hb)
 clear Ne
 have Ne := T
 clear T
 have T := Aside0.mk (HB.out.trans (hb.mono HB.out.size))
 clear HB
 have HB := T
 clear T
 clear hb
 obtain ⟨Aa2, ca2, rfl, hj, hC⟩ := Kd.R_reads hx0
 have Na2 := Aside0.mk hC
 have LNa2 := hj
 clear hC hj hx0
 have qBl0 := (blk_cell Bl.out 0).trans rfl
 have qBl1 := (blk_cell Bl.out 1).trans rfl
 have qBl2 := (blk_cell Bl.out 2).trans rfl
 go_wp2_with fail
 clear qBl0 qBl1 qBl2
 have hb := Below.refl w6.heap.size w6
 have hb0 := (Below.refl (w6).heap.size (w6)).alloc (Nat.le_refl _) (.cells #[Value.int .i64 (-1)] 3)
 have hc0 := hb.trans (hb0.mono (by first | (simp; done) | (simp; omega)))
 have T := Aside0.mk (Kd.C_below Na.out hc0)
 clear Na
 have Na := T
 clear T
 have T := Aside0.mk (Kd.C_below Nb.out hc0)
 clear Nb
 have Nb := T
 clear T
 have T := Aside0.mk (Kd.C_below Nx.out hc0)
 clear Nx
 have Nx := T
 clear T
 have T := Aside0.mk (Kd.C_below Ny.out hc0)
 clear Ny
 have Ny := T
 clear T
 have T := Aside0.mk ((hc0.block _ (blk_lt Bx.out)).trans Bx.out)
 clear Bx
 have Bx := T
 clear T
 have T := Aside0.mk (Kd.C_below Nc.out hc0)
 clear Nc
 have Nc := T
 clear T
 have T := Aside0.mk (Kd.C_below Nd.out hc0)
 clear Nd
 have Nd := T
 clear T
 have T := Aside0.mk ((hc0.block _ (blk_lt Bl.out)).trans Bl.out)
 clear Bl
 have Bl := T
 clear T
 have T := Aside0.mk (Kd.C_below Na1.out hc0)
 clear Na1
 have Na1 := T
 clear T
 have T := Aside0.mk (Kd.C_below Ne.out hc0)
 clear Ne
 have Ne := T
 clear T
 have T := Aside0.mk (Kd.C_below Na2.out hc0)
 clear Na2
 have Na2 := T
 clear T
 have T := Aside0.mk (HB.out.trans (hc0.mono HB.out.size))
 clear HB
 have HB := T
 clear T
 have nb := blk_new (w6) (.cells #[Value.int .i64 (-1)] 3)
 have Nf := Aside0.mk (C_blk [-1] nb)
 clear nb
 clear hb hb0 hc0
 try simp only [World.size_alloc] at Nf ⊢
 generalize (w6.alloc (.cells #[Value.int .i64 (-1)] 3)) = w7 at Na Nb Nx Ny Bx Nc Nd Bl Na1 Ne Na2 Nf HB ⊢
 refine (lin_Force.calls (some ⟨w2.heap.size + 1, 0, none⟩) 3 [3, 2, 2] (some ⟨w2.heap.size + 2, 0, none⟩) 3 [1, 2, 3] 5 (some ⟨w6.heap.size, 0, none⟩) 1 [-1] [] false w7 Nc.out (by decide) Nd.out (by decide) Nf.out (by decide) (by kernel_rfl)).mono ?_
 rintro e w8 ⟨v0, rfl, hx0, hb⟩
 have T := Aside0.mk (Kd.C_below Na.out hb)
 clear Na
 have Na := T
 clear T
 have T := Aside0.mk (Kd.C_below Nb.out hb)
 clear Nb
 have Nb := T
 clear T
 have T := Aside0.mk (Kd.C_below Nx.out hb)
 clear Nx
 have Nx := T
 clear T
 have T := Aside0.mk (Kd.C_below Ny.out hb)
 clear Ny
 have Ny := T
 clear T
 have T := Aside0.mk ((hb.block _ (blk_lt Bx.out)).trans Bx.out)
 clear Bx
 have Bx := T
 clear T
 have T := Aside0.mk (Kd.C_below Nc.out hb)
 clear Nc
 have Nc := T
 clear T
 have T := Aside0.mk (Kd.C_below Nd.out hb)
 clear Nd
 have Nd := T
 clear T
 have T := Aside0.mk ((hb.block _ (blk_lt Bl.out)).trans Bl.out)
 clear Bl
 have Bl := T
 clear T
 have T := Aside0.mk (Kd.C_below Na1.out hb)
 clear Na1
 have Na1 := T
 clear T
 have T := Aside0.mk (Kd.C_below Ne.out hb)
 clear Ne
 have Ne := T
 clear T
 have T := Aside0.mk (Kd.C_below Na2.out hb)
 clear Na2
 have Na2 := T
 clear T
 have T := Aside0.mk (Kd.C_below Nf.out hb)
 clear Nf
 have Nf := T
 clear T
 have T := Aside0.mk (HB.out.trans (hb.mono HB.out.size))
 clear HB
 have HB := T
 clear T
 clear hb
 obtain ⟨Aa3, ca3, rfl, hj, hC⟩ := Kd.R_reads hx0
 have Na3 := Aside0.mk hC
 have LNa3 := hj
 clear hC hj hx0
 have qBl0 := (blk_cell Bl.out 0).trans rfl
 have qBl1 := (blk_cell Bl.out 1).trans rfl
 have qBl2 := (blk_cell Bl.out 2).trans rfl
 go_wp2_with fail
 clear qBl0 qBl1 qBl2
 refine (lin_Cut.calls (some ⟨w2.heap.size + 1, 0, none⟩) 3 [3, 2, 2] (some ⟨w2.heap.size + 2, 0, none⟩) 3 [1, 2, 3] 5 2 [2, 1, 1] [1, 2, 3] 3 0 w8 Nc.out (by decide) Nd.out (by decide) (by kernel_rfl)).mono ?_
 rintro e w9 ⟨v0, v1, rfl, hx0, hx1, hb⟩
 have T := Aside0.mk (Kd.C_below Na.out hb)
 clear Na
 have Na := T
 clear T
 have T := Aside0.mk (Kd.C_below Nb.out hb)
 clear Nb
 have Nb := T
 clear T
 have T := Aside0.mk (Kd.C_below Nx.out hb)
 clear Nx
 have Nx := T
 clear T
 have T := Aside0.mk (Kd.C_below Ny.out hb)
 clear Ny
 have Ny := T
 clear T
 have T := Aside0.mk ((hb.block _ (blk_lt Bx.out)).trans Bx.out)
 clear Bx
 have Bx := T
 clear T
 have T := Aside0.mk (Kd.C_below Nc.out hb)
 clear Nc
 have Nc := T
 clear T
 have T := Aside0.mk (Kd.C_below Nd.out hb)
 clear Nd
 have Nd := T
 clear T
 have T := Aside0.mk ((hb.block _ (blk_lt Bl.out)).trans Bl.out)
 clear Bl
 have Bl := T
 clear T
 have T := Aside0.mk (Kd.C_below Na1.out hb)
 clear Na1
 have Na1 := T
 clear T
 have T := Aside0.mk (Kd.C_below Ne.out hb)
 clear Ne
 have Ne := T
 clear T
 have T := Aside0.mk (Kd.C_below Na2.out hb)
 clear Na2
 have Na2 := T
 clear T
 have T := Aside0.mk (Kd.C_below Nf.out hb)
 clear Nf
 have Nf := T
 clear T
 have T := Aside0.mk (Kd.C_below Na3.out hb)
 clear Na3
 have Na3 := T
 clear T
 have T := Aside0.mk (HB.out.trans (hb.mono HB.out.size))
 clear HB
 have HB := T
 clear T
 clear hb
 obtain ⟨Au, cu, rfl, hj, hC⟩ := Kd.R_reads hx0
 have Nu := Aside0.mk hC
 have LNu := hj
 clear hC hj hx0
 obtain ⟨Av, cv, rfl, hj, hC⟩ := Kd.R_reads hx1
 have Nv := Aside0.mk hC
 have LNv := hj
 clear hC hj hx1
 have qBl0 := (blk_cell (blk_alloc Bl.out (.cells #[Value.slice Au 3 cu, Value.slice Av 3 cv, Value.int .i64 3] 24)) 0).trans rfl
 have qBl1 := (blk_cell (blk_alloc Bl.out (.cells #[Value.slice Au 3 cu, Value.slice Av 3 cv, Value.int .i64 3] 24)) 1).trans rfl
 have qBl2 := (blk_cell (blk_alloc Bl.out (.cells #[Value.slice Au 3 cu, Value.slice Av 3 cv, Value.int .i64 3] 24)) 2).trans rfl
 go_wp2_with fail
 clear qBl0 qBl1 qBl2
 have hb := Below.refl w9.heap.size w9
 have hb0 := (Below.refl (w9).heap.size (w9)).alloc (Nat.le_refl _) (.cells #[Value.slice Au 3 cu, Value.slice Av 3 cv, Value.int .i64 3] 24)
 have hc0 := hb.trans (hb0.mono (by first | (simp; done) | (simp; omega)))
 have T := Aside0.mk (Kd.C_below Na.out hc0)
 clear Na
 have Na := T
 clear T
 have T := Aside0.mk (Kd.C_below Nb.out hc0)
 clear Nb
 have Nb := T
 clear T
 have T := Aside0.mk (Kd.C_below Nx.out hc0)
 clear Nx
 have Nx := T
 clear T
 have T := Aside0.mk (Kd.C_below Ny.out hc0)
 clear Ny
 have Ny := T
 clear T
 have T := Aside0.mk ((hc0.block _ (blk_lt Bx.out)).trans Bx.out)
 clear Bx
 have Bx := T
 clear T
 have T := Aside0.mk (Kd.C_below Nc.out hc0)
 clear Nc
 have Nc := T
 clear T
 have T := Aside0.mk (Kd.C_below Nd.out hc0)
 clear Nd
 have Nd := T
 clear T
 have T := Aside0.mk ((hc0.block _ (blk_lt Bl.out)).trans Bl.out)
 clear Bl
 have Bl := T
 clear T
 have T := Aside0.mk (Kd.C_below Na1.out hc0)
 clear Na1
 have Na1 := T
 clear T
 have T := Aside0.mk (Kd.C_below Ne.out hc0)
 clear Ne
 have Ne := T
 clear T
 have T := Aside0.mk (Kd.C_below Na2.out hc0)
 clear Na2
 have Na2 := T
 clear T
 have T := Aside0.mk (Kd.C_below Nf.out hc0)
 clear Nf
 have Nf := T
 clear T
 have T := Aside0.mk (Kd.C_below Na3.out hc0)
 clear Na3
 have Na3 := T
 clear T
 have T := Aside0.mk (Kd.C_below Nu.out hc0)
 clear Nu
 have Nu := T
 clear T
 have T := Aside0.mk (Kd.C_below Nv.out hc0)
 clear Nv
 have Nv := T
 clear T
 have T := Aside0.mk (HB.out.trans (hc0.mono HB.out.size))
 clear HB
 have HB := T
 clear T
 have nb := blk_new (w9) (.cells #[Value.slice Au 3 cu, Value.slice Av 3 cv, Value.int .i64 3] 24)
 have Bk := Aside0.mk nb
 clear nb
 clear hb hb0 hc0
 try simp only [World.size_alloc] at Bk ⊢
 generalize (w9.alloc (.cells #[Value.slice Au 3 cu, Value.slice Av 3 cv, Value.int .i64 3] 24)) = w10 at Na Nb Nx Ny Bx Nc Nd Bl Na1 Ne Na2 Nf Na3 Nu Nv Bk HB ⊢
 refine (lin_Add.calls (some ⟨w2.heap.size + 1, 0, none⟩) 3 [3, 2, 2] (some ⟨w2.heap.size + 2, 0, none⟩) 3 [1, 2, 3] 5 (some ⟨w2.heap.size + 1, 0, none⟩) 3 [3, 2, 2] (some ⟨w2.heap.size + 2, 0, none⟩) 3 [1, 2, 3] 5 [3, 2, 2, 3, 2, 2] [1, 2, 3, 1, 2, 3] 10 0 w10 Nc.out (by decide) Nd.out (by decide) Nc.out (by decide) Nd.out (by decide) (by kernel_rfl)).mono ?_
 rintro e w11 ⟨v0, v1, rfl, hx0, hx1, hb⟩
 have T := Aside0.mk (Kd.C_below Na.out hb)
 clear Na
 have Na := T
 clear T
 have T := Aside0.mk (Kd.C_below Nb.out hb)
 clear Nb
 have Nb := T
 clear T
 have T := Aside0.mk (Kd.C_below Nx.out hb)
 clear Nx
 have Nx := T
 clear T
 have T := Aside0.mk (Kd.C_below Ny.out hb)
 clear Ny
 have Ny := T
 clear T
 have T := Aside0.mk ((hb.block _ (blk_lt Bx.out)).trans Bx.out)
 clear Bx
 have Bx := T
 clear T
 have T := Aside0.mk (Kd.C_below Nc.out hb)
 clear Nc
 have Nc := T
 clear T
 have T := Aside0.mk (Kd.C_below Nd.out hb)
 clear Nd
 have Nd := T
 clear T
 have T := Aside0.mk ((hb.block _ (blk_lt Bl.out)).trans Bl.out)
 clear Bl
 have Bl := T
 clear T
 have T := Aside0.mk (Kd.C_below Na1.out hb)
 clear Na1
 have Na1 := T
 clear T
 have T := Aside0.mk (Kd.C_below Ne.out hb)
 clear Ne
 have Ne := T
 clear T
 have T := Aside0.mk (Kd.C_below Na2.out hb)
 clear Na2
 have Na2 := T
 clear T
 have T := Aside0.mk (Kd.C_below Nf.out hb)
 clear Nf
 have Nf := T
 clear T
 have T := Aside0.mk (Kd.C_below Na3.out hb)
 clear Na3
 have Na3 := T
 clear T
 have T := Aside0.mk (Kd.C_below Nu.out hb)
 clear Nu
 have Nu := T
 clear T
 have T := Aside0.mk (Kd.C_below Nv.out hb)
 clear Nv
 have Nv := T
 clear T
 have T := Aside0.mk ((hb.block _ (blk_lt Bk.out)).trans Bk.out)
 clear Bk
 have Bk := T
 clear T
 have T := Aside0.mk (HB.out.trans (hb.mono HB.out.size))
 clear HB
 have HB := T
 clear T
 clear hb
 obtain ⟨Ap, cp, rfl, hj, hC⟩ := Kd.R_reads hx0
 have Np := Aside0.mk hC
 have LNp := hj
 clear hC hj hx0
 obtain ⟨Aq, cq, rfl, hj, hC⟩ := Kd.R_reads hx1
 have Nq := Aside0.mk hC
 have LNq := hj
 clear hC hj hx1
 have qBx0 := (blk_cell (blk_alloc Bx.out (.cells #[Value.slice Ap 6 cp, Value.slice Aq 6 cq, Value.int .i64 10] 24)) 0).trans rfl
 have qBx1 := (blk_cell (blk_alloc Bx.out (.cells #[Value.slice Ap 6 cp, Value.slice Aq 6 cq, Value.int .i64 10] 24)) 1).trans rfl
 have qBx2 := (blk_cell (blk_alloc Bx.out (.cells #[Value.slice Ap 6 cp, Value.slice Aq 6 cq, Value.int .i64 10] 24)) 2).trans rfl
 go_wp2_with fail
 clear qBx0 qBx1 qBx2
 have hb := Below.refl w11.heap.size w11
 have hb0 := (Below.refl (w11).heap.size (w11)).alloc (Nat.le_refl _) (.cells #[Value.slice Ap 6 cp, Value.slice Aq 6 cq, Value.int .i64 10] 24)
 have hb1 := (Below.refl ((w11.alloc (.cells #[Value.slice Ap 6 cp, Value.slice Aq 6 cq, Value.int .i64 10] 24))).heap.size ((w11.alloc (.cells #[Value.slice Ap 6 cp, Value.slice Aq 6 cq, Value.int .i64 10] 24)))).alloc (Nat.le_refl _) (.cells #[Value.int .i64 2, Value.int .i64 2] 3)
 have hb2 := (Below.refl (((w11.alloc (.cells #[Value.slice Ap 6 cp, Value.slice Aq 6 cq, Value.int .i64 10] 24)).alloc (.cells #[Value.int .i64 2, Value.int .i64 2] 3))).heap.size (((w11.alloc (.cells #[Value.slice Ap 6 cp, Value.slice Aq 6 cq, Value.int .i64 10] 24)).alloc (.cells #[Value.int .i64 2, Value.int .i64 2] 3)))).alloc (Nat.le_refl _) (.cells #[Value.int .i64 1, Value.int .i64 (-2)] 3)
 have hc0 := hb.trans (hb0.mono (by first | (simp; done) | (simp; omega)))
 have hc1 := hc0.trans (hb1.mono (by first | (simp; done) | (simp; omega)))
 have hc2 := hc1.trans (hb2.mono (by first | (simp; done) | (simp; omega)))
 have T := Aside0.mk (Kd.C_below Na.out hc2)
 clear Na
 have Na := T
 clear T
 have T := Aside0.mk (Kd.C_below Nb.out hc2)
 clear Nb
 have Nb := T
 clear T
 have T := Aside0.mk (Kd.C_below Nx.out hc2)
 clear Nx
 have Nx := T
 clear T
 have T := Aside0.mk (Kd.C_below Ny.out hc2)
 clear Ny
 have Ny := T
 clear T
 have T := Aside0.mk ((hc2.block _ (blk_lt Bx.out)).trans Bx.out)
 clear Bx
 have Bx := T
 clear T
 have T := Aside0.mk (Kd.C_below Nc.out hc2)
 clear Nc
 have Nc := T
 clear T
 have T := Aside0.mk (Kd.C_below Nd.out hc2)
 clear Nd
 have Nd := T
 clear T
 have T := Aside0.mk ((hc2.block _ (blk_lt Bl.out)).trans Bl.out)
 clear Bl
 have Bl := T
 clear T
 have T := Aside0.mk (Kd.C_below Na1.out hc2)
 clear Na1
 have Na1 := T
 clear T
 have T := Aside0.mk (Kd.C_below Ne.out hc2)
 clear Ne
 have Ne := T
 clear T
 have T := Aside0.mk (Kd.C_below Na2.out hc2)
 clear Na2
 have Na2 := T
 clear T
 have T := Aside0.mk (Kd.C_below Nf.out hc2)
 clear Nf
 have Nf := T
 clear T
 have T := Aside0.mk (Kd.C_below Na3.out hc2)
 clear Na3
 have Na3 := T
 clear T
 have T := Aside0.mk (Kd.C_below Nu.out hc2)
 clear Nu
 have Nu := T
 clear T
 have T := Aside0.mk (Kd.C_below Nv.out hc2)
 clear Nv
 have Nv := T
 clear T
 have T := Aside0.mk ((hc2.block _ (blk_lt Bk.out)).trans Bk.out)
 clear Bk
 have Bk := T
 clear T
 have T := Aside0.mk (Kd.C_below Np.out hc2)
 clear Np
 have Np := T
 clear T
 have T := Aside0.mk (Kd.C_below Nq.out hc2)
 clear Nq
 have Nq := T
 clear T
 have T := Aside0.mk (HB.out.trans (hc2.mono HB.out.size))
 clear HB
 have HB := T
 clear T
 have nb := blk_new (w11) (.cells #[Value.slice Ap 6 cp, Value.slice Aq 6 cq, Value.int .i64 10] 24)
 replace nb := blk_alloc nb (.cells #[Value.int .i64 2, Value.int .i64 2] 3)
 replace nb := blk_alloc nb (.cells #[Value.int .i64 1, Value.int .i64 (-2)] 3)
 have Bs := Aside0.mk nb
 clear nb
 have nb := blk_new ((w11.alloc (.cells #[Value.slice Ap 6 cp, Value.slice Aq 6 cq, Value.int .i64 10] 24))) (.cells #[Value.int .i64 2, Value.int .i64 2] 3)
 replace nb := blk_alloc nb (.cells #[Value.int .i64 1, Value.int .i64 (-2)] 3)
 have Ng := Aside0.mk (C_blk [2, 2] nb)
 clear nb
 have nb := blk_new (((w11.alloc (.cells #[Value.slice Ap 6 cp, Value.slice Aq 6 cq, Value.int .i64 10] 24)).alloc (.cells #[Value.int .i64 2, Value.int .i64 2] 3))) (.cells #[Value.int .i64 1, Value.int .i64 (-2)] 3)
 have Nh := Aside0.mk (C_blk [1, -2] nb)
 clear nb
 clear hb hb0 hc0 hb1 hc1 hb2 hc2
 try simp only [World.size_alloc] at Bs Ng Nh ⊢
 generalize (((w11.alloc (.cells #[Value.slice Ap 6 cp, Value.slice Aq 6 cq, Value.int .i64 10] 24)).alloc (.cells #[Value.int .i64 2, Value.int .i64 2] 3)).alloc (.cells #[Value.int .i64 1, Value.int .i64 (-2)] 3)) = w12 at Na Nb Nx Ny Bx Nc Nd Bl Na1 Ne Na2 Nf Na3 Nu Nv Bk Np Nq Bs Ng Nh HB ⊢
 refine (lin_Same.calls 10 Ax cx [2, 2] Ay cy [1, -2] 2 (some ⟨w11.heap.size + 1, 0, none⟩) 2 [2, 2] (some ⟨w11.heap.size + 2, 0, none⟩) 2 [1, -2] 2 true w12 Nx.out LNx Ny.out LNy Ng.out (by decide) Nh.out (by decide) (by kernel_rfl)).mono ?_
 rintro e w13 ⟨rfl, hb⟩
 have T := Aside0.mk (Kd.C_below Na.out hb)
 clear Na
 have Na := T
 clear T
 have T := Aside0.mk (Kd.C_below Nb.out hb)
 clear Nb
 have Nb := T
 clear T
 have T := Aside0.mk (Kd.C_below Nx.out hb)
 clear Nx
 have Nx := T
 clear T
 have T := Aside0.mk (Kd.C_below Ny.out hb)
 clear Ny
 have Ny := T
 clear T
 have T := Aside0.mk ((hb.block _ (blk_lt Bx.out)).trans Bx.out)
 clear Bx
 have Bx := T
 clear T
 have T := Aside0.mk (Kd.C_below Nc.out hb)
 clear Nc
 have Nc := T
 clear T
 have T := Aside0.mk (Kd.C_below Nd.out hb)
 clear Nd
 have Nd := T
 clear T
 have T := Aside0.mk ((hb.block _ (blk_lt Bl.out)).trans Bl.out)
 clear Bl
 have Bl := T
 clear T
 have T := Aside0.mk (Kd.C_below Na1.out hb)
 clear Na1
 have Na1 := T
 clear T
 have T := Aside0.mk (Kd.C_below Ne.out hb)
 clear Ne
 have Ne := T
 clear T
 have T := Aside0.mk (Kd.C_below Na2.out hb)
 clear Na2
 have Na2 := T
 clear T
 have T := Aside0.mk (Kd.C_below Nf.out hb)
 clear Nf
 have Nf := T
 clear T
 have T := Aside0.mk (Kd.C_below Na3.out hb)
 clear Na3
 have Na3 := T
 clear T
 have T := Aside0.mk (Kd.C_below Nu.out hb)
 clear Nu
 have Nu := T
 clear T
 have T := Aside0.mk (Kd.C_below Nv.out hb)
 clear Nv
 have Nv := T
 clear T
 have T := Aside0.mk ((hb.block _ (blk_lt Bk.out)).trans Bk.out)
 clear Bk
 have Bk := T
 clear T
 have T := Aside0.mk (Kd.C_below Np.out hb)
 clear Np
 have Np := T
 clear T
 have T := Aside0.mk (Kd.C_below Nq.out hb)
 clear Nq
 have Nq := T
 clear T
 have T := Aside0.mk ((hb.block _ (blk_lt Bs.out)).trans Bs.out)
 clear Bs
 have Bs := T
 clear T
 have T := Aside0.mk (Kd.C_below Ng.out hb)
 clear Ng
 have Ng := T
 clear T
 have T := Aside0.mk (Kd.C_below Nh.out hb)
 clear Nh
 have Nh := T
 clear T
 have T := Aside0.mk (HB.out.trans (hb.mono HB.out.size))
 clear HB
 have HB := T
 clear T
 clear hb
 have qBk0 := (blk_cell Bk.out 0).trans rfl
 have qBk1 := (blk_cell Bk.out 1).trans rfl
 have qBk2 := (blk_cell Bk.out 2).trans rfl
 go_wp2_with fail
 clear qBk0 qBk1 qBk2
 have hb := Below.refl w13.heap.size w13
 have hb0 := (Below.refl (w13).heap.size (w13)).alloc (Nat.le_refl _) (.cells #[Value.int .i64 2, Value.int .i64 1, Value.int .i64 1] 3)
 have hb1 := (Below.refl ((w13.alloc (.cells #[Value.int .i64 2, Value.int .i64 1, Value.int .i64 1] 3))).heap.size ((w13.alloc (.cells #[Value.int .i64 2, Value.int .i64 1, Value.int .i64 1] 3)))).alloc (Nat.le_refl _) (.cells #[Value.int .i64 1, Value.int .i64 2, Value.int .i64 3] 3)
 have hc0 := hb.trans (hb0.mono (by first | (simp; done) | (simp; omega)))
 have hc1 := hc0.trans (hb1.mono (by first | (simp; done) | (simp; omega)))
 have T := Aside0.mk (Kd.C_below Na.out hc1)
 clear Na
 have Na := T
 clear T
 have T := Aside0.mk (Kd.C_below Nb.out hc1)
 clear Nb
 have Nb := T
 clear T
 have T := Aside0.mk (Kd.C_below Nx.out hc1)
 clear Nx
 have Nx := T
 clear T
 have T := Aside0.mk (Kd.C_below Ny.out hc1)
 clear Ny
 have Ny := T
 clear T
 have T := Aside0.mk ((hc1.block _ (blk_lt Bx.out)).trans Bx.out)
 clear Bx
 have Bx := T
 clear T
 have T := Aside0.mk (Kd.C_below Nc.out hc1)
 clear Nc
 have Nc := T
 clear T
 have T := Aside0.mk (Kd.C_below Nd.out hc1)
 clear Nd
 have Nd := T
 clear T
 have T := Aside0.mk ((hc1.block _ (blk_lt Bl.out)).trans Bl.out)
 clear Bl
 have Bl := T
 clear T
 have T := Aside0.mk (Kd.C_below Na1.out hc1)
 clear Na1
 have Na1 := T
 clear T
 have T := Aside0.mk (Kd.C_below Ne.out hc1)
 clear Ne
 have Ne := T
 clear T
 have T := Aside0.mk (Kd.C_below Na2.out hc1)
 clear Na2
 have Na2 := T
 clear T
 have T := Aside0.mk (Kd.C_below Nf.out hc1)
 clear Nf
 have Nf := T
 clear T
 have T := Aside0.mk (Kd.C_below Na3.out hc1)
 clear Na3
 have Na3 := T
 clear T
 have T := Aside0.mk (Kd.C_below Nu.out hc1)
 clear Nu
 have Nu := T
 clear T
 have T := Aside0.mk (Kd.C_below Nv.out hc1)
 clear Nv
 have Nv := T
 clear T
 have T := Aside0.mk ((hc1.block _ (blk_lt Bk.out)).trans Bk.out)
 clear Bk
 have Bk := T
 clear T
 have T := Aside0.mk (Kd.C_below Np.out hc1)
 clear Np
 have Np := T
 clear T
 have T := Aside0.mk (Kd.C_below Nq.out hc1)
 clear Nq
 have Nq := T
 clear T
 have T := Aside0.mk ((hc1.block _ (blk_lt Bs.out)).trans Bs.out)
 clear Bs
 have Bs := T
 clear T
 have T := Aside0.mk (Kd.C_below Ng.out hc1)
 clear Ng
 have Ng := T
 clear T
 have T := Aside0.mk (Kd.C_below Nh.out hc1)
 clear Nh
 have Nh := T
 clear T
 have T := Aside0.mk (HB.out.trans (hc1.mono HB.out.size))
 clear HB
 have HB := T
 clear T
 have nb := blk_new (w13) (.cells #[Value.int .i64 2, Value.int .i64 1, Value.int .i64 1] 3)
 replace nb := blk_alloc nb (.cells #[Value.int .i64 1, Value.int .i64 2, Value.int .i64 3] 3)
 have Ni := Aside0.mk (C_blk [2, 1, 1] nb)
 clear nb
 have nb := blk_new ((w13.alloc (.cells #[Value.int .i64 2, Value.int .i64 1, Value.int .i64 1] 3))) (.cells #[Value.int .i64 1, Value.int .i64 2, Value.int .i64 3] 3)
 have Nj := Aside0.mk (C_blk [1, 2, 3] nb)
 clear nb
 clear hb hb0 hc0 hb1 hc1
 try simp only [World.size_alloc] at Ni Nj ⊢
 generalize ((w13.alloc (.cells #[Value.int .i64 2, Value.int .i64 1, Value.int .i64 1] 3)).alloc (.cells #[Value.int .i64 1, Value.int .i64 2, Value.int .i64 3] 3)) = w14 at Na Nb Nx Ny Bx Nc Nd Bl Na1 Ne Na2 Nf Na3 Nu Nv Bk Np Nq Bs Ng Nh Ni Nj HB ⊢
 refine (lin_Same.calls 10 Au cu [2, 1, 1] Av cv [1, 2, 3] 3 (some ⟨w13.heap.size, 0, none⟩) 3 [2, 1, 1] (some ⟨w13.heap.size + 1, 0, none⟩) 3 [1, 2, 3] 3 true w14 Nu.out LNu Nv.out LNv Ni.out (by decide) Nj.out (by decide) (by kernel_rfl)).mono ?_
 rintro e w15 ⟨rfl, hb⟩
 have T := Aside0.mk (Kd.C_below Na.out hb)
 clear Na
 have Na := T
 clear T
 have T := Aside0.mk (Kd.C_below Nb.out hb)
 clear Nb
 have Nb := T
 clear T
 have T := Aside0.mk (Kd.C_below Nx.out hb)
 clear Nx
 have Nx := T
 clear T
 have T := Aside0.mk (Kd.C_below Ny.out hb)
 clear Ny
 have Ny := T
 clear T
 have T := Aside0.mk ((hb.block _ (blk_lt Bx.out)).trans Bx.out)
 clear Bx
 have Bx := T
 clear T
 have T := Aside0.mk (Kd.C_below Nc.out hb)
 clear Nc
 have Nc := T
 clear T
 have T := Aside0.mk (Kd.C_below Nd.out hb)
 clear Nd
 have Nd := T
 clear T
 have T := Aside0.mk ((hb.block _ (blk_lt Bl.out)).trans Bl.out)
 clear Bl
 have Bl := T
 clear T
 have T := Aside0.mk (Kd.C_below Na1.out hb)
 clear Na1
 have Na1 := T
 clear T
 have T := Aside0.mk (Kd.C_below Ne.out hb)
 clear Ne
 have Ne := T
 clear T
 have T := Aside0.mk (Kd.C_below Na2.out hb)
 clear Na2
 have Na2 := T
 clear T
 have T := Aside0.mk (Kd.C_below Nf.out hb)
 clear Nf
 have Nf := T
 clear T
 have T := Aside0.mk (Kd.C_below Na3.out hb)
 clear Na3
 have Na3 := T
 clear T
 have T := Aside0.mk (Kd.C_below Nu.out hb)
 clear Nu
 have Nu := T
 clear T
 have T := Aside0.mk (Kd.C_below Nv.out hb)
 clear Nv
 have Nv := T
 clear T
 have T := Aside0.mk ((hb.block _ (blk_lt Bk.out)).trans Bk.out)
 clear Bk
 have Bk := T
 clear T
 have T := Aside0.mk (Kd.C_below Np.out hb)
 clear Np
 have Np := T
 clear T
 have T := Aside0.mk (Kd.C_below Nq.out hb)
 clear Nq
 have Nq := T
 clear T
 have T := Aside0.mk ((hb.block _ (blk_lt Bs.out)).trans Bs.out)
 clear Bs
 have Bs := T
 clear T
 have T := Aside0.mk (Kd.C_below Ng.out hb)
 clear Ng
 have Ng := T
 clear T
 have T := Aside0.mk (Kd.C_below Nh.out hb)
 clear Nh
 have Nh := T
 clear T
 have T := Aside0.mk (Kd.C_below Ni.out hb)
 clear Ni
 have Ni := T
 clear T
 have T := Aside0.mk (Kd.C_below Nj.out hb)
 clear Nj
 have Nj := T
 clear T
 have T := Aside0.mk (HB.out.trans (hb.mono HB.out.size))
 clear HB
 have HB := T
 clear T
 clear hb
 go_wp2_with fail
 have hb := Below.refl w15.heap.size w15
 have hb0 := (Below.refl (w15).heap.size (w15)).alloc (Nat.le_refl _) (.cells #[Value.int .i64 1] 3)
 have hc0 := hb.trans (hb0.mono (by first | (simp; done) | (simp; omega)))
 have T := Aside0.mk (Kd.C_below Na.out hc0)
 clear Na
 have Na := T
 clear T
 have T := Aside0.mk (Kd.C_below Nb.out hc0)
 clear Nb
 have Nb := T
 clear T
 have T := Aside0.mk (Kd.C_below Nx.out hc0)
 clear Nx
 have Nx := T
 clear T
 have T := Aside0.mk (Kd.C_below Ny.out hc0)
 clear Ny
 have Ny := T
 clear T
 have T := Aside0.mk ((hc0.block _ (blk_lt Bx.out)).trans Bx.out)
 clear Bx
 have Bx := T
 clear T
 have T := Aside0.mk (Kd.C_below Nc.out hc0)
 clear Nc
 have Nc := T
 clear T
 have T := Aside0.mk (Kd.C_below Nd.out hc0)
 clear Nd
 have Nd := T
 clear T
 have T := Aside0.mk ((hc0.block _ (blk_lt Bl.out)).trans Bl.out)
 clear Bl
 have Bl := T
 clear T
 have T := Aside0.mk (Kd.C_below Na1.out hc0)
 clear Na1
 have Na1 := T
 clear T
 have T := Aside0.mk (Kd.C_below Ne.out hc0)
 clear Ne
 have Ne := T
 clear T
 have T := Aside0.mk (Kd.C_below Na2.out hc0)
 clear Na2
 have Na2 := T
 clear T
 have T := Aside0.mk (Kd.C_below Nf.out hc0)
 clear Nf
 have Nf := T
 clear T
 have T := Aside0.mk (Kd.C_below Na3.out hc0)
 clear Na3
 have Na3 := T
 clear T
 have T := Aside0.mk (Kd.C_below Nu.out hc0)
 clear Nu
 have Nu := T
 clear T
 have T := Aside0.mk (Kd.C_below Nv.out hc0)
 clear Nv
 have Nv := T
 clear T
 have T := Aside0.mk ((hc0.block _ (blk_lt Bk.out)).trans Bk.out)
 clear Bk
 have Bk := T
 clear T
 have T := Aside0.mk (Kd.C_below Np.out hc0)
 clear Np
 have Np := T
 clear T
 have T := Aside0.mk (Kd.C_below Nq.out hc0)
 clear Nq
 have Nq := T
 clear T
 have T := Aside0.mk ((hc0.block _ (blk_lt Bs.out)).trans Bs.out)
 clear Bs
 have Bs := T
 clear T
 have T := Aside0.mk (Kd.C_below Ng.out hc0)
 clear Ng
 have Ng := T
 clear T
 have T := Aside0.mk (Kd.C_below Nh.out hc0)
 clear Nh
 have Nh := T
 clear T
 have T := Aside0.mk (Kd.C_below Ni.out hc0)
 clear Ni
 have Ni := T
 clear T
 have T := Aside0.mk (Kd.C_below Nj.out hc0)
 clear Nj
 have Nj := T
 clear T
 have T := Aside0.mk (HB.out.trans (hc0.mono HB.out.size))
 clear HB
 have HB := T
 clear T
 have nb := blk_new (w15) (.cells #[Value.int .i64 1] 3)
 have Nk := Aside0.mk (C_blk [1] nb)
 clear nb
 clear hb hb0 hc0
 try simp only [World.size_alloc] at Nk ⊢
 generalize (w15.alloc (.cells #[Value.int .i64 1] 3)) = w16 at Na Nb Nx Ny Bx Nc Nd Bl Na1 Ne Na2 Nf Na3 Nu Nv Bk Np Nq Bs Ng Nh Ni Nj Nk HB ⊢
 refine (chalklineref12_Ints.calls 10 Aa1 ca1 [1] (some ⟨w15.heap.size, 0, none⟩) 1 [1] true w16 Na1.out LNa1 Nk.out (by decide) (by kernel_rfl)).mono ?_
 rintro e w17 ⟨rfl, hd⟩; have hb := hd.below; clear hd
 have T := Aside0.mk (Kd.C_below Na.out hb)
 clear Na
 have Na := T
 clear T
 have T := Aside0.mk (Kd.C_below Nb.out hb)
 clear Nb
 have Nb := T
 clear T
 have T := Aside0.mk (Kd.C_below Nx.out hb)
 clear Nx
 have Nx := T
 clear T
 have T := Aside0.mk (Kd.C_below Ny.out hb)
 clear Ny
 have Ny := T
 clear T
 have T := Aside0.mk ((hb.block _ (blk_lt Bx.out)).trans Bx.out)
 clear Bx
 have Bx := T
 clear T
 have T := Aside0.mk (Kd.C_below Nc.out hb)
 clear Nc
 have Nc := T
 clear T
 have T := Aside0.mk (Kd.C_below Nd.out hb)
 clear Nd
 have Nd := T
 clear T
 have T := Aside0.mk ((hb.block _ (blk_lt Bl.out)).trans Bl.out)
 clear Bl
 have Bl := T
 clear T
 have T := Aside0.mk (Kd.C_below Na1.out hb)
 clear Na1
 have Na1 := T
 clear T
 have T := Aside0.mk (Kd.C_below Ne.out hb)
 clear Ne
 have Ne := T
 clear T
 have T := Aside0.mk (Kd.C_below Na2.out hb)
 clear Na2
 have Na2 := T
 clear T
 have T := Aside0.mk (Kd.C_below Nf.out hb)
 clear Nf
 have Nf := T
 clear T
 have T := Aside0.mk (Kd.C_below Na3.out hb)
 clear Na3
 have Na3 := T
 clear T
 have T := Aside0.mk (Kd.C_below Nu.out hb)
 clear Nu
 have Nu := T
 clear T
 have T := Aside0.mk (Kd.C_below Nv.out hb)
 clear Nv
 have Nv := T
 clear T
 have T := Aside0.mk ((hb.block _ (blk_lt Bk.out)).trans Bk.out)
 clear Bk
 have Bk := T
 clear T
 have T := Aside0.mk (Kd.C_below Np.out hb)
 clear Np
 have Np := T
 clear T
 have T := Aside0.mk (Kd.C_below Nq.out hb)
 clear Nq
 have Nq := T
 clear T
 have T := Aside0.mk ((hb.block _ (blk_lt Bs.out)).trans Bs.out)
 clear Bs
 have Bs := T
 clear T
 have T := Aside0.mk (Kd.C_below Ng.out hb)
 clear Ng
 have Ng := T
 clear T
 have T := Aside0.mk (Kd.C_below Nh.out hb)
 clear Nh
 have Nh := T
 clear T
 have T := Aside0.mk (Kd.C_below Ni.out hb)
 clear Ni
 have Ni := T
 clear T
 have T := Aside0.mk (Kd.C_below Nj.out hb)
 clear Nj
 have Nj := T
 clear T
 have T := Aside0.mk (Kd.C_below Nk.out hb)
 clear Nk
 have Nk := T
 clear T
 have T := Aside0.mk (HB.out.trans (hb.mono HB.out.size))
 clear HB
 have HB := T
 clear T
 clear hb
 go_wp2_with fail
 have hb := Below.refl w17.heap.size w17
 have hb0 := (Below.refl (w17).heap.size (w17)).alloc (Nat.le_refl _) (.cells #[Value.int .i64 1, Value.int .i64 3] 3)
 have hc0 := hb.trans (hb0.mono (by first | (simp; done) | (simp; omega)))
 have T := Aside0.mk (Kd.C_below Na.out hc0)
 clear Na
 have Na := T
 clear T
 have T := Aside0.mk (Kd.C_below Nb.out hc0)
 clear Nb
 have Nb := T
 clear T
 have T := Aside0.mk (Kd.C_below Nx.out hc0)
 clear Nx
 have Nx := T
 clear T
 have T := Aside0.mk (Kd.C_below Ny.out hc0)
 clear Ny
 have Ny := T
 clear T
 have T := Aside0.mk ((hc0.block _ (blk_lt Bx.out)).trans Bx.out)
 clear Bx
 have Bx := T
 clear T
 have T := Aside0.mk (Kd.C_below Nc.out hc0)
 clear Nc
 have Nc := T
 clear T
 have T := Aside0.mk (Kd.C_below Nd.out hc0)
 clear Nd
 have Nd := T
 clear T
 have T := Aside0.mk ((hc0.block _ (blk_lt Bl.out)).trans Bl.out)
 clear Bl
 have Bl := T
 clear T
 have T := Aside0.mk (Kd.C_below Na1.out hc0)
 clear Na1
 have Na1 := T
 clear T
 have T := Aside0.mk (Kd.C_below Ne.out hc0)
 clear Ne
 have Ne := T
 clear T
 have T := Aside0.mk (Kd.C_below Na2.out hc0)
 clear Na2
 have Na2 := T
 clear T
 have T := Aside0.mk (Kd.C_below Nf.out hc0)
 clear Nf
 have Nf := T
 clear T
 have T := Aside0.mk (Kd.C_below Na3.out hc0)
 clear Na3
 have Na3 := T
 clear T
 have T := Aside0.mk (Kd.C_below Nu.out hc0)
 clear Nu
 have Nu := T
 clear T
 have T := Aside0.mk (Kd.C_below Nv.out hc0)
 clear Nv
 have Nv := T
 clear T
 have T := Aside0.mk ((hc0.block _ (blk_lt Bk.out)).trans Bk.out)
 clear Bk
 have Bk := T
 clear T
 have T := Aside0.mk (Kd.C_below Np.out hc0)
 clear Np
 have Np := T
 clear T
 have T := Aside0.mk (Kd.C_below Nq.out hc0)
 clear Nq
 have Nq := T
 clear T
 have T := Aside0.mk ((hc0.block _ (blk_lt Bs.out)).trans Bs.out)
 clear Bs
 have Bs := T
 clear T
 have T := Aside0.mk (Kd.C_below Ng.out hc0)
 clear Ng
 have Ng := T
 clear T
 have T := Aside0.mk (Kd.C_below Nh.out hc0)
 clear Nh
 have Nh := T
 clear T
 have T := Aside0.mk (Kd.C_below Ni.out hc0)
 clear Ni
 have Ni := T
 clear T
 have T := Aside0.mk (Kd.C_below Nj.out hc0)
 clear Nj
 have Nj := T
 clear T
 have T := Aside0.mk (Kd.C_below Nk.out hc0)
 clear Nk
 have Nk := T
 clear T
 have T := Aside0.mk (HB.out.trans (hc0.mono HB.out.size))
 clear HB
 have HB := T
 clear T
 have nb := blk_new (w17) (.cells #[Value.int .i64 1, Value.int .i64 3] 3)
 have Nl := Aside0.mk (C_blk [1, 3] nb)
 clear nb
 clear hb hb0 hc0
 try simp only [World.size_alloc] at Nl ⊢
 generalize (w17.alloc (.cells #[Value.int .i64 1, Value.int .i64 3] 3)) = w18 at Na Nb Nx Ny Bx Nc Nd Bl Na1 Ne Na2 Nf Na3 Nu Nv Bk Np Nq Bs Ng Nh Ni Nj Nk Nl HB ⊢
 refine (chalklineref12_Ints.calls 10 Aa2 ca2 [1, 3] (some ⟨w17.heap.size, 0, none⟩) 2 [1, 3] true w18 Na2.out LNa2 Nl.out (by decide) (by kernel_rfl)).mono ?_
 rintro e w19 ⟨rfl, hd⟩; have hb := hd.below; clear hd
 have T := Aside0.mk (Kd.C_below Na.out hb)
 clear Na
 have Na := T
 clear T
 have T := Aside0.mk (Kd.C_below Nb.out hb)
 clear Nb
 have Nb := T
 clear T
 have T := Aside0.mk (Kd.C_below Nx.out hb)
 clear Nx
 have Nx := T
 clear T
 have T := Aside0.mk (Kd.C_below Ny.out hb)
 clear Ny
 have Ny := T
 clear T
 have T := Aside0.mk ((hb.block _ (blk_lt Bx.out)).trans Bx.out)
 clear Bx
 have Bx := T
 clear T
 have T := Aside0.mk (Kd.C_below Nc.out hb)
 clear Nc
 have Nc := T
 clear T
 have T := Aside0.mk (Kd.C_below Nd.out hb)
 clear Nd
 have Nd := T
 clear T
 have T := Aside0.mk ((hb.block _ (blk_lt Bl.out)).trans Bl.out)
 clear Bl
 have Bl := T
 clear T
 have T := Aside0.mk (Kd.C_below Na1.out hb)
 clear Na1
 have Na1 := T
 clear T
 have T := Aside0.mk (Kd.C_below Ne.out hb)
 clear Ne
 have Ne := T
 clear T
 have T := Aside0.mk (Kd.C_below Na2.out hb)
 clear Na2
 have Na2 := T
 clear T
 have T := Aside0.mk (Kd.C_below Nf.out hb)
 clear Nf
 have Nf := T
 clear T
 have T := Aside0.mk (Kd.C_below Na3.out hb)
 clear Na3
 have Na3 := T
 clear T
 have T := Aside0.mk (Kd.C_below Nu.out hb)
 clear Nu
 have Nu := T
 clear T
 have T := Aside0.mk (Kd.C_below Nv.out hb)
 clear Nv
 have Nv := T
 clear T
 have T := Aside0.mk ((hb.block _ (blk_lt Bk.out)).trans Bk.out)
 clear Bk
 have Bk := T
 clear T
 have T := Aside0.mk (Kd.C_below Np.out hb)
 clear Np
 have Np := T
 clear T
 have T := Aside0.mk (Kd.C_below Nq.out hb)
 clear Nq
 have Nq := T
 clear T
 have T := Aside0.mk ((hb.block _ (blk_lt Bs.out)).trans Bs.out)
 clear Bs
 have Bs := T
 clear T
 have T := Aside0.mk (Kd.C_below Ng.out hb)
 clear Ng
 have Ng := T
 clear T
 have T := Aside0.mk (Kd.C_below Nh.out hb)
 clear Nh
 have Nh := T
 clear T
 have T := Aside0.mk (Kd.C_below Ni.out hb)
 clear Ni
 have Ni := T
 clear T
 have T := Aside0.mk (Kd.C_below Nj.out hb)
 clear Nj
 have Nj := T
 clear T
 have T := Aside0.mk (Kd.C_below Nk.out hb)
 clear Nk
 have Nk := T
 clear T
 have T := Aside0.mk (Kd.C_below Nl.out hb)
 clear Nl
 have Nl := T
 clear T
 have T := Aside0.mk (HB.out.trans (hb.mono HB.out.size))
 clear HB
 have HB := T
 clear T
 clear hb
 have qBs0 := (blk_cell Bs.out 0).trans rfl
 have qBs1 := (blk_cell Bs.out 1).trans rfl
 have qBs2 := (blk_cell Bs.out 2).trans rfl
 have qBl0 := (blk_cell Bl.out 0).trans rfl
 have qBl1 := (blk_cell Bl.out 1).trans rfl
 have qBl2 := (blk_cell Bl.out 2).trans rfl
 go_wp2_with fail
 clear qBs0 qBs1 qBs2
 clear qBl0 qBl1 qBl2
 have hb := Below.refl w19.heap.size w19
 have hb0 := (Below.refl (w19).heap.size (w19)).alloc (Nat.le_refl _) (.cells #[Value.bool false, Value.bool true, Value.bool true] 4)
 have hc0 := hb.trans (hb0.mono (by first | (simp; done) | (simp; omega)))
 have T := Aside0.mk (Kd.C_below Na.out hc0)
 clear Na
 have Na := T
 clear T
 have T := Aside0.mk (Kd.C_below Nb.out hc0)
 clear Nb
 have Nb := T
 clear T
 have T := Aside0.mk (Kd.C_below Nx.out hc0)
 clear Nx
 have Nx := T
 clear T
 have T := Aside0.mk (Kd.C_below Ny.out hc0)
 clear Ny
 have Ny := T
 clear T
 have T := Aside0.mk ((hc0.block _ (blk_lt Bx.out)).trans Bx.out)
 clear Bx
 have Bx := T
 clear T
 have T := Aside0.mk (Kd.C_below Nc.out hc0)
 clear Nc
 have Nc := T
 clear T
 have T := Aside0.mk (Kd.C_below Nd.out hc0)
 clear Nd
 have Nd := T
 clear T
 have T := Aside0.mk ((hc0.block _ (blk_lt Bl.out)).trans Bl.out)
 clear Bl
 have Bl := T
 clear T
 have T := Aside0.mk (Kd.C_below Na1.out hc0)
 clear Na1
 have Na1 := T
 clear T
 have T := Aside0.mk (Kd.C_below Ne.out hc0)
 clear Ne
 have Ne := T
 clear T
 have T := Aside0.mk (Kd.C_below Na2.out hc0)
 clear Na2
 have Na2 := T
 clear T
 have T := Aside0.mk (Kd.C_below Nf.out hc0)
 clear Nf
 have Nf := T
 clear T
 have T := Aside0.mk (Kd.C_below Na3.out hc0)
 clear Na3
 have Na3 := T
 clear T
 have T := Aside0.mk (Kd.C_below Nu.out hc0)
 clear Nu
 have Nu := T
 clear T
 have T := Aside0.mk (Kd.C_below Nv.out hc0)
 clear Nv
 have Nv := T
 clear T
 have T := Aside0.mk ((hc0.block _ (blk_lt Bk.out)).trans Bk.out)
 clear Bk
 have Bk := T
 clear T
 have T := Aside0.mk (Kd.C_below Np.out hc0)
 clear Np
 have Np := T
 clear T
 have T := Aside0.mk (Kd.C_below Nq.out hc0)
 clear Nq
 have Nq := T
 clear T
 have T := Aside0.mk ((hc0.block _ (blk_lt Bs.out)).trans Bs.out)
 clear Bs
 have Bs := T
 clear T
 have T := Aside0.mk (Kd.C_below Ng.out hc0)
 clear Ng
 have Ng := T
 clear T
 have T := Aside0.mk (Kd.C_below Nh.out hc0)
 clear Nh
 have Nh := T
 clear T
 have T := Aside0.mk (Kd.C_below Ni.out hc0)
 clear Ni
 have Ni := T
 clear T
 have T := Aside0.mk (Kd.C_below Nj.out hc0)
 clear Nj
 have Nj := T
 clear T
 have T := Aside0.mk (Kd.C_below Nk.out hc0)
 clear Nk
 have Nk := T
 clear T
 have T := Aside0.mk (Kd.C_below Nl.out hc0)
 clear Nl
 have Nl := T
 clear T
 have T := Aside0.mk (HB.out.trans (hc0.mono HB.out.size))
 clear HB
 have HB := T
 clear T
 have nb := blk_new (w19) (.cells #[Value.bool false, Value.bool true, Value.bool true] 4)
 have Nm := Aside0.mk (Cb_blk [false, true, true] nb)
 clear nb
 clear hb hb0 hc0
 try simp only [World.size_alloc] at Nm ⊢
 generalize (w19.alloc (.cells #[Value.bool false, Value.bool true, Value.bool true] 4)) = w20 at Na Nb Nx Ny Bx Nc Nd Bl Na1 Ne Na2 Nf Na3 Nu Nv Bk Np Nq Bs Ng Nh Ni Nj Nk Nl Nm HB ⊢
 refine (lin_Value.calls (some ⟨w2.heap.size + 1, 0, none⟩) 3 [3, 2, 2] (some ⟨w2.heap.size + 2, 0, none⟩) 3 [1, 2, 3] 5 (some ⟨w19.heap.size, 0, none⟩) 3 [false, true, true] true w20 Nc.out (by decide) Nd.out (by decide) Nm.out (by decide) (by kernel_rfl)).mono ?_
 rintro e w21 ⟨rfl, hb⟩
 have T := Aside0.mk (Kd.C_below Na.out hb)
 clear Na
 have Na := T
 clear T
 have T := Aside0.mk (Kd.C_below Nb.out hb)
 clear Nb
 have Nb := T
 clear T
 have T := Aside0.mk (Kd.C_below Nx.out hb)
 clear Nx
 have Nx := T
 clear T
 have T := Aside0.mk (Kd.C_below Ny.out hb)
 clear Ny
 have Ny := T
 clear T
 have T := Aside0.mk ((hb.block _ (blk_lt Bx.out)).trans Bx.out)
 clear Bx
 have Bx := T
 clear T
 have T := Aside0.mk (Kd.C_below Nc.out hb)
 clear Nc
 have Nc := T
 clear T
 have T := Aside0.mk (Kd.C_below Nd.out hb)
 clear Nd
 have Nd := T
 clear T
 have T := Aside0.mk ((hb.block _ (blk_lt Bl.out)).trans Bl.out)
 clear Bl
 have Bl := T
 clear T
 have T := Aside0.mk (Kd.C_below Na1.out hb)
 clear Na1
 have Na1 := T
 clear T
 have T := Aside0.mk (Kd.C_below Ne.out hb)
 clear Ne
 have Ne := T
 clear T
 have T := Aside0.mk (Kd.C_below Na2.out hb)
 clear Na2
 have Na2 := T
 clear T
 have T := Aside0.mk (Kd.C_below Nf.out hb)
 clear Nf
 have Nf := T
 clear T
 have T := Aside0.mk (Kd.C_below Na3.out hb)
 clear Na3
 have Na3 := T
 clear T
 have T := Aside0.mk (Kd.C_below Nu.out hb)
 clear Nu
 have Nu := T
 clear T
 have T := Aside0.mk (Kd.C_below Nv.out hb)
 clear Nv
 have Nv := T
 clear T
 have T := Aside0.mk ((hb.block _ (blk_lt Bk.out)).trans Bk.out)
 clear Bk
 have Bk := T
 clear T
 have T := Aside0.mk (Kd.C_below Np.out hb)
 clear Np
 have Np := T
 clear T
 have T := Aside0.mk (Kd.C_below Nq.out hb)
 clear Nq
 have Nq := T
 clear T
 have T := Aside0.mk ((hb.block _ (blk_lt Bs.out)).trans Bs.out)
 clear Bs
 have Bs := T
 clear T
 have T := Aside0.mk (Kd.C_below Ng.out hb)
 clear Ng
 have Ng := T
 clear T
 have T := Aside0.mk (Kd.C_below Nh.out hb)
 clear Nh
 have Nh := T
 clear T
 have T := Aside0.mk (Kd.C_below Ni.out hb)
 clear Ni
 have Ni := T
 clear T
 have T := Aside0.mk (Kd.C_below Nj.out hb)
 clear Nj
 have Nj := T
 clear T
 have T := Aside0.mk (Kd.C_below Nk.out hb)
 clear Nk
 have Nk := T
 clear T
 have T := Aside0.mk (Kd.C_below Nl.out hb)
 clear Nl
 have Nl := T
 clear T
 have T := Aside0.mk (Kd.C_below Nm.out hb)
 clear Nm
 have Nm := T
 clear T
 have T := Aside0.mk (HB.out.trans (hb.mono HB.out.size))
 clear HB
 have HB := T
 clear T
 clear hb
 have qBl0 := (blk_cell Bl.out 0).trans rfl
 have qBl1 := (blk_cell Bl.out 1).trans rfl
 have qBl2 := (blk_cell Bl.out 2).trans rfl
 go_wp2_with fail
 clear qBl0 qBl1 qBl2
 have hb := Below.refl w21.heap.size w21
 have hb0 := (Below.refl (w21).heap.size (w21)).alloc (Nat.le_refl _) (.cells #[Value.bool false, Value.bool true] 4)
 have hc0 := hb.trans (hb0.mono (by first | (simp; done) | (simp; omega)))
 have T := Aside0.mk (Kd.C_below Na.out hc0)
 clear Na
 have Na := T
 clear T
 have T := Aside0.mk (Kd.C_below Nb.out hc0)
 clear Nb
 have Nb := T
 clear T
 have T := Aside0.mk (Kd.C_below Nx.out hc0)
 clear Nx
 have Nx := T
 clear T
 have T := Aside0.mk (Kd.C_below Ny.out hc0)
 clear Ny
 have Ny := T
 clear T
 have T := Aside0.mk ((hc0.block _ (blk_lt Bx.out)).trans Bx.out)
 clear Bx
 have Bx := T
 clear T
 have T := Aside0.mk (Kd.C_below Nc.out hc0)
 clear Nc
 have Nc := T
 clear T
 have T := Aside0.mk (Kd.C_below Nd.out hc0)
 clear Nd
 have Nd := T
 clear T
 have T := Aside0.mk ((hc0.block _ (blk_lt Bl.out)).trans Bl.out)
 clear Bl
 have Bl := T
 clear T
 have T := Aside0.mk (Kd.C_below Na1.out hc0)
 clear Na1
 have Na1 := T
 clear T
 have T := Aside0.mk (Kd.C_below Ne.out hc0)
 clear Ne
 have Ne := T
 clear T
 have T := Aside0.mk (Kd.C_below Na2.out hc0)
 clear Na2
 have Na2 := T
 clear T
 have T := Aside0.mk (Kd.C_below Nf.out hc0)
 clear Nf
 have Nf := T
 clear T
 have T := Aside0.mk (Kd.C_below Na3.out hc0)
 clear Na3
 have Na3 := T
 clear T
 have T := Aside0.mk (Kd.C_below Nu.out hc0)
 clear Nu
 have Nu := T
 clear T
 have T := Aside0.mk (Kd.C_below Nv.out hc0)
 clear Nv
 have Nv := T
 clear T
 have T := Aside0.mk ((hc0.block _ (blk_lt Bk.out)).trans Bk.out)
 clear Bk
 have Bk := T
 clear T
 have T := Aside0.mk (Kd.C_below Np.out hc0)
 clear Np
 have Np := T
 clear T
 have T := Aside0.mk (Kd.C_below Nq.out hc0)
 clear Nq
 have Nq := T
 clear T
 have T := Aside0.mk ((hc0.block _ (blk_lt Bs.out)).trans Bs.out)
 clear Bs
 have Bs := T
 clear T
 have T := Aside0.mk (Kd.C_below Ng.out hc0)
 clear Ng
 have Ng := T
 clear T
 have T := Aside0.mk (Kd.C_below Nh.out hc0)
 clear Nh
 have Nh := T
 clear T
 have T := Aside0.mk (Kd.C_below Ni.out hc0)
 clear Ni
 have Ni := T
 clear T
 have T := Aside0.mk (Kd.C_below Nj.out hc0)
 clear Nj
 have Nj := T
 clear T
 have T := Aside0.mk (Kd.C_below Nk.out hc0)
 clear Nk
 have Nk := T
 clear T
 have T := Aside0.mk (Kd.C_below Nl.out hc0)
 clear Nl
 have Nl := T
 clear T
 have T := Aside0.mk (Kd.C_below Nm.out hc0)
 clear Nm
 have Nm := T
 clear T
 have T := Aside0.mk (HB.out.trans (hc0.mono HB.out.size))
 clear HB
 have HB := T
 clear T
 have nb := blk_new (w21) (.cells #[Value.bool false, Value.bool true] 4)
 have Nn := Aside0.mk (Cb_blk [false, true] nb)
 clear nb
 clear hb hb0 hc0
 try simp only [World.size_alloc] at Nn ⊢
 generalize (w21.alloc (.cells #[Value.bool false, Value.bool true] 4)) = w22 at Na Nb Nx Ny Bx Nc Nd Bl Na1 Ne Na2 Nf Na3 Nu Nv Bk Np Nq Bs Ng Nh Ni Nj Nk Nl Nm Nn HB ⊢
 refine (lin_Value.calls (some ⟨w2.heap.size + 1, 0, none⟩) 3 [3, 2, 2] (some ⟨w2.heap.size + 2, 0, none⟩) 3 [1, 2, 3] 5 (some ⟨w21.heap.size, 0, none⟩) 2 [false, true] false w22 Nc.out (by decide) Nd.out (by decide) Nn.out (by decide) (by kernel_rfl)).mono ?_
 rintro e w23 ⟨rfl, hb⟩
 have T := Aside0.mk (Kd.C_below Na.out hb)
 clear Na
 have Na := T
 clear T
 have T := Aside0.mk (Kd.C_below Nb.out hb)
 clear Nb
 have Nb := T
 clear T
 have T := Aside0.mk (Kd.C_below Nx.out hb)
 clear Nx
 have Nx := T
 clear T
 have T := Aside0.mk (Kd.C_below Ny.out hb)
 clear Ny
 have Ny := T
 clear T
 have T := Aside0.mk ((hb.block _ (blk_lt Bx.out)).trans Bx.out)
 clear Bx
 have Bx := T
 clear T
 have T := Aside0.mk (Kd.C_below Nc.out hb)
 clear Nc
 have Nc := T
 clear T
 have T := Aside0.mk (Kd.C_below Nd.out hb)
 clear Nd
 have Nd := T
 clear T
 have T := Aside0.mk ((hb.block _ (blk_lt Bl.out)).trans Bl.out)
 clear Bl
 have Bl := T
 clear T
 have T := Aside0.mk (Kd.C_below Na1.out hb)
 clear Na1
 have Na1 := T
 clear T
 have T := Aside0.mk (Kd.C_below Ne.out hb)
 clear Ne
 have Ne := T
 clear T
 have T := Aside0.mk (Kd.C_below Na2.out hb)
 clear Na2
 have Na2 := T
 clear T
 have T := Aside0.mk (Kd.C_below Nf.out hb)
 clear Nf
 have Nf := T
 clear T
 have T := Aside0.mk (Kd.C_below Na3.out hb)
 clear Na3
 have Na3 := T
 clear T
 have T := Aside0.mk (Kd.C_below Nu.out hb)
 clear Nu
 have Nu := T
 clear T
 have T := Aside0.mk (Kd.C_below Nv.out hb)
 clear Nv
 have Nv := T
 clear T
 have T := Aside0.mk ((hb.block _ (blk_lt Bk.out)).trans Bk.out)
 clear Bk
 have Bk := T
 clear T
 have T := Aside0.mk (Kd.C_below Np.out hb)
 clear Np
 have Np := T
 clear T
 have T := Aside0.mk (Kd.C_below Nq.out hb)
 clear Nq
 have Nq := T
 clear T
 have T := Aside0.mk ((hb.block _ (blk_lt Bs.out)).trans Bs.out)
 clear Bs
 have Bs := T
 clear T
 have T := Aside0.mk (Kd.C_below Ng.out hb)
 clear Ng
 have Ng := T
 clear T
 have T := Aside0.mk (Kd.C_below Nh.out hb)
 clear Nh
 have Nh := T
 clear T
 have T := Aside0.mk (Kd.C_below Ni.out hb)
 clear Ni
 have Ni := T
 clear T
 have T := Aside0.mk (Kd.C_below Nj.out hb)
 clear Nj
 have Nj := T
 clear T
 have T := Aside0.mk (Kd.C_below Nk.out hb)
 clear Nk
 have Nk := T
 clear T
 have T := Aside0.mk (Kd.C_below Nl.out hb)
 clear Nl
 have Nl := T
 clear T
 have T := Aside0.mk (Kd.C_below Nm.out hb)
 clear Nm
 have Nm := T
 clear T
 have T := Aside0.mk (Kd.C_below Nn.out hb)
 clear Nn
 have Nn := T
 clear T
 have T := Aside0.mk (HB.out.trans (hb.mono HB.out.size))
 clear HB
 have HB := T
 clear T
 clear hb
 have qBl0 := (blk_cell Bl.out 0).trans rfl
 have qBl1 := (blk_cell Bl.out 1).trans rfl
 have qBl2 := (blk_cell Bl.out 2).trans rfl
 go_wp2_with fail
 clear qBl0 qBl1 qBl2
 refine (lin_Check.calls (some ⟨w2.heap.size + 1, 0, none⟩) 3 [3, 2, 2] (some ⟨w2.heap.size + 2, 0, none⟩) 3 [1, 2, 3] 5 3 0 w23 Nc.out (by decide) Nd.out (by decide) (by kernel_rfl)).mono ?_
 rintro e w24 ⟨rfl, hb⟩
 have T := Aside0.mk (Kd.C_below Na.out hb)
 clear Na
 have Na := T
 clear T
 have T := Aside0.mk (Kd.C_below Nb.out hb)
 clear Nb
 have Nb := T
 clear T
 have T := Aside0.mk (Kd.C_below Nx.out hb)
 clear Nx
 have Nx := T
 clear T
 have T := Aside0.mk (Kd.C_below Ny.out hb)
 clear Ny
 have Ny := T
 clear T
 have T := Aside0.mk ((hb.block _ (blk_lt Bx.out)).trans Bx.out)
 clear Bx
 have Bx := T
 clear T
 have T := Aside0.mk (Kd.C_below Nc.out hb)
 clear Nc
 have Nc := T
 clear T
 have T := Aside0.mk (Kd.C_below Nd.out hb)
 clear Nd
 have Nd := T
 clear T
 have T := Aside0.mk ((hb.block _ (blk_lt Bl.out)).trans Bl.out)
 clear Bl
 have Bl := T
 clear T
 have T := Aside0.mk (Kd.C_below Na1.out hb)
 clear Na1
 have Na1 := T
 clear T
 have T := Aside0.mk (Kd.C_below Ne.out hb)
 clear Ne
 have Ne := T
 clear T
 have T := Aside0.mk (Kd.C_below Na2.out hb)
 clear Na2
 have Na2 := T
 clear T
 have T := Aside0.mk (Kd.C_below Nf.out hb)
 clear Nf
 have Nf := T
 clear T
 have T := Aside0.mk (Kd.C_below Na3.out hb)
 clear Na3
 have Na3 := T
 clear T
 have T := Aside0.mk (Kd.C_below Nu.out hb)
 clear Nu
 have Nu := T
 clear T
 have T := Aside0.mk (Kd.C_below Nv.out hb)
 clear Nv
 have Nv := T
 clear T
 have T := Aside0.mk ((hb.block _ (blk_lt Bk.out)).trans Bk.out)
 clear Bk
 have Bk := T
 clear T
 have T := Aside0.mk (Kd.C_below Np.out hb)
 clear Np
 have Np := T
 clear T
 have T := Aside0.mk (Kd.C_below Nq.out hb)
 clear Nq
 have Nq := T
 clear T
 have T := Aside0.mk ((hb.block _ (blk_lt Bs.out)).trans Bs.out)
 clear Bs
 have Bs := T
 clear T
 have T := Aside0.mk (Kd.C_below Ng.out hb)
 clear Ng
 have Ng := T
 clear T
 have T := Aside0.mk (Kd.C_below Nh.out hb)
 clear Nh
 have Nh := T
 clear T
 have T := Aside0.mk (Kd.C_below Ni.out hb)
 clear Ni
 have Ni := T
 clear T
 have T := Aside0.mk (Kd.C_below Nj.out hb)
 clear Nj
 have Nj := T
 clear T
 have T := Aside0.mk (Kd.C_below Nk.out hb)
 clear Nk
 have Nk := T
 clear T
 have T := Aside0.mk (Kd.C_below Nl.out hb)
 clear Nl
 have Nl := T
 clear T
 have T := Aside0.mk (Kd.C_below Nm.out hb)
 clear Nm
 have Nm := T
 clear T
 have T := Aside0.mk (Kd.C_below Nn.out hb)
 clear Nn
 have Nn := T
 clear T
 have T := Aside0.mk (HB.out.trans (hb.mono HB.out.size))
 clear HB
 have HB := T
 clear T
 clear hb
 have qBl0 := (blk_cell Bl.out 0).trans rfl
 have qBl1 := (blk_cell Bl.out 1).trans rfl
 have qBl2 := (blk_cell Bl.out 2).trans rfl
 go_wp2_with fail
 clear qBl0 qBl1 qBl2
 refine (lin_Check.calls (some ⟨w2.heap.size + 1, 0, none⟩) 3 [3, 2, 2] (some ⟨w2.heap.size + 2, 0, none⟩) 3 [1, 2, 3] 5 2 1 w24 Nc.out (by decide) Nd.out (by decide) (by kernel_rfl)).mono ?_
 rintro e w25 ⟨rfl, hb⟩
 have T := Aside0.mk (Kd.C_below Na.out hb)
 clear Na
 have Na := T
 clear T
 have T := Aside0.mk (Kd.C_below Nb.out hb)
 clear Nb
 have Nb := T
 clear T
 have T := Aside0.mk (Kd.C_below Nx.out hb)
 clear Nx
 have Nx := T
 clear T
 have T := Aside0.mk (Kd.C_below Ny.out hb)
 clear Ny
 have Ny := T
 clear T
 have T := Aside0.mk ((hb.block _ (blk_lt Bx.out)).trans Bx.out)
 clear Bx
 have Bx := T
 clear T
 have T := Aside0.mk (Kd.C_below Nc.out hb)
 clear Nc
 have Nc := T
 clear T
 have T := Aside0.mk (Kd.C_below Nd.out hb)
 clear Nd
 have Nd := T
 clear T
 have T := Aside0.mk ((hb.block _ (blk_lt Bl.out)).trans Bl.out)
 clear Bl
 have Bl := T
 clear T
 have T := Aside0.mk (Kd.C_below Na1.out hb)
 clear Na1
 have Na1 := T
 clear T
 have T := Aside0.mk (Kd.C_below Ne.out hb)
 clear Ne
 have Ne := T
 clear T
 have T := Aside0.mk (Kd.C_below Na2.out hb)
 clear Na2
 have Na2 := T
 clear T
 have T := Aside0.mk (Kd.C_below Nf.out hb)
 clear Nf
 have Nf := T
 clear T
 have T := Aside0.mk (Kd.C_below Na3.out hb)
 clear Na3
 have Na3 := T
 clear T
 have T := Aside0.mk (Kd.C_below Nu.out hb)
 clear Nu
 have Nu := T
 clear T
 have T := Aside0.mk (Kd.C_below Nv.out hb)
 clear Nv
 have Nv := T
 clear T
 have T := Aside0.mk ((hb.block _ (blk_lt Bk.out)).trans Bk.out)
 clear Bk
 have Bk := T
 clear T
 have T := Aside0.mk (Kd.C_below Np.out hb)
 clear Np
 have Np := T
 clear T
 have T := Aside0.mk (Kd.C_below Nq.out hb)
 clear Nq
 have Nq := T
 clear T
 have T := Aside0.mk ((hb.block _ (blk_lt Bs.out)).trans Bs.out)
 clear Bs
 have Bs := T
 clear T
 have T := Aside0.mk (Kd.C_below Ng.out hb)
 clear Ng
 have Ng := T
 clear T
 have T := Aside0.mk (Kd.C_below Nh.out hb)
 clear Nh
 have Nh := T
 clear T
 have T := Aside0.mk (Kd.C_below Ni.out hb)
 clear Ni
 have Ni := T
 clear T
 have T := Aside0.mk (Kd.C_below Nj.out hb)
 clear Nj
 have Nj := T
 clear T
 have T := Aside0.mk (Kd.C_below Nk.out hb)
 clear Nk
 have Nk := T
 clear T
 have T := Aside0.mk (Kd.C_below Nl.out hb)
 clear Nl
 have Nl := T
 clear T
 have T := Aside0.mk (Kd.C_below Nm.out hb)
 clear Nm
 have Nm := T
 clear T
 have T := Aside0.mk (Kd.C_below Nn.out hb)
 clear Nn
 have Nn := T
 clear T
 have T := Aside0.mk (HB.out.trans (hb.mono HB.out.size))
 clear HB
 have HB := T
 clear T
 clear hb
 have qBl0 := (blk_cell Bl.out 0).trans rfl
 have qBl1 := (blk_cell Bl.out 1).trans rfl
 have qBl2 := (blk_cell Bl.out 2).trans rfl
 have qBk0 := (blk_cell Bk.out 0).trans rfl
 have qBk1 := (blk_cell Bk.out 1).trans rfl
 have qBk2 := (blk_cell Bk.out 2).trans rfl
 go_wp2_with fail
 clear qBl0 qBl1 qBl2
 clear qBk0 qBk1 qBk2
 refine (lin_Same.calls 10 (some ⟨w2.heap.size + 1, 0, none⟩) 3 [3, 2, 2] (some ⟨w2.heap.size + 2, 0, none⟩) 3 [1, 2, 3] 5 Au cu [2, 1, 1] Av cv [1, 2, 3] 3 false w25 Nc.out (by decide) Nd.out (by decide) Nu.out LNu Nv.out LNv (by kernel_rfl)).mono ?_
 rintro e w26 ⟨rfl, hb⟩
 have T := Aside0.mk (Kd.C_below Na.out hb)
 clear Na
 have Na := T
 clear T
 have T := Aside0.mk (Kd.C_below Nb.out hb)
 clear Nb
 have Nb := T
 clear T
 have T := Aside0.mk (Kd.C_below Nx.out hb)
 clear Nx
 have Nx := T
 clear T
 have T := Aside0.mk (Kd.C_below Ny.out hb)
 clear Ny
 have Ny := T
 clear T
 have T := Aside0.mk ((hb.block _ (blk_lt Bx.out)).trans Bx.out)
 clear Bx
 have Bx := T
 clear T
 have T := Aside0.mk (Kd.C_below Nc.out hb)
 clear Nc
 have Nc := T
 clear T
 have T := Aside0.mk (Kd.C_below Nd.out hb)
 clear Nd
 have Nd := T
 clear T
 have T := Aside0.mk ((hb.block _ (blk_lt Bl.out)).trans Bl.out)
 clear Bl
 have Bl := T
 clear T
 have T := Aside0.mk (Kd.C_below Na1.out hb)
 clear Na1
 have Na1 := T
 clear T
 have T := Aside0.mk (Kd.C_below Ne.out hb)
 clear Ne
 have Ne := T
 clear T
 have T := Aside0.mk (Kd.C_below Na2.out hb)
 clear Na2
 have Na2 := T
 clear T
 have T := Aside0.mk (Kd.C_below Nf.out hb)
 clear Nf
 have Nf := T
 clear T
 have T := Aside0.mk (Kd.C_below Na3.out hb)
 clear Na3
 have Na3 := T
 clear T
 have T := Aside0.mk (Kd.C_below Nu.out hb)
 clear Nu
 have Nu := T
 clear T
 have T := Aside0.mk (Kd.C_below Nv.out hb)
 clear Nv
 have Nv := T
 clear T
 have T := Aside0.mk ((hb.block _ (blk_lt Bk.out)).trans Bk.out)
 clear Bk
 have Bk := T
 clear T
 have T := Aside0.mk (Kd.C_below Np.out hb)
 clear Np
 have Np := T
 clear T
 have T := Aside0.mk (Kd.C_below Nq.out hb)
 clear Nq
 have Nq := T
 clear T
 have T := Aside0.mk ((hb.block _ (blk_lt Bs.out)).trans Bs.out)
 clear Bs
 have Bs := T
 clear T
 have T := Aside0.mk (Kd.C_below Ng.out hb)
 clear Ng
 have Ng := T
 clear T
 have T := Aside0.mk (Kd.C_below Nh.out hb)
 clear Nh
 have Nh := T
 clear T
 have T := Aside0.mk (Kd.C_below Ni.out hb)
 clear Ni
 have Ni := T
 clear T
 have T := Aside0.mk (Kd.C_below Nj.out hb)
 clear Nj
 have Nj := T
 clear T
 have T := Aside0.mk (Kd.C_below Nk.out hb)
 clear Nk
 have Nk := T
 clear T
 have T := Aside0.mk (Kd.C_below Nl.out hb)
 clear Nl
 have Nl := T
 clear T
 have T := Aside0.mk (Kd.C_below Nm.out hb)
 clear Nm
 have Nm := T
 clear T
 have T := Aside0.mk (Kd.C_below Nn.out hb)
 clear Nn
 have Nn := T
 clear T
 have T := Aside0.mk (HB.out.trans (hb.mono HB.out.size))
 clear HB
 have HB := T
 clear T
 clear hb
 go_wp2
 go_ret
 exact ⟨rfl, HB.out⟩

def chalklinelaw12_live.f : Option Bool := some true
theorem chalklinelaw12_live.calls (r : Bool) (w : World) (h : chalklinelaw12_live.f = some r) : Calls Try.prog 12 #[] w fun e w' => e = .returned (.bool r) ∧ Below w.heap.size w w' := by
 obtain rfl := Option.some.inj h
 exact live_walk w

end Go.Proofs.Ytmcljhjmmipagaa.PL
