/- (*lin.build).all answers the sum of the coefficients; the conditions stand in each statement. -/
import Derived.Test.YtmcljhjmmipagaaValueG
namespace Go.Proofs.Ytmcljhjmmipagaa.PL
open Go.RowKit Go.Proofs.YtmcljhjmmipagaaW.PrintWords Go.Proofs.YtmcljhjmmipagaaW.PrintLast Go.Proofs.YtmcljhjmmipagaaW.PrintMore
set_option linter.unusedVariables false
set_option linter.unusedSimpArgs false

theorem sumStep_calls (n c lit : Int) (w : World) (h0 : -9223372036854775808 ≤ n + c) (h1 : n + c ≤ 9223372036854775807) :
  Calls Try.prog 65 #[.int .i64 n, .int .i64 c, .int .i64 lit] w fun e w' => e = .returned (.int .i64 (n + c)) ∧ w = w' := by
 go_enter Try.func65, Try.ntmps65
 go_wp2
 go_ret
 exact ⟨rfl, rfl⟩
theorem eg65 : ∀ args w, (callFunc 65 args).run Try.prog w = .ok (.enter 65 args) w := enters_of Try.func65 (by kernel_rfl) rfl

def okP (C : List Int) : Prop := ∀ c ∈ C, 0 ≤ c ∧ c ≤ 4503599627370496
theorem dot_all (C L : List Int) (h : okP C) : 0 ≤ dot (fun _ => true) C L ∧ dot (fun _ => true) C L ≤ (C.length : Int) * 4503599627370496 := by
 induction C generalizing L with
 | nil => simp [dot]
 | cons a C ih =>
  cases L with
  | nil => simp only [dot, List.length_cons]; omega
  | cons b L =>
   have ha := h a (by simp)
   have := ih L (fun c hc => h c (by simp [hc]))
   simp only [dot, List.length_cons, if_true]
   omega

theorem all_calls (Bo : Nat) (A0 : Option Addr) (c0 : Nat) (C : List Int) (A1 : Option Addr) (c1 : Nat) (L : List Int) (least : Int) (w : World) (hb : w.heap[Bo]? = some (.cells #[.slice A0 C.length c0, .slice A1 L.length c1, .int .i64 least] 52 (0, 0)))
  (hC : Kd.C (Kd.int .i64) w A0 C.length C) (hL : Kd.C (Kd.int .i64) w A1 L.length L) (hlen : C.length = L.length) (op : okP C) (hm : L.length ≤ 1000) :
  Calls Try.prog 49 #[.pointer (some ⟨Bo, 0, none⟩)] w fun e w' => e = .returned (.int .i64 (dot (fun _ => true) C L)) ∧ Below w.heap.size w w' := by
 have hu24 := Try.underlying24
 have hu52 := Try.underlying52
 have hu50 := Try.underlying50
 have hb0 := (Below.refl w.heap.size w).alloc (Nat.le_refl _) (.cells #[.slice A0 C.length c0, .slice A1 L.length c1, .int .i64 least] 24)
 have k : Calls Try.prog 51 #[.agg #[.slice A0 C.length c0, .slice A1 L.length c1, .int .i64 least], .int .i64 0, .func (.func 65) #[] #[]] w fun e w' => e = .returned (.int .i64 (dot (fun _ => true) C L)) ∧ Below w.heap.size w w' := by
  have k := fold_int 65 #[] eg65 A0 c0 C A1 c1 L least (.int .i64 0) w hlen (by omega)
   (fun k v W => v = .int .i64 (dot (fun _ => true) (C.take k) (L.take k)) ∧ Below (w.heap.size + 1) (w.alloc (.cells #[.slice A0 C.length c0, .slice A1 L.length c1, .int .i64 least] 24)) W)
   ⟨by simp [dot], Below.refl _ _⟩
   (fun k v W hJ => ⟨by have := hJ.2.cell (p := ⟨w.heap.size, 0, none⟩) (by simp); rw [this]; simp, Kd.C_below hC (hb0.trans (hJ.2.mono (by omega))), Kd.C_below hL (hb0.trans (hJ.2.mono (by omega)))⟩)
   (fun k v W hk hJ => ?_)
  ·
   refine k.mono ?_
   rintro e w' ⟨v, rfl, rfl, hb⟩
   exact ⟨by rw [List.take_of_length_le (by omega), List.take_of_length_le (by omega)], hb0.trans (hb.mono (by omega))⟩
  ·
   obtain ⟨rfl, hb⟩ := hJ
   have hkC : k < C.length := by omega
   have hc := op _ (rd_mem hkC)
   have hd := dot_all (C.take k) (L.take k) (fun c h => op c (List.mem_of_mem_take h))
   rw [List.length_take] at hd
   refine (sumStep_calls (dot (fun _ => true) (C.take k) (L.take k)) (rd C k) (rd L k) W (by omega) (by omega)).mono ?_
   rintro e w' ⟨rfl, rfl⟩
   refine ⟨_, rfl, ?_, hb⟩
   rw [take_rd hk, take_rd hkC, dot_snoc _ _ _ _ _ (by simp; omega), if_pos rfl]
 have q0 : w.cell? ⟨Bo, 0, none⟩ = some (.slice A0 C.length c0) := (blk_cell hb 0).trans rfl
 have q1 : w.cell? ⟨Bo, 1, none⟩ = some (.slice A1 L.length c1) := (blk_cell hb 1).trans rfl
 have q2 : w.cell? ⟨Bo, 2, none⟩ = some (.int .i64 least) := (blk_cell hb 2).trans rfl
 clear hb0 hC hL hb op hlen
 generalize dot (fun _ => true) C L = d at k ⊢
 go_enter Try.func49, Try.ntmps49
 go_wp2_with (go_at_call 51; refine k.mono ?_; rintro e w1 ⟨rfl, hb1⟩)
 go_ret
 exact ⟨rfl, hb1⟩

end Go.Proofs.Ytmcljhjmmipagaa.PL
