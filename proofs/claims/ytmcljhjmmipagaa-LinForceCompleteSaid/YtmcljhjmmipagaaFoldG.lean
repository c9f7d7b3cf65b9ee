/- lin.fold at its three types of state: it goes over the terms from left to right; the step is asked for by an invariant of state and world. -/
import Derived.Test.YtmcljhjmmipagaaPLx0
import Derived.Lib.Hide
import Derived.Shelf.Abstract
namespace Go.Proofs.Ytmcljhjmmipagaa.PL
open Go.RowKit Go.Proofs.YtmcljhjmmipagaaW.PrintWords Go.Proofs.YtmcljhjmmipagaaW.PrintLast Go.Proofs.YtmcljhjmmipagaaW.PrintMore
set_option linter.unusedVariables false
set_option linter.unusedSimpArgs false

set_option maxRecDepth 100000 in
set_option maxHeartbeats 2000000 in
theorem fold_int (g : Nat) (lb : Array Value) (eg : ∀ args w, (callFunc g args).run Try.prog w = .ok (.enter g args) w) (A0 : Option Addr) (c0 : Nat) (C : List Int) (A1 : Option Addr) (c1 : Nat) (L : List Int) (least : Int) (v0 : Value) (w : World)
  (hlen : C.length = L.length) (hbig : L.length ≤ 9223372036854775807)
  (J : Nat → Value → World → Prop) (h0 : J 0 v0 (w.alloc (.cells #[.slice A0 C.length c0, .slice A1 L.length c1, .int .i64 least] 24)))
  (hrd : ∀ k v W, J k v W → W.cell? ⟨w.heap.size, 0, none⟩ = some (.slice A0 C.length c0) ∧ Kd.C (Kd.int .i64) W A0 C.length C ∧ Kd.C (Kd.int .i64) W A1 L.length L)
  (hstep : ∀ k v W, k < L.length → J k v W → Calls Try.prog g (#[v, .int .i64 (rd C (k : Int)), .int .i64 (rd L (k : Int))] ++ lb) W fun e W' => ∃ v', e = .returned v' ∧ J (k + 1) v' W') :
  Calls Try.prog 51 #[.agg #[.slice A0 C.length c0, .slice A1 L.length c1, .int .i64 least], v0, .func (.func g) #[] lb] w fun e w' => ∃ v, e = .returned v ∧ J L.length v w' := by
 have hu24 := Try.underlying24
 have HJ := Lib.hid h0
 have HR := Lib.hid hrd
 have HS := Lib.hid hstep
 have HL := Lib.hid hlen
 clear h0 hrd hstep hlen
 go_enter Try.func51, Try.ntmps51
 go_wp2
 go_loopg [1, 7, 8, 12] L.length (fun gg v1 _ _ v12 W => ∃ k : Nat, k ≤ L.length ∧ L.length - k ≤ gg ∧ v12 = .int .i64 k ∧ Aside0 (J k v1 W))
 case atStart => exact ⟨0, Nat.zero_le _, by omega, rfl, ⟨HJ.out⟩⟩
 case round =>
  obtain ⟨k, hk, hg, rfl, HA⟩ := hrel
  rename_i v1 _ _ _ _ _
  by_cases hlt : k < L.length
  ·
   have hltz : (k : Int) < (L.length : Int) := by omega
   obtain ⟨hb0, hC, hL⟩ := HR.out _ _ _ HA.out
   obtain ⟨ad0, rfl, hx0⟩ := Kd.at_int hC (k : Int) (by omega) (by have := HL.out; omega)
   obtain ⟨ad1, rfl, hx1⟩ := Kd.at_int hL (k : Int) (by omega) hltz
   rw [Int.toNat_natCast] at hx0 hx1
   have hcall := HS.out k _ _ hlt HA.out
   have hkC : (k : Int) < (C.length : Int) := by have := HL.out; omega
   generalize rd C (k : Int) = x at hx0 hcall
   generalize rd L (k : Int) = y at hx1 hcall
   clear hC hL HA
   go_wp2_with (go_at_fn g; refine hcall.mono ?_; rintro e w' ⟨v', rfl, hJ'⟩)
   have HA := Aside0.mk hJ'
   clear hJ'
   go_roundg (L.length - (k + 1))
   case measure => omega
   case rel => exact ⟨k + 1, by omega, by omega, by go_num, HA⟩
  ·
   have hltz : ¬ (k : Int) < (L.length : Int) := by omega
   obtain rfl : k = L.length := by omega
   go_wp2
   go_ret
   exact ⟨_, rfl, HA.out⟩

set_option maxRecDepth 100000 in
set_option maxHeartbeats 2000000 in
theorem fold_list (g : Nat) (lb : Array Value) (eg : ∀ args w, (callFunc g args).run Try.prog w = .ok (.enter g args) w) (A0 : Option Addr) (c0 : Nat) (C : List Int) (A1 : Option Addr) (c1 : Nat) (L : List Int) (least : Int) (v0 : Value) (w : World)
  (hlen : C.length = L.length) (hbig : L.length ≤ 9223372036854775807)
  (J : Nat → Value → World → Prop) (h0 : J 0 v0 (w.alloc (.cells #[.slice A0 C.length c0, .slice A1 L.length c1, .int .i64 least] 24)))
  (hrd : ∀ k v W, J k v W → W.cell? ⟨w.heap.size, 0, none⟩ = some (.slice A0 C.length c0) ∧ Kd.C (Kd.int .i64) W A0 C.length C ∧ Kd.C (Kd.int .i64) W A1 L.length L)
  (hstep : ∀ k v W, k < L.length → J k v W → Calls Try.prog g (#[v, .int .i64 (rd C (k : Int)), .int .i64 (rd L (k : Int))] ++ lb) W fun e W' => ∃ v', e = .returned v' ∧ J (k + 1) v' W') :
  Calls Try.prog 53 #[.agg #[.slice A0 C.length c0, .slice A1 L.length c1, .int .i64 least], v0, .func (.func g) #[] lb] w fun e w' => ∃ v, e = .returned v ∧ J L.length v w' := by
 have hu24 := Try.underlying24
 have HJ := Lib.hid h0
 have HR := Lib.hid hrd
 have HS := Lib.hid hstep
 have HL := Lib.hid hlen
 clear h0 hrd hstep hlen
 go_enter Try.func53, Try.ntmps53
 go_wp2
 go_loopg [1, 7, 8, 12] L.length (fun gg v1 _ _ v12 W => ∃ k : Nat, k ≤ L.length ∧ L.length - k ≤ gg ∧ v12 = .int .i64 k ∧ Aside0 (J k v1 W))
 case atStart => exact ⟨0, Nat.zero_le _, by omega, rfl, ⟨HJ.out⟩⟩
 case round =>
  obtain ⟨k, hk, hg, rfl, HA⟩ := hrel
  rename_i v1 _ _ _ _ _
  by_cases hlt : k < L.length
  ·
   have hltz : (k : Int) < (L.length : Int) := by omega
   obtain ⟨hb0, hC, hL⟩ := HR.out _ _ _ HA.out
   obtain ⟨ad0, rfl, hx0⟩ := Kd.at_int hC (k : Int) (by omega) (by have := HL.out; omega)
   obtain ⟨ad1, rfl, hx1⟩ := Kd.at_int hL (k : Int) (by omega) hltz
   rw [Int.toNat_natCast] at hx0 hx1
   have hcall := HS.out k _ _ hlt HA.out
   have hkC : (k : Int) < (C.length : Int) := by have := HL.out; omega
   generalize rd C (k : Int) = x at hx0 hcall
   generalize rd L (k : Int) = y at hx1 hcall
   clear hC hL HA
   go_wp2_with (go_at_fn g; refine hcall.mono ?_; rintro e w' ⟨v', rfl, hJ'⟩)
   have HA := Aside0.mk hJ'
   clear hJ'
   go_roundg (L.length - (k + 1))
   case measure => omega
   case rel => exact ⟨k + 1, by omega, by omega, by go_num, HA⟩
  ·
   have hltz : ¬ (k : Int) < (L.length : Int) := by omega
   obtain rfl : k = L.length := by omega
   go_wp2
   go_ret
   exact ⟨_, rfl, HA.out⟩

set_option maxRecDepth 100000 in
set_option maxHeartbeats 2000000 in
theorem fold_map (g : Nat) (lb : Array Value) (eg : ∀ args w, (callFunc g args).run Try.prog w = .ok (.enter g args) w) (A0 : Option Addr) (c0 : Nat) (C : List Int) (A1 : Option Addr) (c1 : Nat) (L : List Int) (least : Int) (v0 : Value) (w : World)
  (hlen : C.length = L.length) (hbig : L.length ≤ 9223372036854775807)
  (J : Nat → Value → World → Prop) (h0 : J 0 v0 (w.alloc (.cells #[.slice A0 C.length c0, .slice A1 L.length c1, .int .i64 least] 24)))
  (hrd : ∀ k v W, J k v W → W.cell? ⟨w.heap.size, 0, none⟩ = some (.slice A0 C.length c0) ∧ Kd.C (Kd.int .i64) W A0 C.length C ∧ Kd.C (Kd.int .i64) W A1 L.length L)
  (hstep : ∀ k v W, k < L.length → J k v W → Calls Try.prog g (#[v, .int .i64 (rd C (k : Int)), .int .i64 (rd L (k : Int))] ++ lb) W fun e W' => ∃ v', e = .returned v' ∧ J (k + 1) v' W') :
  Calls Try.prog 42 #[.agg #[.slice A0 C.length c0, .slice A1 L.length c1, .int .i64 least], v0, .func (.func g) #[] lb] w fun e w' => ∃ v, e = .returned v ∧ J L.length v w' := by
 have hu24 := Try.underlying24
 have HJ := Lib.hid h0
 have HR := Lib.hid hrd
 have HS := Lib.hid hstep
 have HL := Lib.hid hlen
 clear h0 hrd hstep hlen
 go_enter Try.func42, Try.ntmps42
 go_wp2
 go_loopg [1, 7, 8, 12] L.length (fun gg v1 _ _ v12 W => ∃ k : Nat, k ≤ L.length ∧ L.length - k ≤ gg ∧ v12 = .int .i64 k ∧ Aside0 (J k v1 W))
 case atStart => exact ⟨0, Nat.zero_le _, by omega, rfl, ⟨HJ.out⟩⟩
 case round =>
  obtain ⟨k, hk, hg, rfl, HA⟩ := hrel
  rename_i v1 _ _ _ _ _
  by_cases hlt : k < L.length
  ·
   have hltz : (k : Int) < (L.length : Int) := by omega
   obtain ⟨hb0, hC, hL⟩ := HR.out _ _ _ HA.out
   obtain ⟨ad0, rfl, hx0⟩ := Kd.at_int hC (k : Int) (by omega) (by have := HL.out; omega)
   obtain ⟨ad1, rfl, hx1⟩ := Kd.at_int hL (k : Int) (by omega) hltz
   rw [Int.toNat_natCast] at hx0 hx1
   have hcall := HS.out k _ _ hlt HA.out
   have hkC : (k : Int) < (C.length : Int) := by have := HL.out; omega
   generalize rd C (k : Int) = x at hx0 hcall
   generalize rd L (k : Int) = y at hx1 hcall
   clear hC hL HA
   go_wp2_with (go_at_fn g; refine hcall.mono ?_; rintro e w' ⟨v', rfl, hJ'⟩)
   have HA := Aside0.mk hJ'
   clear hJ'
   go_roundg (L.length - (k + 1))
   case measure => omega
   case rel => exact ⟨k + 1, by omega, by omega, by go_num, HA⟩
  ·
   have hltz : ¬ (k : Int) < (L.length : Int) := by omega
   obtain rfl : k = L.length := by omega
   go_wp2
   go_ret
   exact ⟨_, rfl, HA.out⟩

end Go.Proofs.Ytmcljhjmmipagaa.PL
