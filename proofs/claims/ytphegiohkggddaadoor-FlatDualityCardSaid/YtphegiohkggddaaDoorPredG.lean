/- slices.IndexFunc, slices.ContainsFunc over slices of trees, for a function value whose contract is given; the conditions stand in each statement. -/
import Derived.Test.YtphegiohkggddaaDoorPFx0
import Derived.Lib.Hide
import Derived.Shelf.Abstract
namespace Go.Proofs.YtphegiohkggddaaDoor.PF
open Go.RowKit Go.Proofs.YtphegiohkggddaaDoorW.PrintWords Go.Proofs.YtphegiohkggddaaDoorW.PrintLast Go.Proofs.YtphegiohkggddaaDoorW.PrintMore
set_option linter.unusedVariables false
set_option linter.unusedSimpArgs false

/-- Trees: what holds of a tree where it holds of its subtrees holds of all. -/
theorem S24_ind {P : S24 → Prop} (h : ∀ a b c l, (∀ x ∈ l, P x) → P ⟨a, b, c, l⟩) : ∀ x, P x
  | ⟨a, b, c, l⟩ => h a b c l fun x hx => S24_ind h x
termination_by x => SizeOf.sizeOf x
decreasing_by
  have := List.sizeOf_lt_of_mem hx
  simp only [S24.mk.sizeOf_spec]
  omega

/-- What is asked of a predicate handed over as a function value. -/
def Pred (g : Nat) (lb : Array Value) (p : S24 → Bool) (xs : List S24) (w : World) : Prop :=
  ∀ (x : S24) (w1 : World) (A : Option Addr) (c : Nat), x ∈ xs → Below w.heap.size w w1 → x.f3.length ≤ c → k24.C w1 A x.f3.length x.f3 →
    Calls Tryd.prog g (#[.agg #[.int .i64 x.f0, .int .i64 x.f1, .int .i64 x.f2, .slice A x.f3.length c]] ++ lb) w1 fun e w2 => e = .returned (.bool (p x)) ∧ Below w1.heap.size w1 w2
theorem Pred.below {g : Nat} {lb : Array Value} {p : S24 → Bool} {xs : List S24} {w w' : World} (h : Pred g lb p xs w) (hb : Below w.heap.size w w') : Pred g lb p xs w' :=
  fun x w1 A c hx h1 hc hC => h x w1 A c hx (hb.trans (h1.mono hb.size)) hc hC

/-- From place k on: the first place at which p holds, or -1. -/
def idx (p : S24 → Bool) : List S24 → Int → Int
  | [], _ => -1
  | x :: l, k => if p x = true then k else idx p l (k + 1)
theorem idx_cons (p : S24 → Bool) (x : S24) (l : List S24) (k : Int) : idx p (x :: l) k = if p x = true then k else idx p l (k + 1) := rfl
theorem idx_nonneg (p : S24 → Bool) : ∀ (l : List S24) (k : Int), 0 ≤ k → decide (0 ≤ idx p l k) = l.any p
  | [], k, _ => by simp [idx]
  | x :: l, k, h => by
    unfold idx
    by_cases c : p x = true
    · rw [if_pos c]; simp [c, h]
    · rw [if_neg c, idx_nonneg p l (k + 1) (by omega)]; simp [c]
theorem idx_range (p : S24 → Bool) : ∀ (l : List S24) (k : Int), 0 ≤ k → -1 ≤ idx p l k
  | [], k, _ => by simp [idx]
  | x :: l, k, h => by
    unfold idx
    by_cases c : p x = true
    · rw [if_pos c]; omega
    · rw [if_neg c]; exact idx_range p l (k + 1) (by omega)
theorem drop_rd {l : List S24} {k : Nat} (h : k < l.length) : l.drop k = rd_T24 l (k : Int) :: l.drop (k + 1) := by
  rw [List.drop_eq_getElem_cons h]
  congr 1
  simp [rd_T24, h]
theorem rd_mem {l : List S24} {k : Nat} (h : k < l.length) : rd_T24 l (k : Int) ∈ l := by
  simp [rd_T24, h]

set_option maxHeartbeats 1000000 in
theorem IndexFunc_calls (g : Nat) (lb : Array Value) (p : S24 → Bool) (eg : ∀ args w, (callFunc g args).run Tryd.prog w = .ok (.enter g args) w) (A : Option Addr) (c : Nat) (xs : List S24) (w : World) (hC : Kd.C k24 w A xs.length xs) (hp : Pred g lb p xs w) :
    Calls Tryd.prog 40 #[.slice A xs.length c, .func (.func g) #[] lb] w fun e w' => e = .returned (.int .i64 (idx p xs 0)) ∧ Below w.heap.size w w' := by
  have hbig := hC.2.1
  have hp' := Lib.hid hp
  have hC' := Lib.hid hC
  clear hp hC
  go_enter Tryd.func40, Tryd.ntmps40
  go_wp2
  go_loopg [5, 8] xs.length (fun gg _ s8 wr => ∃ kk : Nat, kk ≤ xs.length ∧ xs.length - kk ≤ gg ∧ s8 = .int .i64 kk ∧ Aside0 (Below w.heap.size w wr) ∧ Aside0 (idx p xs 0 = idx p (xs.drop kk) kk))
  case atStart => exact ⟨0, Nat.zero_le _, by omega, rfl, ⟨Below.refl _ _⟩, ⟨by simp⟩⟩
  case round =>
    obtain ⟨kk, hkk, hg, rfl, HB, HA⟩ := hrel
    by_cases hlt : kk < xs.length
    · have hltz : (kk : Int) < (xs.length : Int) := by omega
      have hd := drop_rd hlt
      have hm := rd_mem hlt
      obtain ⟨ad, A3, c3, rfl, hx0, hx1, hx2, hx3, hl3, hi3⟩ := at_T24 hC'.out (kk : Int) (by omega) hltz
      replace hx0 := (HB.out.cell (World.block_lt_of_cell? w _ hx0)).trans hx0
      replace hx1 := (HB.out.cell (World.block_lt_of_cell? w _ hx1)).trans hx1
      replace hx2 := (HB.out.cell (World.block_lt_of_cell? w _ hx2)).trans hx2
      replace hx3 := (HB.out.cell (World.block_lt_of_cell? w _ hx3)).trans hx3
      rw [Int.toNat_natCast] at hx0 hx1 hx2 hx3
      generalize hy : rd_T24 xs (kk : Int) = y at hx0 hx1 hx2 hx3 hd hm hl3 hi3
      have HA2 := HA.out
      rw [hd, idx_cons] at HA2
      clear hy HA hd
      have hcall := hp'.out y wr A3 c3 hm HB.out hl3 (Kd.C_below hi3 HB.out)
      clear hm hl3 hi3
      cases hq : p y with
      | true =>
        rw [hq] at hcall HA2
        rw [if_pos rfl] at HA2
        have HA3 := Lib.hid HA2
        clear HA2
        go_wp2_with (go_at_fn g; refine hcall.mono ?_; rintro e w' ⟨rfl, hb⟩)
        go_ret
        exact ⟨by rw [HA3.out]; rfl, HB.out.trans (hb.mono HB.out.size)⟩
      | false =>
        rw [hq] at hcall HA2
        rw [if_neg (by simp)] at HA2
        have HA3 := Lib.hid HA2
        clear HA2
        go_wp2_with (go_at_fn g; refine hcall.mono ?_; rintro e w' ⟨rfl, hb⟩)
        go_roundg (xs.length - (kk + 1))
        case measure => omega
        case rel => exact ⟨kk + 1, by omega, by omega, by go_num, ⟨HB.out.trans (hb.mono HB.out.size)⟩, ⟨by rw [HA3.out]; rfl⟩⟩
    · have hltz : ¬ (kk : Int) < (xs.length : Int) := by omega
      go_wp2
      go_ret
      exact ⟨by rw [HA.out, List.drop_of_length_le (by omega)]; rfl, HB.out⟩

theorem ContainsFunc_calls (g : Nat) (lb : Array Value) (p : S24 → Bool) (eg : ∀ args w, (callFunc g args).run Tryd.prog w = .ok (.enter g args) w) (A : Option Addr) (c : Nat) (xs : List S24) (w : World) (hC : Kd.C k24 w A xs.length xs) (hp : Pred g lb p xs w) :
    Calls Tryd.prog 29 #[.slice A xs.length c, .func (.func g) #[] lb] w fun e w' => e = .returned (.bool (xs.any p)) ∧ Below w.heap.size w w' := by
  have h := IndexFunc_calls g lb p eg A c xs w hC hp
  rw [← idx_nonneg p xs 0 (by omega)]
  have hr := idx_range p xs 0 (by omega)
  generalize idx p xs 0 = r at h hr ⊢
  clear hC hp
  go_enter Tryd.func29, Tryd.ntmps29
  go_wp2_with (go_at_call 40; refine h.mono ?_; rintro e w' ⟨rfl, hb⟩)
  go_ret
  exact ⟨rfl, hb⟩

end Go.Proofs.YtphegiohkggddaaDoor.PF
