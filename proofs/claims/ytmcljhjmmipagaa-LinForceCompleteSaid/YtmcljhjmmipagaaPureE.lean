/- The enumeration of assignments in the laws: the truths of some bits, a constraint under some bits. No program in sight. -/
import Derived.Test.YtmcljhjmmipagaaPureD
import Derived.Test.YtmcljhjmmipagaaPureA
import Derived.Test.YtmcljhjmmipagaaPLx4
import Derived.Test.YtmcljhjmmipagaaPLx5
import Derived.Test.YtmcljhjmmipagaaPLx13
namespace Go.Proofs.Ytmcljhjmmipagaa.PL
open Go.RowKit Go.Proofs.YtmcljhjmmipagaaW.PrintWords Go.Proofs.YtmcljhjmmipagaaW.PrintLast Go.Proofs.YtmcljhjmmipagaaW.PrintMore
set_option linter.unusedVariables false
set_option linter.unusedSimpArgs false

def bitB (bits v : Int) : Bool := (Go.bits .and .i64 (shr .i64 bits (IntKind.u64.wrap (wrap64 (v - 1)))) 1) == 1
theorem u64_nonneg (x : Int) : 0 ≤ IntKind.u64.wrap x := by
  have := IntKind.wrap_u64 x
  rw [this]
  omega
/-- The truth of a literal under some bits. -/
def tB (bits l : Int) : Bool := bitB bits (ofI l) == decide (0 < l)
theorem lits_tB (bits : Int) : Lits (tB bits) := fun v hv => by
  unfold tB
  have e1 : ofI (-v) = v := by unfold ofI; split <;> omega
  have e2 : ofI v = v := by unfold ofI; split <;> omega
  rw [e1, e2, decide_eq_false (by omega), decide_eq_true hv]
  cases bitB bits v <;> rfl
theorem dot_congr {t u : Int → Bool} : ∀ (C L : List Int), (∀ l ∈ L, t l = u l) → dot t C L = dot u C L
  | [], _, _ => by simp [dot]
  | _ :: _, [], _ => by simp [dot]
  | a :: C, b :: L, h => by
    simp only [dot]
    rw [h b (by simp), dot_congr C L (fun l hl => h l (by simp [hl]))]
theorem dot_bnd {B : Int} (t : Int → Bool) : ∀ (C L : List Int), (∀ c ∈ C, -B ≤ c ∧ c ≤ B) → 0 ≤ B → -((C.length : Int) * B) ≤ dot t C L ∧ dot t C L ≤ (C.length : Int) * B
  | [], L, _, _ => by simp [dot]
  | a :: C, [], h, hB => by
    have h0 : 0 ≤ ((a :: C).length : Int) * B := Int.mul_nonneg (by omega) hB
    have e : dot t (a :: C) [] = 0 := rfl
    omega
  | a :: C, b :: L, h, hB => by
    have ha := h a (by simp)
    have := dot_bnd t C L (fun c hc => h c (by simp [hc])) hB
    have e : ((C.length + 1 : Nat) : Int) * B = C.length * B + B := by rw [Int.natCast_add, Int.add_mul]; simp
    simp only [dot, List.length_cons]
    split <;> omega

theorem mx_of {l : Int} (h0 : -65536 ≤ l) (h1 : l ≤ 65536) : mx l (wrap64 (-l)) = ofI l := by
  rw [wrap_id (by omega) (by omega)]
  unfold mx ofI
  split <;> split <;> omega
theorem holds_l0 (C L : List Int) (least bits : Int) (he : C.length = L.length) (hb : L.length ≤ 1000) (hC : ∀ c ∈ C, -2251799813685248 ≤ c ∧ c ≤ 2251799813685248) (hL : ∀ l ∈ L, -65536 ≤ l ∧ l ≤ 65536) : ∀ (m j : Nat) (n : Int), L.length - j = m → j ≤ L.length → n = dot (tB bits) (C.take j) (L.take j) → Ev (fun k => chalklinelaw12_holds.l0 k bits n (j : Int) C L least) (decide (least ≤ dot (tB bits) C L)) := by
  intro m
  induction m with
  | zero =>
    intro j n hm hj hn
    refine Ev.step (Ev.step (Ev.pure (decide (least ≤ dot (tB bits) C L))) (F := fun k => chalklinelaw12_holds.j1 k bits n (j : Int) false C L least) (fun k => ?_)) (fun k => ?_)
    · rw [chalklinelaw12_holds.j1, if_neg (by simp), hn, List.take_of_length_le (by omega), List.take_of_length_le (by omega)]
    · rw [chalklinelaw12_holds.l0, if_neg (by omega)]
  | succ m ih =>
    intro j n hm hj hn
    have hjl : j < L.length := by omega
    have hjc : j < C.length := by omega
    have hc := hC _ (rd_mem hjc)
    have hl := hL _ (rd_mem hjl)
    have hbd := dot_bnd (B := 2251799813685248) (tB bits) (C.take j) (L.take j) (fun c h => hC c (List.mem_of_mem_take h)) (by omega)
    rw [← hn, List.length_take] at hbd
    have ih' := fun n => ih (j + 1) n (by omega) (by omega)
    rw [take_rd hjl, take_rd hjc, dot_snoc _ _ _ _ _ (by simp; omega), ← hn] at ih'
    have hmx := mx_of hl.1 hl.2
    have w1 : wrap64 (n + rd C (j : Int)) = n + rd C (j : Int) := wrap_id (by omega) (by omega)
    have ht : (((Go.bits .and .i64 (shr .i64 bits (IntKind.u64.wrap (wrap64 ((mx (rd L (j : Int)) (wrap64 (-(rd L (j : Int))))) - 1)))) 1) == 1) == (decide ((rd L (j : Int)) > 0))) = tB bits (rd L (j : Int)) := by rw [hmx]; rfl
    by_cases h1 : tB bits (rd L (j : Int)) = true
    · refine Ev.step (Ev.step (ih' _ rfl) (F := fun k => chalklinelaw12_holds.j1 k bits n (j : Int) true C L least) (fun k => ?_)) (fun k => ?_)
      · rw [chalklinelaw12_holds.j1, if_pos rfl, if_pos (by omega), if_pos (by omega), if_pos (u64_nonneg _), ht, if_pos h1, if_pos (by omega), w1, wrap_succ (by omega), if_pos h1]
      · rw [chalklinelaw12_holds.l0, if_pos (by omega), decide_eq_true (by omega)]
    · refine Ev.step (Ev.step (ih' _ rfl) (F := fun k => chalklinelaw12_holds.j1 k bits n (j : Int) true C L least) (fun k => ?_)) (fun k => ?_)
      · rw [chalklinelaw12_holds.j1, if_pos rfl, if_pos (by omega), if_pos (by omega), if_pos (u64_nonneg _), ht, if_neg h1, wrap_succ (by omega), if_neg h1, Int.add_zero]
      · rw [chalklinelaw12_holds.l0, if_pos (by omega), decide_eq_true (by omega)]
theorem holds_ev (C L : List Int) (least bits : Int) (he : C.length = L.length) (hb : L.length ≤ 1000) (hC : ∀ c ∈ C, -2251799813685248 ≤ c ∧ c ≤ 2251799813685248) (hL : ∀ l ∈ L, -65536 ≤ l ∧ l ≤ 65536) : Ev (fun k => chalklinelaw12_holds.f k C L least bits) (decide (least ≤ dot (tB bits) C L)) :=
  holds_l0 C L least bits he hb hC hL _ 0 0 rfl (Nat.zero_le _) (by simp [dot])

end Go.Proofs.Ytmcljhjmmipagaa.PL
