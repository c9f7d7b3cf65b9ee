/- flat.known and the predicates that join and made hand over. -/
import Derived.Test.YtphegiohkggddaaDoorFormG
namespace Go.Proofs.YtphegiohkggddaaDoor.PF
open Go.RowKit Go.Proofs.YtphegiohkggddaaDoorW.PrintWords Go.Proofs.YtphegiohkggddaaDoorW.PrintLast Go.Proofs.YtphegiohkggddaaDoorW.PrintMore
set_option linter.unusedVariables false
set_option linter.unusedSimpArgs false

theorem known_calls (t : S24) (A : Option Addr) (c : Nat) (w : World) :
    Calls Tryd.prog 44 #[.agg #[.int .i64 t.f0, .int .i64 t.f1, .int .i64 t.f2, .slice A t.f3.length c]] w fun e w' => e = .returned (.bool (t.f0 == 1)) ∧ Below w.heap.size w w' := by
  have hu24 := Tryd.underlying24
  have HB := Lib.hid ((Below.refl w.heap.size w).alloc (Nat.le_refl _) (.cells #[.int .i64 t.f0, .int .i64 t.f1, .int .i64 t.f2, .slice A t.f3.length c] 24))
  go_enter Tryd.func44, Tryd.ntmps44
  go_wp2
  go_ret
  exact ⟨rfl, HB.out⟩

theorem eg45 : ∀ args w, (callFunc 45 args).run Tryd.prog w = .ok (.enter 45 args) w := enters_of Tryd.func45 (by kernel_rfl) rfl
theorem eg43 : ∀ args w, (callFunc 43 args).run Tryd.prog w = .ok (.enter 43 args) w := enters_of Tryd.func43 (by kernel_rfl) rfl
theorem pred_open (xs : List S24) (w : World) : Pred 45 #[] (fun x => x.f0 != 1) xs w := fun x w1 A c _ _ hc hC =>
  flat_open.calls x.f0 x.f1 x.f2 A c x.f3 _ w1 hC hc rfl

theorem one_calls (t : S24) (A : Option Addr) (c : Nat) (w : World) :
    Calls Tryd.prog 43 #[.agg #[.int .i64 t.f0, .int .i64 t.f1, .int .i64 t.f2, .slice A t.f3.length c]] w fun e w' => e = .returned (.bool (if t.f0 = 1 then t.f1 == 1 else false)) ∧ Below w.heap.size w w' := by
  have hu24 := Tryd.underlying24
  have hb := (Below.refl w.heap.size w).alloc (Nat.le_refl _) (.cells #[.int .i64 t.f0, .int .i64 t.f1, .int .i64 t.f2, .slice A t.f3.length c] 24)
  have HB := Lib.hid hb
  have k := known_calls t A c (w.alloc (.cells #[.int .i64 t.f0, .int .i64 t.f1, .int .i64 t.f2, .slice A t.f3.length c] 24))
  by_cases h : t.f0 = 1
  · rw [if_pos h]
    rw [show (t.f0 == 1) = true from beq_iff_eq.2 h] at k
    have HH := Lib.hid h
    clear h hb
    go_enter Tryd.func43, Tryd.ntmps43
    go_wp2_with fail
    refine k.mono ?_
    rintro e w' ⟨rfl, hb1⟩
    have e1 : w'.cell? ⟨w.heap.size, 1, none⟩ = some (.int .i64 t.f1) := (hb1.cell (p := ⟨w.heap.size, 1, none⟩) (by simp)).trans (by simp)
    go_wp2
    go_ret
    exact ⟨rfl, HB.out.trans (hb1.mono (by simp))⟩
  · rw [if_neg h]
    rw [show (t.f0 == 1) = false from beq_eq_false_iff_ne.2 h] at k
    have HH := Lib.hid h
    clear h hb
    go_enter Tryd.func43, Tryd.ntmps43
    go_wp2_with fail
    refine k.mono ?_
    rintro e w' ⟨rfl, hb1⟩
    go_wp2
    go_ret
    exact ⟨rfl, HB.out.trans (hb1.mono (by simp))⟩
theorem pred_one (xs : List S24) (w : World) : Pred 43 #[] (fun x => if x.f0 = 1 then x.f1 == 1 else false) xs w := fun x w1 A c _ _ _ _ => one_calls x A c w1

end Go.Proofs.YtphegiohkggddaaDoor.PF
