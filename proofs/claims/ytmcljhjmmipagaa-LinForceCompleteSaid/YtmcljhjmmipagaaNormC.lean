/- lin.Norm in the form in which the printed texts call it. -/
import Derived.Test.YtmcljhjmmipagaaNormG
namespace Go.Proofs.Ytmcljhjmmipagaa.PL
open Go.RowKit Go.Proofs.YtmcljhjmmipagaaW.PrintWords Go.Proofs.YtmcljhjmmipagaaW.PrintLast Go.Proofs.YtmcljhjmmipagaaW.PrintMore
set_option linter.unusedVariables false

theorem R_own {e : Nat} {w : World} {base : Nat} {ok : Nat → Prop} {v : Value} {xs : List Int} (ho : w.ownsRow base e 1 v xs.length (xs.map (Value.int .i64))) (hok : ∀ k, v.ownBlock = some k → ok k) : (Kd.int .i64).R e w base ok v xs := Kd.R_of_own (enc := Value.int .i64) (h1 := fun _ => rfl) ho hok
theorem own_R {e : Nat} {w : World} {base : Nat} {ok : Nat → Prop} {v : Value} {xs : List Int} (h : (Kd.int .i64).R e w base ok v xs) : w.ownsRow base e 1 v xs.length (xs.map (Value.int .i64)) := Kd.own_of_R (enc := Value.int .i64) (h1 := fun _ => rfl) h

theorem lin_Norm.calls (A0_0 : Option Addr) (c0_0 : Nat) (l0_0 : List Int) (A0_1 : Option Addr) (c0_1 : Nat) (l0_1 : List Int) (a0_2 : Int) (r1 : List Int) (r2 : List Int) (r3 : Int) (w : World) (hr0_0 : Kd.C (Kd.int .i64) w A0_0 l0_0.length l0_0) (hc0_0 : l0_0.length ≤ c0_0) (hr0_1 : Kd.C (Kd.int .i64) w A0_1 l0_1.length l0_1) (hc0_1 : l0_1.length ≤ c0_1) (h : lin_Norm.f l0_0 l0_1 a0_2 = some (r1, r2, r3)) :
    Calls Try.prog 17 #[.agg #[.slice A0_0 l0_0.length c0_0, .slice A0_1 l0_1.length c0_1, .int .i64 a0_2]] w fun e w' => ∃ v0_ v1_ : Value, e = .returned (.agg #[v0_, v1_, .int .i64 r3]) ∧ Kd.R (Kd.int .i64) 3 w' w.heap.size (fun k_ => some k_ ≠ (v1_ : Value).ownBlock) v0_ r1 ∧ Kd.R (Kd.int .i64) 3 w' w.heap.size (fun k_ => some k_ ≠ (v0_ : Value).ownBlock) v1_ r2 ∧ Below w.heap.size w w' := by
  unfold lin_Norm.f at h
  split at h
  case isTrue hl =>
    have h := Option.some.inj h
    unfold lin_Norm.val at h
    split at h
    case isTrue hv =>
      refine (norm_good A0_0 c0_0 l0_0 A0_1 c0_1 l0_1 a0_2 w hr0_0 hc0_0 hr0_1 hc0_1 hv hl (r1, r2, r3) h).mono ?_
      rintro e w' ⟨v0_, v1_, rfl, h0, h1, hn, hb⟩
      exact ⟨v0_, v1_, rfl, R_own h0 (fun k hk e => hn k hk e.symm), R_own h1 (fun k hk e => hn k e.symm hk), hb⟩
    case isFalse hv =>
      cases h
      refine (norm_bad A0_0 c0_0 l0_0 A0_1 c0_1 l0_1 a0_2 w hr0_0 hc0_0 hr0_1 hc0_1 hv).mono ?_
      rintro e w' ⟨rfl, hb⟩
      exact ⟨.slice none 0 0, .slice none 0 0, rfl, R_own (own_nil _ _ _ _) (fun k hk => by simp [Value.ownBlock] at hk), R_own (own_nil _ _ _ _) (fun k hk => by simp [Value.ownBlock] at hk), hb⟩
  case isFalse => cases h

end Go.Proofs.Ytmcljhjmmipagaa.PL
