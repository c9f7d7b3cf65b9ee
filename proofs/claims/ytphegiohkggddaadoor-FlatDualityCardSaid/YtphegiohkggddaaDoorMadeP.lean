/- What flat.made makes of a tree, and what it asks of it. -/
import Derived.Test.YtphegiohkggddaaDoorJoin2G
namespace Go.Proofs.YtphegiohkggddaaDoor.PF
open Go.RowKit Go.Proofs.YtphegiohkggddaaDoorW.PrintWords Go.Proofs.YtphegiohkggddaaDoorW.PrintLast Go.Proofs.YtphegiohkggddaaDoorW.PrintMore
set_option linter.unusedVariables false

def not_val (m : List S24) : S24 := if (rd_T24 m 0).f0 = 1 then ⟨1, wrap64 (1 - (rd_T24 m 0).f1), 0, []⟩ else if (rd_T24 m 0).f0 = 3 then rd_T24 (rd_T24 m 0).f3 0 else ⟨3, 0, 0, m⟩
def least2_val (k : Int) (r : List S24) : S24 := if k ≤ 0 then ⟨1, 1, 0, []⟩ else if (r.length : Int) < k then ⟨1, 0, 0, []⟩ else if k = (r.length : Int) then join_val 4 r else if k = 1 then join_val 5 r else ⟨6, 0, k, r⟩
def oneB (x : S24) : Bool := if x.f0 = 1 then x.f1 == 1 else false
def least_val (c : Int) (m : List S24) : S24 := least2_val (wrap64 (c - ((m.filter oneB).length : Int))) (m.filter fun x => x.f0 != 1)
def node_val (a b c : Int) (l m : List S24) : S24 := if a = 3 then not_val m else if a = 4 then join_val 4 m else if a = 5 then join_val 5 m else if a = 6 then least_val c m else ⟨a, b, c, l⟩
mutual
/-- What flat.made answers. -/
def made_val : S24 → S24
  | ⟨a, b, c, l⟩ => node_val a b c l (made_vals l)
def made_vals : List S24 → List S24
  | [] => []
  | x :: l => made_val x :: made_vals l
end
theorem made_vals_eq : ∀ l, made_vals l = l.map made_val
  | [] => rfl
  | x :: l => by simp only [made_vals, List.map_cons, made_vals_eq l]
theorem made_val_eq (a b c : Int) (l : List S24) : made_val ⟨a, b, c, l⟩ = node_val a b c l (l.map made_val) := by
  simp only [made_val, made_vals_eq]

def join_fit (kd : Int) (m : List S24) : Bool := decide ((flatL kd (m.filter fun x => x.f0 != 1)).length < 2932031007402)
def not_fit (m : List S24) : Bool := decide (0 < m.length) && (if (rd_T24 m 0).f0 = 3 then decide (0 < (rd_T24 m 0).f3.length) else true)
def node_fit (a : Int) (m : List S24) : Bool := if a = 3 then not_fit m else if a = 4 then join_fit 4 m else if a = 5 then join_fit 5 m else if a = 6 then (join_fit 4 (m.filter fun x => x.f0 != 1) && join_fit 5 (m.filter fun x => x.f0 != 1)) else true
mutual
/-- The tree has the form that made asks for, and its lists fit. -/
def made_fit : S24 → Bool
  | ⟨a, b, c, l⟩ => decide (l.length < 2932031007402) && made_fits l && node_fit a (made_vals l)
def made_fits : List S24 → Bool
  | [] => true
  | x :: l => made_fit x && made_fits l
end
theorem made_fits_mem : ∀ {l : List S24}, made_fits l = true → ∀ x ∈ l, made_fit x = true
  | [], _, x, hx => by simp at hx
  | y :: l, h, x, hx => by
    simp only [made_fits, Bool.and_eq_true] at h
    rcases List.mem_cons.1 hx with rfl | hx
    · exact h.1
    · exact made_fits_mem h.2 x hx
theorem made_fits_of : ∀ {l : List S24}, (∀ x ∈ l, made_fit x = true) → made_fits l = true
  | [], _ => rfl
  | y :: l, h => by
    simp only [made_fits, Bool.and_eq_true]
    exact ⟨h y (List.mem_cons_self ..), made_fits_of fun x hx => h x (List.mem_cons_of_mem _ hx)⟩
theorem made_fit_eq (a b c : Int) (l : List S24) : made_fit ⟨a, b, c, l⟩ = (decide (l.length < 2932031007402) && made_fits l && node_fit a (l.map made_val)) := by
  simp only [made_fit, made_vals_eq]

end Go.Proofs.YtphegiohkggddaaDoor.PF
