/- A new combiner. -/
import Derived.Test.YtnoifcpgionjkaaCombinedP16
namespace Go.Kb

theorem getD_set {α : Type} (o : List α) (k : Nat) (v d : α) (h : k < o.length) : (o.set k v).getD k d = v := by
  rw [List.getD_eq_getElem?_getD, List.getElem?_set_self h]; rfl
/-! ### an idle combiner -/
abbrev Cm := List Cb × Int × List (Int × Int × Bool) × Int × Int × Int × List (Int × Int × Bool)
def idle (l : List Cb) (t : Int) : Cm := (l, t, [], 0, 0, 0, [])

theorem z00 : ((0 : Int) < ((0 : Nat) : Int)) = False := eq_false (by decide)

theorem IsC_spec (n : Nat) (l : List Cb) (t : Int) (b : Bool) (hb : spec_IsCombos.F (n + 1) l = some b) : spec_IsCombiner.F (n + 1) (idle l t) = some (b && decide (1 ≤ t ∧ t ≤ 200)) := by
  have hA : spec_l11Active.F (n + 1) (idle l t) = some true := by
    rw [spec_l11Active.F_eq, spec_l11Active.L1_eq]
    simp only [idle, List.length_nil, z00, decide_false, condF, l1In_eq, bindV]
    rfl
  have hH : spec_l11Held.F (n + 1) (idle l t) = some 0 := by
    rw [spec_l11Held.F_eq, spec_l11Held.L1_eq]
    simp only [idle, List.length_nil, z00, decide_false, condF]
  have hF : spec_l10Follows.F (n + 1) ([], 0, 24, 0) = some true := by
    rw [spec_l10Follows.F_eq, spec_l10Follows.L1_eq]
    simp only [List.length_nil, z00, decide_false, condF]
    rfl
  rw [spec_IsCombiner.F_eq, hA, hH]
  simp only [idle, hb, bindV, l1In_eq, hF]
  have q1 : decide ((0 : Int) ≤ 0 ∧ (0 : Int) ≤ 1000000) = true := by decide
  have q2 : decide ((0 : Int) ≤ 0 ∧ (0 : Int) ≤ 0) = true := by decide
  have q3 : ((((0 : Nat) : Int)) == 0) = true := by decide
  cases b with
  | false => simp only [notF, condT, Bool.false_and]
  | true =>
    simp only [notT, condF, Bool.true_and, q1, q2]
    cases decide (1 ≤ t ∧ t ≤ 200) with
    | false => simp only [notF, condT]
    | true => simp only [notT, condF, condT, List.length_nil, q3]

end Go.Kb
