/- What a host types: the program's and the reference's. -/
import Derived.Test.YtggbkpkapkcoeaaDoorExactTypedTextP49
import Derived.Test.YtggbkpkapkcoeaaDoorExactTypedTextF13
namespace Go.Kb
set_option maxRecDepth 100000

theorem NewKeys_s (N : Nat) (hN : 1048576 < N) (a b : Rpt) (ha : smallR a) (hb : smallR b) : spec_NewKeys.F N (a, b) = some (nk a b) := by
  obtain ⟨q, _, e1, e2⟩ := NewKeys_same N hN a b ha hb
  rw [NewKeys_eq N hN a b ha hb] at e2
  rw [e1, ← e2]

theorem TypedS_2 (N n1 : Nat) (hN : 200 ≤ N) (l : List Rpt) (i : Nat) (hi : i < l.length) (hl : l.length ≤ 1048576) (q : List Int) (a0 : Int) (a1 : List Int) (hq : q.length ≤ 1048576) : ∀ (n j : Nat) (out : List UInt8), j ≤ q.length → q.length < n + j → out.length + (q.length - j) ≤ 1099511627776 →
    spec_TypedText.L2 N n1 n l out (i : Int) q (j : Int) a0 a1 = spec_TypedText.L1 N n1 l (out ++ tx (l.getD i (0, [])).1 (q.drop j)) ((i + 1 : Nat) : Int) (l.getD i (0, [])).1 (l.getD i (0, [])).2 := by
  have wi : IntKind.wrap .i64 ((i : Int) + 1) = ((i + 1 : Nat) : Int) := wrap_succ (by omega)
  intro n
  induction n with
  | zero => intro j out h1 h2; omega
  | succ n ih =>
    intro j out h1 h2 h3
    rw [spec_TypedText.L2_eq]
    by_cases hj : j < q.length
    · have ws : IntKind.wrap .i64 ((j : Int) + 1) = ((j + 1 : Nat) : Int) := wrap_succ (by omega)
      have hc := ch_len (q.getD j 0) (l.getD i (0, [])).1
      have hm : out.length + (ch (q.getD j 0) (l.getD i (0, [])).1).length ≤ maxN := by unfold maxN; omega
      rw [drop_cons 0 q j hj]
      simp only [Int.ofNat_lt, hi, hj, decide_true, condT, bindV, inRange_nat, nth_nat, ws, CharOf_n N hN, hm]
      rw [ih (j + 1) _ (by omega) (by omega) (by rw [List.length_append]; omega)]
      unfold tx
      rw [List.flatMap_cons, List.append_assoc]
    · rw [List.drop_eq_nil_of_le (by omega)]
      simp only [Int.ofNat_lt, hi, hj, decide_true, decide_false, condT, condF, inRange_nat, nth_nat, wi]
      simp [tx]
theorem TypedS_1 (N : Nat) (hN : 1048576 < N) (l : List Rpt) (hl : smallRS l) : ∀ (n i : Nat) (out : List UInt8) (a : Rpt), i ≤ l.length → l.length < n + i → smallR a → out.length ≤ 1048576 * i →
    spec_TypedText.L1 N n l out (i : Int) a.1 a.2 = some (out ++ typed a (l.drop i)) := by
  have hll := hl.1
  intro n
  induction n with
  | zero => intro i out a h1 h2; omega
  | succ n ih =>
    intro i out a h1 h2 h3 h4
    rw [spec_TypedText.L1_eq]
    by_cases hi : i < l.length
    · have hsm := hl.2 _ (nth_mem (0, []) l i hi)
      have hsm' : (l.getD i (0, [])).2.length ≤ 1048576 := hsm
      have hnl := nk_len a (l.getD i (0, []))
      have hnk : spec_NewKeys.F N ((a.1, a.2), l.getD i (0, [])) = some (nk a (l.getD i (0, []))) := NewKeys_s N hN a _ h3 hsm
      have htl := tx_len (l.getD i (0, [])).1 (nk a (l.getD i (0, [])))
      have h2 := TypedS_2 N n (by omega) l i hi hll (nk a (l.getD i (0, []))) a.1 a.2 (by omega) N 0 out (by omega) (by omega) (by omega)
      rw [Int.natCast_zero, List.drop_zero] at h2
      rw [drop_cons (0, []) l i hi]
      simp only [Int.ofNat_lt, hi, decide_true, condT, inRange_nat, nth_nat, hnk, bindV]
      rw [h2, ih (i + 1) _ _ (by omega) (by omega) hsm (by rw [List.length_append]; omega), typed, List.append_assoc]
    · rw [List.drop_eq_nil_of_le (by omega)]
      simp only [Int.ofNat_lt, hi, decide_false, condF, typed, List.append_nil]
theorem TypedText_s (N : Nat) (hN : 1048576 < N) (a : Rpt) (ha : smallR a) (l : List Rpt) (hl : smallRS l) : spec_TypedText.F N (a, l) = some (typed a l) := by
  have e := TypedS_1 N hN l hl N 0 [] a (by omega) (by have := hl.1; omega) ha (by simp)
  rw [Int.natCast_zero, List.drop_zero, List.nil_append] at e
  rw [spec_TypedText.F_eq]; exact e

theorem ExactTyped_F (a : Rpt) (l : List Rpt) (ha : a.2.length ≤ maxLen) (hl : l.length ≤ maxLen ∧ ∀ x ∈ l, x.2.length ≤ maxLen) : laws_FnExactTypedText.F 2000000 (a, l) = some true := by
  rw [laws_FnExactTypedText.F_eq]
  obtain ⟨r, e, r0, r1, r2⟩ := szReport_eq 2000000 a 1048576 ha (by omega) (by omega)
  rw [e, bindV]
  by_cases hr : r < 0
  · rw [decide_eq_true hr]; rfl
  · rw [decide_eq_false hr, condF]
    obtain ⟨s, e2, s0, s1, s2⟩ := szReportS_eq 2000000 (by omega) l r hl (by omega) (by omega)
    rw [e2, bindV]
    by_cases hs : s < 0
    · rw [decide_eq_true hs]; rfl
    · rw [decide_eq_false hs, condF]
      have sa := r2 (by omega)
      have sl := s2 (by omega)
      have q1 := toReport_eq 2000000 (by omega) a sa
      have q2 := toReportS_eq 2000000 (by omega) l sl
      have q3 := TypedText_s 2000000 (by omega) a sa l sl
      have q4 := TypedText_big 2000000 (by omega) a sa l sl
      have q5 := eqReport_eq 2000000 (by omega) a a sa
      have q6 := eqReportS_eq 2000000 (by omega) l l sl
      rw [decide_eq_true rfl] at q5 q6
      simp only [q1, q2, q3, q4, q5, q6, bindV, beq_self_eq_true, notT, condF]
end Go.Kb
