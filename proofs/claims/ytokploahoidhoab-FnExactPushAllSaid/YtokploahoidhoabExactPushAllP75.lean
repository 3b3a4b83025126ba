/- Reports as values: keys, new keys, what may be dropped. -/
import Derived.Test.YtokploahoidhoabExactPushAllP14
namespace Go.Kb
set_option maxRecDepth 100000

theorem hasInt_L1 (N : Nat) (x : Int) (l : List Int) (hl : l.length ≤ 1048576) : ∀ (n i : Nat), i ≤ l.length → l.length < n + i →
    impl_hasInt.L1 N n x l (l.length : Int) (i : Int) = some ((l.drop i).contains x) := by
  intro n
  induction n with
  | zero => intro i h1 h2; omega
  | succ n ih =>
    intro i h1 h2
    rw [impl_hasInt.L1_eq]
    by_cases hi : i < l.length
    · have ws : IntKind.wrap .i64 ((i : Int) + 1) = ((i + 1 : Nat) : Int) := wrap_succ (by omega)
      have hb : (x == l.getD i 0) = (l.getD i 0 == x) := Bool.beq_comm
      rw [drop_cons 0 l i hi, List.contains_cons, hb]
      simp only [Int.ofNat_lt, hi, decide_true, condT, inRange_nat, nth_nat, ws, ih (i + 1) (by omega) (by omega)]
      cases l.getD i 0 == x with
      | true => simp only [condT, Bool.true_or]
      | false => simp only [condF, Bool.false_or]
    · rw [List.drop_eq_nil_of_le (by omega)]
      simp only [Int.ofNat_lt, hi, decide_false, condF]
      rfl
theorem hasInt_eq (N : Nat) (hN : 1048576 < N) (l : List Int) (x : Int) (hl : l.length ≤ 1048576) : impl_hasInt.F N (l, x) = some (l.contains x) := by
  rw [impl_hasInt.F_eq]
  exact hasInt_L1 N x l hl N 0 (by omega) (by omega)

def okK : Int → List Int → Bool
  | _, [] => true
  | p, x :: r => decide (1 ≤ x ∧ x ≤ 56) && (decide (p < x) && okK x r)
def rpB (r : Rpt) : Bool := decide (0 ≤ r.1 ∧ r.1 ≤ 15) && okK 0 r.2
theorem okK_cons (p x : Int) (r : List Int) : okK p (x :: r) = (decide (1 ≤ x ∧ x ≤ 56) && (decide (p < x) && okK x r)) := rfl
def prevK (l : List Int) (i : Nat) : Int := if i = 0 then 0 else l.getD (i - 1) 0

theorem IsReport_v (N : Nat) (m : Int) (l : List Int) (hl : l.length ≤ 1048576) : ∀ (n i : Nat), i ≤ l.length → l.length < n + i →
    impl_IsReport.L1 N n l (l.length : Int) (i : Int) m l = some (okK (prevK l i) (l.drop i)) := by
  intro n
  induction n with
  | zero => intro i h1 h2; omega
  | succ n ih =>
    intro i h1 h2
    rw [impl_IsReport.L1_eq]
    by_cases hi : i < l.length
    · have ws : IntKind.wrap .i64 ((i : Int) + 1) = ((i + 1 : Nat) : Int) := wrap_succ (by omega)
      have hpk : prevK l (i + 1) = l.getD i 0 := by unfold prevK; rw [if_neg (by omega), Nat.add_sub_cancel]
      rw [drop_cons 0 l i hi, okK_cons]
      simp only [Int.ofNat_lt, hi, decide_true, condT, inRange_nat, nth_nat, isCode_eq, bindV, ws, ih (i + 1) (by omega) (by omega), hpk]
      by_cases hc : 1 ≤ l.getD i 0 ∧ l.getD i 0 ≤ 56
      · rw [decide_eq_true hc]
        simp only [notT, condF, Bool.true_and]
        by_cases h0 : (i : Int) > 0
        · have wp : IntKind.wrap .i64 ((i : Int) - 1) = ((i - 1 : Nat) : Int) := by rw [wrap64 (by omega) (by omega)]; omega
          have hp : i - 1 < l.length := by omega
          have hq : prevK l i = l.getD (i - 1) 0 := by unfold prevK; rw [if_neg (by omega)]
          simp only [h0, decide_true, condT, wp, inRange_nat, hp, nth_nat, hq]
          by_cases hlt : l.getD (i - 1) 0 < l.getD i 0
          · rw [decide_eq_true hlt, decide_eq_false (by omega)]; simp only [condF, Bool.true_and]
          · rw [decide_eq_false hlt, decide_eq_true (by omega)]; simp only [condT, Bool.false_and]
        · have hq : prevK l i = 0 := by unfold prevK; rw [if_pos (by omega)]
          rw [hq, decide_eq_true (by omega : (0 : Int) < l.getD i 0)]
          simp only [h0, decide_false, condF, Bool.true_and]
      · rw [decide_eq_false hc]
        simp only [notF, condT, Bool.false_and]
    · rw [List.drop_eq_nil_of_le (by omega)]
      simp only [Int.ofNat_lt, hi, decide_false, condF]
      rfl
theorem IsReport_eq (N : Nat) (hN : 1048576 < N) (r : Rpt) (h : smallR r) : impl_IsReport.F N r = some (rpB r) := by
  unfold smallR at h
  have e1 := IsReport_v N r.1 r.2 h N 0 (by omega) (by omega)
  rw [Int.natCast_zero, List.drop_zero] at e1
  have e0 : prevK r.2 0 = 0 := rfl
  rw [impl_IsReport.F_eq, e1, e0]
  unfold rpB
  by_cases a : r.1 < 0
  · have q : ¬ (0 ≤ r.1 ∧ r.1 ≤ 15) := by omega
    simp only [a, q, decide_true, decide_false, condT, Bool.false_and]
  · by_cases c : r.1 > 15
    · have q : ¬ (0 ≤ r.1 ∧ r.1 ≤ 15) := by omega
      simp only [a, c, q, decide_true, decide_false, condT, condF, Bool.false_and]
    · have q : 0 ≤ r.1 ∧ r.1 ≤ 15 := by omega
      rw [decide_eq_true q]
      simp only [a, c, decide_false, condF, Bool.true_and]

def newK (l1 l2 : List Int) : List Int := l2.filter fun k => !l1.contains k
def nk (a b : Rpt) : List Int := bif rpB a && rpB b then newK a.2 b.2 else []
theorem newK_len (l1 l2 : List Int) : (newK l1 l2).length ≤ l2.length := List.length_filter_le _ _
theorem nk_len (a b : Rpt) : (nk a b).length ≤ b.2.length := by
  unfold nk
  cases rpB a && rpB b
  · exact Nat.zero_le _
  · exact newK_len _ _

theorem NewKeys_v (N : Nat) (hN : 1048576 < N) (m1 : Int) (l1 l2 : List Int) (h1 : l1.length ≤ 1048576) (h2 : l2.length ≤ 1048576) :
    ∀ (n i : Nat) (o : List Int), i ≤ l2.length → l2.length < n + i → o.length ≤ i →
    impl_NewKeys.L1 N n l2 (l2.length : Int) (i : Int) m1 l1 o = some (o ++ newK l1 (l2.drop i)) := by
  intro n
  induction n with
  | zero => intro i o h3 h4; omega
  | succ n ih =>
    intro i o h3 h4 h5
    rw [impl_NewKeys.L1_eq]
    by_cases hi : i < l2.length
    · have ws : IntKind.wrap .i64 ((i : Int) + 1) = ((i + 1 : Nat) : Int) := wrap_succ (by omega)
      have hm : o.length + List.length ([l2.getD i 0] : List Int) ≤ maxN := by simp only [maxN, List.length_cons, List.length_nil]; omega
      rw [drop_cons 0 l2 i hi]
      simp only [Int.ofNat_lt, hi, decide_true, condT, bindV, inRange_nat, nth_nat, ws, hasInt_eq N hN l1 _ h1, hm]
      cases hb : l1.contains (l2.getD i 0) with
      | true =>
        simp only [notT, condF]
        rw [ih (i + 1) o (by omega) (by omega) (by omega)]
        simp only [newK, List.filter_cons, hb, Bool.not_true]
        rfl
      | false =>
        simp only [notF, condT]
        rw [ih (i + 1) _ (by omega) (by omega) (by simp only [List.length_append, List.length_cons, List.length_nil]; omega)]
        simp only [newK, List.filter_cons, hb, Bool.not_false, if_true, List.append_assoc, List.singleton_append]
    · rw [List.drop_eq_nil_of_le (by omega)]
      simp only [Int.ofNat_lt, hi, decide_false, condF, newK, List.filter_nil, List.append_nil]
theorem NewKeys_eq (N : Nat) (hN : 1048576 < N) (a b : Rpt) (ha : smallR a) (hb : smallR b) : impl_NewKeys.F N (a, b) = some (nk a b) := by
  rw [impl_NewKeys.F_eq, IsReport_eq N hN a ha, bindV, IsReport_eq N hN b hb, bindV]
  unfold nk
  cases rpB a with
  | false => rfl
  | true =>
    cases rpB b with
    | false => rfl
    | true =>
      have e := NewKeys_v N hN a.1 a.2 b.2 ha hb N 0 [] (by omega) (by unfold smallR at hb; omega) (by simp)
      rw [Int.natCast_zero, List.drop_zero, List.nil_append] at e
      simp only [notT, condF, Bool.and_true, condT]
      exact e

/-! ### may a report be left out? -/
theorem MayDrop_v (N : Nat) (hN : 1048576 < N) (m : Int) (l g : List Int) (hl : l.length ≤ 1048576) (hg : g.length ≤ 1048576) : ∀ (n i : Nat), i ≤ g.length → g.length < n + i →
    impl_MayDrop.L1 N n g (g.length : Int) (i : Int) m l = some (!(g.drop i).any fun k => l.contains k) := by
  intro n
  induction n with
  | zero => intro i h1 h2; omega
  | succ n ih =>
    intro i h1 h2
    rw [impl_MayDrop.L1_eq]
    by_cases hi : i < g.length
    · have ws : IntKind.wrap .i64 ((i : Int) + 1) = ((i + 1 : Nat) : Int) := wrap_succ (by omega)
      rw [drop_cons 0 g i hi, List.any_cons]
      simp only [Int.ofNat_lt, hi, decide_true, condT, inRange_nat, nth_nat, ws, bindV, hasInt_eq N hN l _ hl, ih (i + 1) (by omega) (by omega)]
      cases l.contains (g.getD i 0) with
      | true => simp only [condT, Bool.true_or, Bool.not_true]
      | false => simp only [condF, Bool.false_or]
    · rw [List.drop_eq_nil_of_le (by omega)]
      simp only [Int.ofNat_lt, hi, decide_false, condF, List.any_nil, Bool.not_false]
def mdB (a b c : Rpt) : Bool := rpB a && (rpB b && (rpB c && ((bitAnd .i64 (bitXor .i64 a.1 b.1) (bitXor .i64 b.1 c.1) == 0) && ((nk a b).isEmpty && !(nk b a).any fun k => c.2.contains k))))
theorem MayDrop_eq (N : Nat) (hN : 1048576 < N) (a b c : Rpt) (ha : smallR a) (hb : smallR b) (hc : smallR c) : impl_MayDrop.F N (a, b, c) = some (mdB a b c) := by
  have hl := nk_len b a
  have e := MayDrop_v N hN c.1 c.2 (nk b a) hc (by unfold smallR at ha; omega) N 0 (by omega) (by unfold smallR at ha; omega)
  rw [Int.natCast_zero, List.drop_zero] at e
  rw [impl_MayDrop.F_eq, IsReport_eq N hN a ha, IsReport_eq N hN b hb, IsReport_eq N hN c hc, NewKeys_eq N hN a b ha hb, NewKeys_eq N hN b a hb ha]
  simp only [bindV]
  rw [e]
  unfold mdB
  cases rpB a with
  | false => rfl
  | true =>
    cases rpB b with
    | false => rfl
    | true =>
      cases rpB c with
      | false => rfl
      | true =>
        simp only [notT, condF, Bool.true_and]
        generalize bitAnd .i64 (bitXor .i64 a.1 b.1) (bitXor .i64 b.1 c.1) = z
        by_cases hz : z = 0
        · subst hz
          simp only [bne_self_eq_false, condF, beq_self_eq_true, Bool.true_and]
          cases hq : nk a b with
          | nil => rfl
          | cons x r => rw [decide_eq_true (by simp)]; rfl
        · have : (z != 0) = true := by rw [bneI, decide_eq_false hz]; rfl
          have h2 : (z == 0) = false := by rw [beqI, decide_eq_false hz]
          rw [this, h2]; rfl

end Go.Kb
