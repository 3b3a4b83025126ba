/- The reference's characters, at any greater bound on the steps. -/
import Derived.Test.YtggbkpkapkcoeaaDoorExactTypedTextP43
import Derived.Test.YtggbkpkapkcoeaaDoorExactTypedTextP44
namespace Go.Kb
set_option maxRecDepth 100000
theorem bif_mono {α : Type} {b : Bool} {x x' y y' : Option α} {r : α} (h1 : x = some r → x' = some r) (h2 : y = some r → y' = some r) (h : (bif b then x else y) = some r) : (bif b then x' else y') = some r := by
  cases b
  · exact h2 h
  · exact h1 h
theorem sp_mono (s : List UInt8) (by_ : Int) (r : List (List UInt8)) : ∀ (n : Nat) (f i : Int) (o : List (List UInt8)), sp s by_ n f i o = some r → sp s by_ (n + 1) f i o = some r := by
  intro n
  induction n with
  | zero => intro f i o h; cases h
  | succ n ih =>
    intro f i o h
    rw [sp] at h ⊢
    revert h
    refine bif_mono (bif_mono (bif_mono (bif_mono (ih _ _ _) id) id) (bif_mono (bif_mono (bif_mono (bif_mono (ih _ _ _) id) id) (ih _ _ _)) id)) id
theorem sp_le (s : List UInt8) (by_ : Int) (r : List (List UInt8)) (f i : Int) (o : List (List UInt8)) (n : Nat) : ∀ k : Nat, sp s by_ n f i o = some r → sp s by_ (n + k) f i o = some r
  | 0, h => h
  | k + 1, h => sp_mono s by_ r (n + k) f i o (sp_le s by_ r f i o n k h)
theorem l5Names_n (N : Nat) (hN : 200 ≤ N) : spec_l5Names.F N () = some tblNames := by
  have h : spec_SplitText.F N (codeNames, 32) = some tblNames := by
    rw [spec_SplitText.F_eq, sp_eq]
    obtain ⟨k, rfl⟩ : ∃ k, N = 200 + k := ⟨N - 200, by omega⟩
    exact sp_le _ _ _ _ _ _ 200 k spNames
  rw [spec_l5Names.F_eq]
  exact (congrArg (fun z => bindO z fun r1 => some r1) h)
theorem CodeName_n (N : Nat) (hN : 200 ≤ N) (c : Int) : spec_CodeName.F N c = some (cn c) := by
  rw [spec_CodeName.F_eq, l1In_eq, bindO_val, l5Names_n N hN]
  unfold cn inn
  by_cases h : 1 ≤ c ∧ c ≤ 56
  · obtain ⟨k, rfl⟩ : ∃ k : Nat, c = (k : Int) + 1 := ⟨(c - 1).toNat, by omega⟩
    have hk : k < 56 := by omega
    have e : (k : Int) + 1 - 1 = (k : Int) := by omega
    have w : IntKind.wrap .i64 ((k : Int)) = (k : Int) := wrap64 (by omega) (by omega)
    have hl : tblNames.length = 56 := rfl
    have d1 : decide (1 ≤ (k : Int) + 1 ∧ (k : Int) + 1 ≤ 56) = true := decide_eq_true h
    have d2 : (decide (1 ≤ (k : Int) + 1) && decide ((k : Int) + 1 ≤ 56)) = true := by rw [decide_eq_true h.1, decide_eq_true h.2]; rfl
    rw [d1, d2, bindO_val, e, w, hl, inRange_nat, decide_eq_true hk]
    rfl
  · have d1 : decide (1 ≤ c ∧ c ≤ 56) = false := decide_eq_false h
    have d2 : (decide (1 ≤ c) && decide (c ≤ 56)) = false := by
      rw [Bool.and_eq_false_iff, decide_eq_false_iff_not, decide_eq_false_iff_not]; omega
    rw [d1, d2]
    rfl
theorem CharOf_n (N : Nat) (hN : 200 ≤ N) (c m : Int) : spec_CharOf.F N (c, m) = some (ch c m) := by
  refine Eq.trans ?_ (char_same c m).1
  rw [spec_CharOf.F_eq]
  simp only [l1In_eq, CodeName_n N hN]
  rfl

theorem Typed_big2 (N n1 : Nat) (l : List Rpt) (tl t12 : Int) (q : List Int) (a0 : Int) (a1 : List Int) (m : Int) (ks : List Int) (hq : q.length ≤ 1048576) : ∀ (n i : Nat) (out : List UInt8), i ≤ q.length → q.length < n + i → out.length + (q.length - i) ≤ 1099511627776 →
    impl_TypedText.L2 N n1 n out l tl t12 q (q.length : Int) (i : Int) a0 a1 m ks = impl_TypedText.L1 N n1 (out ++ tx m (q.drop i)) l tl (IntKind.wrap .i64 (t12 + 1)) m ks := by
  intro n
  induction n with
  | zero => intro i out h1 h2; omega
  | succ n ih =>
    intro i out h1 h2 h3
    rw [impl_TypedText.L2_eq]
    by_cases hi : i < q.length
    · have ws : IntKind.wrap .i64 ((i : Int) + 1) = ((i + 1 : Nat) : Int) := wrap_succ (by omega)
      have hc := ch_len (q.getD i 0) m
      have hm : out.length + (ch (q.getD i 0) m).length ≤ maxN := by unfold maxN; omega
      rw [drop_cons 0 q i hi]
      simp only [Int.ofNat_lt, hi, decide_true, condT, bindV, inRange_nat, nth_nat, ws, CharOf_i, hm]
      rw [ih (i + 1) _ (by omega) (by omega) (by rw [List.length_append]; omega)]
      unfold tx
      rw [List.flatMap_cons, List.append_assoc]
    · rw [List.drop_eq_nil_of_le (by omega)]
      simp only [Int.ofNat_lt, hi, decide_false, condF]
      simp [tx]
theorem Typed_big1 (N : Nat) (hN : 1048576 < N) (l : List Rpt) (hl : smallRS l) : ∀ (n i : Nat) (out : List UInt8) (a : Rpt), i ≤ l.length → l.length < n + i → smallR a → out.length ≤ 1048576 * i →
    impl_TypedText.L1 N n out l (l.length : Int) (i : Int) a.1 a.2 = some (out ++ typed a (l.drop i)) := by
  have hll := hl.1
  intro n
  induction n with
  | zero => intro i out a h1 h2; omega
  | succ n ih =>
    intro i out a h1 h2 h3 h4
    rw [impl_TypedText.L1_eq]
    by_cases hi : i < l.length
    · have ws : IntKind.wrap .i64 ((i : Int) + 1) = ((i + 1 : Nat) : Int) := wrap_succ (by omega)
      have hsm := hl.2 _ (nth_mem (0, []) l i hi)
      generalize hrr : l.getD i (0, []) = r at *
      have hnl := nk_len a r
      have hsm' : r.2.length ≤ 1048576 := hsm
      have hnk : impl_NewKeys.F N ((a.1, a.2), r) = some (nk a r) := NewKeys_eq N hN a r h3 hsm
      have htl := tx_len r.1 (nk a r)
      rw [drop_cons (0, []) l i hi, hrr]
      simp only [Int.ofNat_lt, hi, decide_true, condT, inRange_nat, nth_nat, hrr, hnk, bindV]
      have h2 := Typed_big2 N n l (l.length : Int) (i : Int) (nk a r) a.1 a.2 r.1 r.2 (by omega) N 0 out (by omega) (by omega) (by omega)
      rw [Int.natCast_zero, List.drop_zero] at h2
      rw [h2, ws, ih (i + 1) _ r (by omega) (by omega) hsm (by rw [List.length_append]; omega), typed, List.append_assoc]
    · rw [List.drop_eq_nil_of_le (by omega)]
      simp only [Int.ofNat_lt, hi, decide_false, condF, typed, List.append_nil]
theorem TypedText_big (N : Nat) (hN : 1048576 < N) (a : Rpt) (ha : smallR a) (l : List Rpt) (hl : smallRS l) : impl_TypedText.F N (a, l) = some (typed a l) := by
  have e := Typed_big1 N hN l hl N 0 [] a (by omega) (by have := hl.1; omega) ha (by simp)
  rw [Int.natCast_zero, List.drop_zero, List.nil_append] at e
  rw [impl_TypedText.F_eq]; exact e
end Go.Kb
