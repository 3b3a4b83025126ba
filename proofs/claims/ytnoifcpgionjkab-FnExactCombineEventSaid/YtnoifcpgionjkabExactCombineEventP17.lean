/- A new combiner. -/
import Derived.Test.YtnoifcpgionjkabExactCombineEventP16
namespace Go.Kb

theorem getD_set {α : Type} (o : List α) (k : Nat) (v d : α) (h : k < o.length) : (o.set k v).getD k d = v := by
  rw [List.getD_eq_getElem?_getD, List.getElem?_set_self h]; rfl
theorem getD_set_ne {α : Type} (o : List α) (j k : Nat) (v d : α) (h : j ≠ k) : (o.set k v).getD j d = o.getD j d := by
  rw [List.getD_eq_getElem?_getD, List.getD_eq_getElem?_getD, List.getElem?_set_ne (by omega)]

theorem marksC_L1 (N : Nat) : ∀ (n k : Nat) (c : Int) (o : List Cb), o.length ≤ maxN → k ≤ o.length → o.length < n + k → 0 ≤ c → c + 2 * (o.length - k) ≤ 4611686018427387904 →
    ∃ c' o', laws_markComboS.L1 N n c (k : Int) o = some (c', o') ∧ o'.length = o.length ∧ (∀ j, j < k → o'.getD j (0, 0) = o.getD j (0, 0)) ∧ c ≤ c' ∧ c' ≤ c + 2 * (o.length - k : Nat) ∧ laws_heldComboS.L1 N n o' c (k : Int) = some c' := by
  intro n
  induction n with
  | zero => intro k c o h1 h0 h2 h3 h4; omega
  | succ n ih =>
    intro k c o h1 h0 h2 h3 h4
    unfold maxN at h1
    rw [laws_markComboS.L1_eq]
    by_cases hk : k < o.length
    · have w1 : IntKind.wrap .i64 (c + 1) = c + 1 := wrap64 (by omega) (by omega)
      have w2 : IntKind.wrap .i64 (c + 1 + 1) = c + 2 := by rw [wrap64 (by omega) (by omega)]; omega
      have ws : IntKind.wrap .i64 ((k : Int) + 1) = ((k + 1 : Nat) : Int) := wrap_succ (by omega)
      simp only [Int.ofNat_lt, hk, decide_true, condT, inRange_nat, Int.toNat_natCast, List.length_set, w1, w2, ws, getD_set o k _ _ hk, List.set_set]
      obtain ⟨c', o', e1, e2, e3, e4, e5, e6⟩ := ih (k + 1) (c + 2) (o.set k (c, c + 1)) (by unfold maxN; simp; omega) (by simp; omega) (by simp; omega) (by omega) (by simp; omega)
      simp only [List.length_set] at e2 e5
      refine ⟨c', o', e1, e2, fun j hj => ?_, by omega, by omega, ?_⟩
      · rw [e3 j (by omega), getD_set_ne _ _ _ _ _ (by omega)]
      · rw [laws_heldComboS.L1_eq]
        have hk' : k < o'.length := by omega
        have hg : o'.getD k (0, 0) = (c, c + 1) := by rw [e3 k (by omega), getD_set _ _ _ _ hk]
        simp only [Int.ofNat_lt, hk', decide_true, condT, inRange_nat, nth_nat, hg, bne_self_eq_false, condF, w1, w2, ws]
        exact e6
    · refine ⟨c, o, ?_, rfl, fun j _ => rfl, by omega, by omega, ?_⟩
      · simp only [Int.ofNat_lt, hk, decide_false, condF]
      · rw [laws_heldComboS.L1_eq]
        simp only [Int.ofNat_lt, hk, decide_false, condF]

theorem marksC_eq (N : Nat) (a : List Cb) (c : Int) (h : a.length < N) (hm : a.length ≤ maxN) (h0 : 0 ≤ c) (h1 : c ≤ 1152921504606846976) :
    ∃ c' o', laws_markComboS.F N (a, c) = some (c', o') ∧ c ≤ c' ∧ c' ≤ c + 2 * a.length ∧ laws_heldComboS.F N (o', c) = some c' ∧ o'.length = a.length := by
  rw [laws_markComboS.F_eq]
  obtain ⟨c', o', e1, e2, e3, e4, e5, e6⟩ := marksC_L1 N N 0 c a hm (by omega) (by omega) h0 (by unfold maxN at hm; omega)
  exact ⟨c', o', e1, e4, by omega, by rw [laws_heldComboS.F_eq]; exact e6, e2⟩

theorem toComboS_eq (N : Nat) (a : List Cb) (h : a.length < N) (hm : a.length ≤ maxN) : laws_toComboS.F N a = some a := by
  rw [laws_toComboS.F_eq, lenOk hm, condT]
  exact toLoop (0, 0) (fun n a i o => laws_toComboS.L1 N n a i o) (fun x => laws_toCombo.F N x) a (fun n i o => laws_toComboS.L1_eq N n a i o) (fun x _ => laws_toCombo.F_eq N x) N 0 _ hm (by simp) (by omega) (by omega) (by simp)

theorem eqCombo_eq (N : Nat) (a b : Cb) : laws_eqCombo.F N (a, b) = some (decide (a = b)) := by
  rw [laws_eqCombo.F_eq]
  obtain ⟨x, y⟩ := a
  obtain ⟨z, w⟩ := b
  by_cases h1 : x = z
  · by_cases h2 : y = w
    · simp [h1, h2]
    · have : (y != w) = true := by rw [bneI]; simp only [h2, decide_false, notF]
      simp [h1, h2, this]
  · have : (x != z) = true := by rw [bneI]; simp only [h1, decide_false, notF]
    simp [h1, this]

theorem eqComboS_eq (N : Nat) (a b : List Cb) (h : a.length < N) (hm : a.length ≤ maxN) : laws_eqComboS.F N (a, b) = some (decide (a = b)) := by
  rw [laws_eqComboS.F_eq]
  by_cases hl : a.length = b.length
  · have : ((a.length : Int) != (b.length : Int)) = false := by simp [hl]
    rw [this, condF]
    have := eqLoop (0, 0) (fun n a b i => laws_eqComboS.L1 N n a b i) (fun x => laws_eqCombo.F N x) a b (fun n i => laws_eqComboS.L1_eq N n a b i) (fun x _ y => eqCombo_eq N x y) N 0 hm hl.symm (by omega) (by omega)
    simpa using this
  · have h1 : ((a.length : Int) != (b.length : Int)) = true := by simp; omega
    have h2 : a ≠ b := fun e => hl (by rw [e])
    rw [h1, condT]
    simp [h2]

/-! ### an idle combiner -/
abbrev Cm := List Cb × Int × List (Int × Int × Bool) × Int × Int × Int × List (Int × Int × Bool)
def idle (l : List Cb) (t : Int) : Cm := (l, t, [], 0, 0, 0, [])

end Go.Kb
