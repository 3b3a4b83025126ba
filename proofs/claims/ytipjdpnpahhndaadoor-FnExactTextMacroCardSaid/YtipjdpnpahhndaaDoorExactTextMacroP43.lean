/- Keys of characters; texts as macros. -/
import Derived.Test.YtipjdpnpahhndaaDoorExactTextMacroP42
import Derived.Test.YtipjdpnpahhndaaDoorExactTextMacroP17
namespace Go.Kb
set_option maxRecDepth 100000
abbrev Step3 := Int × Int × Int
def fk (char m : Int) : Nat → Nat → Option (Int × Int)
  | 0, _ => none
  | n + 1, c => bif ch (c : Int) m == bytesOf [char] then some ((c : Int), m) else fk char m n (c + 1)
theorem fk_succ (char m : Int) (n c : Nat) : fk char m (n + 1) c = bif ch (c : Int) m == bytesOf [char] then some ((c : Int), m) else fk char m n (c + 1) := rfl

theorem KeyOf_sL2 (n1 : Nat) (char m : Int) : ∀ (j c n2 : Nat), c + j = 57 → j < n2 →
    spec_KeyOf.L2 200 n1 n2 char m (c : Int) = match fk char m j c with | some r => some r | none => spec_KeyOf.L1 200 n1 char (IntKind.wrap .i64 (m + 2)) := by
  intro j
  induction j with
  | zero =>
    intro c n2 h1 h2
    obtain ⟨n2, rfl⟩ : ∃ k, n2 = k + 1 := ⟨n2 - 1, by omega⟩
    rw [spec_KeyOf.L2_eq, decide_eq_false (by omega)]
    rfl
  | succ j ih =>
    intro c n2 h1 h2
    obtain ⟨n2, rfl⟩ : ∃ k, n2 = k + 1 := ⟨n2 - 1, by omega⟩
    rw [spec_KeyOf.L2_eq, decide_eq_true (by omega), condT, CharOf_s, bindV, wrap_succ (by omega), ih (c + 1) n2 (by omega) (by omega), fk_succ]
    cases ch (c : Int) m == bytesOf [char] <;> rfl

theorem KeyOf_iL2 (n1 : Nat) (char m t8 t9 : Int) (o : List Int) : ∀ (j c n2 : Nat), c + j = 57 → j < n2 →
    impl_KeyOf.L2 200 n1 n2 char m (c : Int) t8 t9 o = match fk char m j c with | some r => some r | none => impl_KeyOf.L1 200 n1 char t8 (IntKind.wrap .i64 (t9 + 1)) o := by
  intro j
  induction j with
  | zero =>
    intro c n2 h1 h2
    obtain ⟨n2, rfl⟩ : ∃ k, n2 = k + 1 := ⟨n2 - 1, by omega⟩
    rw [impl_KeyOf.L2_eq, decide_eq_false (by omega)]
    rfl
  | succ j ih =>
    intro c n2 h1 h2
    obtain ⟨n2, rfl⟩ : ∃ k, n2 = k + 1 := ⟨n2 - 1, by omega⟩
    rw [impl_KeyOf.L2_eq, decide_eq_true (by omega), condT, CharOf_i, bindV, wrap_succ (by omega), ih (c + 1) n2 (by omega) (by omega), fk_succ]
    cases ch (c : Int) m == bytesOf [char] <;> rfl

def ky (char : Int) : Int × Int := match fk char 0 56 1 with | some r => r | none => match fk char 2 56 1 with | some r => r | none => (0, 0)

theorem KeyOf_s' (char : Int) (n : Nat) : spec_KeyOf.L1 200 (n + 1 + 1 + 1) char 0 = some (ky char) := by
  rw [spec_KeyOf.L1_eq, decide_eq_true (by omega), condT]
  have h := KeyOf_sL2 (n + 1 + 1) char 0 56 1 200 (by omega) (by omega)
  refine h.trans ?_
  unfold ky
  cases fk char 0 56 1 with
  | some r => rfl
  | none =>
    simp only []
    have w : IntKind.wrap .i64 ((0 : Int) + 2) = 2 := wrap64 (by omega) (by omega)
    rw [w, spec_KeyOf.L1_eq, decide_eq_true (by omega), condT]
    have h := KeyOf_sL2 (n + 1) char 2 56 1 200 (by omega) (by omega)
    refine h.trans ?_
    cases fk char 2 56 1 with
    | some r => rfl
    | none =>
      simp only []
      have w : IntKind.wrap .i64 ((2 : Int) + 2) = 4 := wrap64 (by omega) (by omega)
      rw [w, spec_KeyOf.L1_eq, decide_eq_false (by omega), condF]

theorem KeyOf_s (char : Int) : spec_KeyOf.F 200 char = some (ky char) := by
  rw [spec_KeyOf.F_eq]
  exact KeyOf_s' char 197

theorem KeyOf_i' (char : Int) (n : Nat) : impl_KeyOf.L1 200 (n + 1 + 1 + 1) char 2 0 [0, 2] = some (ky char) := by
  have i0 : inRange 0 (List.length [(0 : Int), 2]) = true := by decide
  have i1 : inRange 1 (List.length [(0 : Int), 2]) = true := by decide
  have g0 : List.getD [(0 : Int), 2] (Int.toNat 0) 0 = 0 := by decide
  have g1 : List.getD [(0 : Int), 2] (Int.toNat 1) 0 = 2 := by decide
  rw [impl_KeyOf.L1_eq, decide_eq_true (by omega), condT, i0, condT, g0]
  have h := KeyOf_iL2 (n + 1 + 1) char 0 2 0 [0, 2] 56 1 200 (by omega) (by omega)
  refine h.trans ?_
  unfold ky
  cases fk char 0 56 1 with
  | some r => rfl
  | none =>
    simp only []
    have w : IntKind.wrap .i64 ((0 : Int) + 1) = 1 := wrap64 (by omega) (by omega)
    rw [w, impl_KeyOf.L1_eq, decide_eq_true (by omega), condT, i1, condT, g1]
    have h := KeyOf_iL2 (n + 1) char 2 2 1 [0, 2] 56 1 200 (by omega) (by omega)
    refine h.trans ?_
    cases fk char 2 56 1 with
    | some r => rfl
    | none =>
      simp only []
      have w : IntKind.wrap .i64 ((1 : Int) + 1) = 2 := wrap64 (by omega) (by omega)
      rw [w, impl_KeyOf.L1_eq, decide_eq_false (by omega), condF]

theorem KeyOf_i (char : Int) : impl_KeyOf.F 200 char = some (ky char) := by
  rw [impl_KeyOf.F_eq]
  exact KeyOf_i' char 197

/-! ### texts -/
theorem Text_L1 (s : List UInt8) (hs : s.length ≤ 8) : ∀ (n k : Nat) (o : List Step3), k ≤ s.length → o.length = k → s.length < n + k →
    ∃ r, spec_TextMacro.L1 200 n s (k : Int) o = some r ∧ impl_TextMacro.L1 200 n s (k : Int) o = some r ∧ r.1.length ≤ 8 := by
  intro n
  induction n with
  | zero => intro k o h1 h2 h3; omega
  | succ n ih =>
    intro k o h1 h2 h3
    rw [spec_TextMacro.L1_eq, impl_TextMacro.L1_eq]
    by_cases hk : k < s.length
    · rw [decide_eq_true (by omega : (k : Int) < (s.length : Int)), decide_eq_true (by omega : (s.length : Int) ≤ 8), inRange_nat, decide_eq_true hk]
      simp only [condT, KeyOf_s, KeyOf_i, bindV]
      generalize ky _ = q
      cases hq : q.1 == 0 with
      | true => exact ⟨_, rfl, rfl, by simp⟩
      | false =>
        have hm : decide (List.length o + List.length ([((0 : Int), q)] : List Step3) ≤ maxN) = true := decide_eq_true (by unfold maxN; simp; omega)
        rw [hm, wrap_succ (by omega)]
        exact ih (k + 1) _ (by omega) (by simp [h2]) (by omega)
    · rw [decide_eq_false (by omega : ¬ (k : Int) < (s.length : Int)), decide_eq_false (by omega : ¬ (s.length : Int) > 8)]
      exact ⟨_, rfl, rfl, by simp; omega⟩

theorem Text_same (s : List UInt8) : ∃ r, spec_TextMacro.F 200 s = some r ∧ impl_TextMacro.F 200 s = some r ∧ r.1.length ≤ 8 := by
  rw [spec_TextMacro.F_eq, impl_TextMacro.F_eq]
  by_cases hs : s.length ≤ 8
  · rw [decide_eq_false (by omega : ¬ (s.length : Int) > 8), condF]
    exact Text_L1 s hs 200 0 [] (by omega) rfl (by omega)
  · have h : ∀ n : Nat, spec_TextMacro.L1 200 (n + 1) s 0 [] = some ([], false) := by
      intro n
      rw [spec_TextMacro.L1_eq, decide_eq_true (by omega : (0 : Int) < (s.length : Int)), decide_eq_false (by omega : ¬ (s.length : Int) ≤ 8), decide_eq_true (by omega : (s.length : Int) > 8)]
      rfl
    rw [h 199, decide_eq_true (by omega : (s.length : Int) > 8)]
    exact ⟨_, rfl, rfl, by simp⟩

theorem marksS_L1 (N : Nat) : ∀ (n k : Nat) (c : Int) (o : List Step3), o.length ≤ 1000000 → k ≤ o.length → o.length < n + k → 0 ≤ c → c + 3 * (o.length - k) ≤ 4611686018427387904 →
    ∃ c' o', laws_markStepS.L1 N n c (k : Int) o = some (c', o') ∧ o'.length = o.length ∧ (∀ j, j < k → o'.getD j (0, 0, 0) = o.getD j (0, 0, 0)) ∧ c ≤ c' ∧ laws_heldStepS.L1 N n o' c (k : Int) = some c' := by
  intro n
  induction n with
  | zero => intro k c o h1 h0 h2 h3 h4; omega
  | succ n ih =>
    intro k c o h1 h0 h2 h3 h4
    rw [laws_markStepS.L1_eq]
    by_cases hk : k < o.length
    · have w1 : IntKind.wrap .i64 (c + 1) = c + 1 := wrap64 (by omega) (by omega)
      have w2 : IntKind.wrap .i64 (c + 1 + 1) = c + 2 := by rw [wrap64 (by omega) (by omega)]; omega
      have w3 : IntKind.wrap .i64 (c + 2 + 1) = c + 3 := by rw [wrap64 (by omega) (by omega)]; omega
      have ws : IntKind.wrap .i64 ((k : Int) + 1) = ((k + 1 : Nat) : Int) := wrap_succ (by omega)
      simp only [Int.ofNat_lt, hk, decide_true, condT, inRange_nat, Int.toNat_natCast, List.length_set, w1, w2, w3, ws, getD_set o k _ _ hk, List.set_set]
      obtain ⟨c', o', e1, e2, e3, e4, e6⟩ := ih (k + 1) (c + 3) (o.set k (c, (c + 1, c + 2))) (by simp; omega) (by simp; omega) (by simp; omega) (by omega) (by simp; omega)
      simp only [List.length_set] at e2
      refine ⟨c', o', e1, e2, fun j hj => ?_, by omega, ?_⟩
      · rw [e3 j (by omega), getD_set_ne _ _ _ _ _ (by omega)]
      · rw [laws_heldStepS.L1_eq]
        have hk' : k < o'.length := by omega
        have hg : o'.getD k (0, 0, 0) = (c, (c + 1, c + 2)) := by rw [e3 k (by omega), getD_set _ _ _ _ hk]
        simp only [Int.ofNat_lt, hk', decide_true, condT, inRange_nat, nth_nat, hg, bne_self_eq_false, condF, w1, w2, w3, ws]
        exact e6
    · refine ⟨c, o, ?_, rfl, fun j _ => rfl, by omega, ?_⟩
      · simp only [Int.ofNat_lt, hk, decide_false, condF]
      · rw [laws_heldStepS.L1_eq]
        simp only [Int.ofNat_lt, hk, decide_false, condF]

theorem marksS_eq (o : List Step3) (h : o.length ≤ 8) : ∃ c o', laws_markStepS.F 200 (o, 1) = some (c, o') ∧ laws_heldStepS.F 200 (o', 1) = some c ∧ 1 ≤ c := by
  rw [laws_markStepS.F_eq]
  obtain ⟨c', o', e1, e2, e3, e4, e5⟩ := marksS_L1 200 200 0 1 o (by omega) (by omega) (by omega) (by omega) (by omega)
  exact ⟨c', o', e1, by rw [laws_heldStepS.F_eq]; exact e5, e4⟩

theorem eqStep_eq (N : Nat) (a b : Step3) : laws_eqStep.F N (a, b) = some (decide (a = b)) := by
  rw [laws_eqStep.F_eq]
  obtain ⟨x, y, z⟩ := a
  obtain ⟨u, v, w⟩ := b
  simp only [bneI]
  by_cases h1 : x = u <;> by_cases h2 : y = v <;> by_cases h3 : z = w <;> simp [h1, h2, h3]

theorem eqStepS_self (a : List Step3) (h : a.length ≤ 8) : laws_eqStepS.F 200 (a, a) = some true := by
  rw [laws_eqStepS.F_eq]
  have : ((a.length : Int) != (a.length : Int)) = false := by simp
  rw [this, condF]
  have := eqLoop (0, 0, 0) (fun n a b i => laws_eqStepS.L1 200 n a b i) (fun x => laws_eqStep.F 200 x) a a (fun n i => laws_eqStepS.L1_eq 200 n a a i) (fun x _ y => eqStep_eq 200 x y) 200 0 (by unfold maxN; omega) rfl (by omega) (by omega)
  simpa using this

theorem ExactText_F (s : List UInt8) : laws_FnExactTextMacro.F 200 s = some true := by
  rw [laws_FnExactTextMacro.F_eq]
  obtain ⟨r, e1, e2, e3⟩ := Text_same s
  obtain ⟨c, o', m1, m2, m3⟩ := marksS_eq r.1 e3
  have hc : decide (c < 0) = false := decide_eq_false (by omega)
  simp only [e1, e2, bindV, eqStepS_self _ e3, m1, m2, hc, condF, bne_self_eq_false, Bool.not_true]
  cases decide ((List.length s : Int) > 1048576) <;> rfl
end Go.Kb
