/- Keys of characters; texts as macros. -/
import Derived.Test.YtipjdpnpahhndaaDoorExactKeyOfP42
import Derived.Test.YtipjdpnpahhndaaDoorExactKeyOfP17
namespace Go.Kb
set_option maxRecDepth 100000
def fk (char m : Int) : Nat → Nat → Option (Int × Int)
  | 0, _ => none
  | n + 1, c => bif ch (c : Int) m == bytesOf [char] then some ((c : Int), m) else fk char m n (c + 1)
theorem fk_succ (char m : Int) (n c : Nat) : fk char m (n + 1) c = bif ch (c : Int) m == bytesOf [char] then some ((c : Int), m) else fk char m n (c + 1) := rfl

theorem KeyOf_sL2 (n1 : Nat) (char m : Int) : ∀ (j c n2 : Nat), c + j = 57 → j < n2 →
    spec_KeyOf.L2 200 n1 n2 char m (c : Int) = match fk char m j c with | some r => some r | none => spec_KeyOf.L1 200 n1 char (IntKind.wrap .i64 (m + 2)) := by
  intro j
  induction j with
  | zero =>
    intro c n2 h1 h2
    obtain ⟨n2, rfl⟩ : ∃ k, n2 = k + 1 := ⟨n2 - 1, by omega⟩
    rw [spec_KeyOf.L2_eq, decide_eq_false (by omega)]
    rfl
  | succ j ih =>
    intro c n2 h1 h2
    obtain ⟨n2, rfl⟩ : ∃ k, n2 = k + 1 := ⟨n2 - 1, by omega⟩
    rw [spec_KeyOf.L2_eq, decide_eq_true (by omega), condT, CharOf_s, bindV, wrap_succ (by omega), ih (c + 1) n2 (by omega) (by omega), fk_succ]
    cases ch (c : Int) m == bytesOf [char] <;> rfl

theorem KeyOf_iL2 (n1 : Nat) (char m t8 t9 : Int) (o : List Int) : ∀ (j c n2 : Nat), c + j = 57 → j < n2 →
    impl_KeyOf.L2 200 n1 n2 char m (c : Int) t8 t9 o = match fk char m j c with | some r => some r | none => impl_KeyOf.L1 200 n1 char t8 (IntKind.wrap .i64 (t9 + 1)) o := by
  intro j
  induction j with
  | zero =>
    intro c n2 h1 h2
    obtain ⟨n2, rfl⟩ : ∃ k, n2 = k + 1 := ⟨n2 - 1, by omega⟩
    rw [impl_KeyOf.L2_eq, decide_eq_false (by omega)]
    rfl
  | succ j ih =>
    intro c n2 h1 h2
    obtain ⟨n2, rfl⟩ : ∃ k, n2 = k + 1 := ⟨n2 - 1, by omega⟩
    rw [impl_KeyOf.L2_eq, decide_eq_true (by omega), condT, CharOf_i, bindV, wrap_succ (by omega), ih (c + 1) n2 (by omega) (by omega), fk_succ]
    cases ch (c : Int) m == bytesOf [char] <;> rfl

def ky (char : Int) : Int × Int := match fk char 0 56 1 with | some r => r | none => match fk char 2 56 1 with | some r => r | none => (0, 0)

theorem KeyOf_s' (char : Int) (n : Nat) : spec_KeyOf.L1 200 (n + 1 + 1 + 1) char 0 = some (ky char) := by
  rw [spec_KeyOf.L1_eq, decide_eq_true (by omega), condT]
  have h := KeyOf_sL2 (n + 1 + 1) char 0 56 1 200 (by omega) (by omega)
  refine h.trans ?_
  unfold ky
  cases fk char 0 56 1 with
  | some r => rfl
  | none =>
    simp only []
    have w : IntKind.wrap .i64 ((0 : Int) + 2) = 2 := wrap64 (by omega) (by omega)
    rw [w, spec_KeyOf.L1_eq, decide_eq_true (by omega), condT]
    have h := KeyOf_sL2 (n + 1) char 2 56 1 200 (by omega) (by omega)
    refine h.trans ?_
    cases fk char 2 56 1 with
    | some r => rfl
    | none =>
      simp only []
      have w : IntKind.wrap .i64 ((2 : Int) + 2) = 4 := wrap64 (by omega) (by omega)
      rw [w, spec_KeyOf.L1_eq, decide_eq_false (by omega), condF]

theorem KeyOf_s (char : Int) : spec_KeyOf.F 200 char = some (ky char) := by
  rw [spec_KeyOf.F_eq]
  exact KeyOf_s' char 197

theorem KeyOf_i' (char : Int) (n : Nat) : impl_KeyOf.L1 200 (n + 1 + 1 + 1) char 2 0 [0, 2] = some (ky char) := by
  have i0 : inRange 0 (List.length [(0 : Int), 2]) = true := by decide
  have i1 : inRange 1 (List.length [(0 : Int), 2]) = true := by decide
  have g0 : List.getD [(0 : Int), 2] (Int.toNat 0) 0 = 0 := by decide
  have g1 : List.getD [(0 : Int), 2] (Int.toNat 1) 0 = 2 := by decide
  rw [impl_KeyOf.L1_eq, decide_eq_true (by omega), condT, i0, condT, g0]
  have h := KeyOf_iL2 (n + 1 + 1) char 0 2 0 [0, 2] 56 1 200 (by omega) (by omega)
  refine h.trans ?_
  unfold ky
  cases fk char 0 56 1 with
  | some r => rfl
  | none =>
    simp only []
    have w : IntKind.wrap .i64 ((0 : Int) + 1) = 1 := wrap64 (by omega) (by omega)
    rw [w, impl_KeyOf.L1_eq, decide_eq_true (by omega), condT, i1, condT, g1]
    have h := KeyOf_iL2 (n + 1) char 2 2 1 [0, 2] 56 1 200 (by omega) (by omega)
    refine h.trans ?_
    cases fk char 2 56 1 with
    | some r => rfl
    | none =>
      simp only []
      have w : IntKind.wrap .i64 ((1 : Int) + 1) = 2 := wrap64 (by omega) (by omega)
      rw [w, impl_KeyOf.L1_eq, decide_eq_false (by omega), condF]

theorem KeyOf_i (char : Int) : impl_KeyOf.F 200 char = some (ky char) := by
  rw [impl_KeyOf.F_eq]
  exact KeyOf_i' char 197

/-! ### texts -/
theorem ExactKeyOf_F (c : Int) : laws_FnExactKeyOf.F 200 c = some true := by
  rw [laws_FnExactKeyOf.F_eq, KeyOf_s, KeyOf_i]
  simp only [bindV, bne_self_eq_false, condF]
end Go.Kb
