/- Without combinations all events go through; what waits for a combination. -/
import Derived.Test.YtnoifcpgionjkaaCombinedP38
namespace Go.Kb

theorem tri_beq (a b : Ev) : ((a.1 == b.1) && ((a.2.1 == b.2.1) && (a.2.2 == b.2.2))) = decide (a = b) := by
  obtain ⟨x, y, z⟩ := a
  obtain ⟨u, v, w⟩ := b
  simp only [beqI]
  by_cases h1 : x = u
  · by_cases h2 : y = v
    · by_cases h3 : z = w
      · simp [h1, h2, h3]
      · have h4 : (z == w) = false := by cases z <;> cases w <;> simp at h3 ⊢
        simp [h1, h2, h3, h4]
    · simp [h1, h2]
  · simp [h1]

theorem sameEv_L1 (N : Nat) (a : List Ev) (ha : a.length ≤ 1048576) : ∀ (n i : Nat), i ≤ a.length → a.length < n + i → laws_sameEvents.L1 N n a a (i : Int) = some true := by
  intro n
  induction n with
  | zero => intro i h1 h2; omega
  | succ n ih =>
    intro i h1 h2
    rw [laws_sameEvents.L1_eq]
    by_cases hi : i < a.length
    · have ws : IntKind.wrap .i64 ((i : Int) + 1) = ((i + 1 : Nat) : Int) := wrap_succ (by omega)
      simp only [Int.ofNat_lt, hi, decide_true, condT, inRange_nat, nth_nat, ws, tri_beq, notT, condF, ih (i + 1) (by omega) (by omega)]
    · simp only [Int.ofNat_lt, hi, decide_false, condF]

theorem sameEv (N : Nat) (hN : 1048576 < N) (a : List Ev) (ha : a.length ≤ 1048576) : laws_sameEvents.F N (a, a) = some true := by
  rw [laws_sameEvents.F_eq]
  simp only [bne_self_eq_false, condF]
  exact sameEv_L1 N a ha N 0 (by omega) (by omega)

/-! ### what waits -/
end Go.Kb
