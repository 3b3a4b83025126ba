/- The law FnPrompt, as values. -/
import Derived.Test.YticidpdbkjgebaaGreatDecidedP106
namespace Go.Kb
set_option maxRecDepth 100000
theorem okK_len : ∀ (l : List Int) (p : Int), 0 <= p /\ p <= 56 -> okK p l = true -> (l.length : Int) <= 56 - p := by
 intro l
 induction l with
 | nil => intro p hp _; show (0 : Int) <= _; omega
 | cons x r ih =>
  intro p hp h
  rw [okK_cons, bA, bA, decide_eq_true_iff, decide_eq_true_iff] at h
  have := ih x (by omega) h.2.2
  rw [List.length_cons]
  omega
theorem rpB_small {r : Rpt} (h : rpB r = true) : r.2.length <= 56 := by
 unfold rpB at h
 rw [bA] at h
 have := okK_len r.2 0 (by omega) h.2
 omega
theorem runQ_sent_len : ∀ (k : Nat) (d : Dcd), d.2.2.1.length <= k -> OkD d -> (runQ d).2.length <= 17 * d.2.2.1.length := by
 intro k
 induction k with
 | zero =>
  intro d h _
  rw [zAm (zBG (d := d) (List.length_eq_zero_iff.1 (by omega)))]; exact Nat.zero_le _
 | succ k ih =>
  intro d h hd
  cases hs : stepD d with
  | none => rw [zAm hs]; exact Nat.zero_le _
  | some p =>
   obtain ⟨o, d'⟩ := p
   obtain ⟨g1, _, _, _, _, ⟨f, hf⟩, _⟩ := stepD_ok hd hs
   have hl : d.2.2.1.length = d'.2.2.1.length + 1 := by rw [hf]; rfl
   have ho := step_len hd hs
   have := ih d' (by omega) g1
   rw [zBh hs]
   dsimp only
   rw [lA, sentB_len]
   omega
end Go.Kb
