/- A frame hit by a burst of at most eight bits is not read. -/
import Derived.Test.YtjhcdceoenocpaaP5
namespace Go.Kb

/-! ### the check sum is linear -/
theorem ckStep_xor : ∀ a, a < 256 → ∀ b, b < 256 → ckStep (a ^^^ b) = ckStep a ^^^ ckStep b := by
  have h : (List.range 256).all (fun a => (List.range 256).all fun b => ckStep (a ^^^ b) == ckStep a ^^^ ckStep b) = true := by decide +kernel
  intro a ha b hb
  have := List.all_eq_true.1 h a (List.mem_range.2 ha)
  have := List.all_eq_true.1 this b (List.mem_range.2 hb)
  simpa using this

theorem ckN_xor : ∀ (n a b : Nat), a < 256 → b < 256 → ckN n (a ^^^ b) = ckN n a ^^^ ckN n b
  | 0, _, _, _, _ => rfl
  | n + 1, a, b, ha, hb => by
    simp only [ckN]
    rw [ckStep_xor a ha b hb]
    exact ckN_xor n _ _ (ckStep_lt a ha) (ckStep_lt b hb)

def xorL (a b : List Nat) : List Nat := List.zipWith (fun x y => x ^^^ y) a b

theorem ck_xor : ∀ (a b : List Nat) (c d : Nat), a.length = b.length → (∀ x ∈ a, x < 256) → (∀ x ∈ b, x < 256) → c < 256 → d < 256 → ck (xorL a b) (c ^^^ d) = ck a c ^^^ ck b d
  | [], [], _, _, _, _, _, _, _ => rfl
  | x :: a, y :: b, c, d, hl, ha, hb, hc, hd => by
    have hx := ha x (.head _)
    have hy := hb y (.head _)
    have h1 : c ^^^ x < 256 := Nat.xor_lt_two_pow (n := 8) hc hx
    have h2 : d ^^^ y < 256 := Nat.xor_lt_two_pow (n := 8) hd hy
    show ck (xorL a b) (ckN 8 ((c ^^^ d) ^^^ (x ^^^ y))) = ck a (ckN 8 (c ^^^ x)) ^^^ ck b (ckN 8 (d ^^^ y))
    rw [show (c ^^^ d) ^^^ (x ^^^ y) = (c ^^^ x) ^^^ (d ^^^ y) by
      rw [Nat.xor_assoc, Nat.xor_assoc, ← Nat.xor_assoc d x y, Nat.xor_comm d x, Nat.xor_assoc x d y], ckN_xor 8 _ _ h1 h2]
    exact ck_xor a b _ _ (by simpa using hl) (fun z hz => ha z (.tail _ hz)) (fun z hz => hb z (.tail _ hz)) (ckN_lt 8 _ h1) (ckN_lt 8 _ h2)
  | [], _ :: _, _, _, hl, _, _, _, _ => by simp at hl
  | _ :: _, [], _, _, hl, _, _, _, _ => by simp at hl

/-! ### the pattern of a burst -/
/-- the bits k.. of a change, laid from the bit p on -/
def pat (p c : Nat) : Nat → List Nat → List Nat
  | 0, l => l
  | k + 1, l => pat p c k (if (c >>> (7 - k)) % 2 = 1 then l.set ((p + (7 - k)) / 8) (l.getD ((p + (7 - k)) / 8) 0 ^^^ (128 >>> ((p + (7 - k)) % 8))) else l)

theorem xorL_set : ∀ (a l : List Nat) (j v : Nat), a.length = l.length → xorL a (l.set j (l.getD j 0 ^^^ v)) = (xorL a l).set j ((xorL a l).getD j 0 ^^^ v)
  | [], [], _, _, _ => rfl
  | x :: a, y :: l, 0, v, _ => by
    show (x ^^^ (y ^^^ v)) :: xorL a l = ((x ^^^ y) ^^^ v) :: xorL a l
    rw [Nat.xor_assoc]
  | x :: a, y :: l, j + 1, v, h => by
    show (x ^^^ y) :: xorL a (l.set j (l.getD j 0 ^^^ v)) = (x ^^^ y) :: (xorL a l).set j ((xorL a l).getD j 0 ^^^ v)
    rw [xorL_set a l j v (by simpa using h)]
  | [], _ :: _, _, _, h => by simp at h
  | _ :: _, [], _, _, h => by simp at h

def patBad (p : List Nat) : Bool :=
  match p with
  | [p0, p1, p2, p3, p4, p5] => !(p0 == 0 && ck [p0, p1, p2, p3, p4] 0 == p5) && (p0 < 256 && p1 < 256 && p2 < 256 && p3 < 256 && p4 < 256 && p5 < 256)
  | _ => false

theorem pats_bad : (List.range 41).all (fun p => (List.range 255).all fun c => patBad (pat p (c + 1) 8 [0, 0, 0, 0, 0, 0])) = true := by decide +kernel

end Go.Kb
