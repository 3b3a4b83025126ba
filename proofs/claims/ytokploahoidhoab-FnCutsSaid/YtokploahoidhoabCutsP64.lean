/- One step on the flash: what it gives back, as a plain value. -/
import Derived.Test.YtokploahoidhoabCutsP63
import Derived.Test.YtokploahoidhoabCutsP10
namespace Go.Kb
set_option maxRecDepth 100000

def wOk (w : Int) : Bool := decide (0 ≤ w) && decide (w ≤ 65535)
def pOk (x : List Int) : Bool := decide (x.length = 19) && x.all wOk
def cOk (c : Int) : Bool := decide (0 ≤ c) && decide (c ≤ 1000)
def okF (f : Fl) : Bool := decide (f.1.length = 2) && (decide (f.2.length = 2) && (f.1.all pOk && f.2.all cOk))

theorem okF_L2 (N n1 : Nat) (i : Int) (pg : List Int) (o0 : List (List Int)) (o1 : List Int) (hl : pg.length ≤ 1048576) :
    ∀ (n k : Nat), k ≤ pg.length → pg.length < n + k → impl_IsFlash.L2 N n1 n i pg (pg.length : Int) (k : Int) o0 o1 = bif (pg.drop k).all wOk then impl_IsFlash.L1 N n1 (IntKind.wrap .i64 (i + 1)) o0 o1 else some false := by
  intro n
  induction n with
  | zero => intro k h2 h3; omega
  | succ n ih =>
    intro k h2 h3
    rw [impl_IsFlash.L2_eq]
    by_cases hk : k < pg.length
    · rw [decide_eq_true (Int.ofNat_lt.mpr hk), condT, inRange_nat, decide_eq_true hk, condT, nth_nat, wrap_succ (by omega), ih (k + 1) (by omega) (by omega), drop_cons 0 pg k hk, List.all_cons]
      generalize pg.getD k 0 = x
      unfold wOk
      by_cases a1 : x < 0
      · rw [decide_eq_true a1, condT, decide_eq_false (show ¬ 0 ≤ x by omega), Bool.false_and, Bool.false_and, condF]
      · rw [decide_eq_false a1, condF, decide_eq_true (show 0 ≤ x by omega), Bool.true_and]
        by_cases a3 : x > 65535
        · rw [decide_eq_true a3, condT, decide_eq_false (show ¬ x ≤ 65535 by omega), Bool.false_and, condF]
        · rw [decide_eq_false a3, condF, decide_eq_true (show x ≤ 65535 by omega), Bool.true_and]
    · rw [decide_eq_false (by omega), condF, List.drop_of_length_le (by omega)]
      rw [List.all_nil, condT]

theorem okF_L1 (N : Nat) (hN : 1048576 < N) (o0 : List (List Int)) (o1 : List Int) (h0 : o0.length = 2) (h1 : o1.length = 2) (hs : ∀ x ∈ o0, x.length ≤ 1048576) : ∀ (n i : Nat), i ≤ 2 → 2 < n + i →
    impl_IsFlash.L1 N n (i : Int) o0 o1 = some ((o0.drop i).all pOk && (o1.drop i).all cOk) := by
  intro n
  induction n with
  | zero => intro i h2 h3; omega
  | succ n ih =>
    intro i h2 h3
    rw [impl_IsFlash.L1_eq]
    by_cases hi : i < 2
    · have hr : i < o0.length := by omega
      have hr1 : i < o1.length := by omega
      have hx := hs _ (nth_mem [] o0 i hr)
      have l2 := okF_L2 N n (i : Int) (o0.getD i []) o0 o1 hx N 0 (by omega) (by omega)
      rw [show ((0 : Nat) : Int) = 0 from rfl, List.drop_zero, wrap_succ (by omega), ih (i + 1) (by omega) (by omega)] at l2
      rw [decide_eq_true (show (i : Int) < 2 by omega), condT, inRange_nat, decide_eq_true hr, condT, nth_nat, inRange_nat, decide_eq_true hr1, condT, nth_nat, condT, condT, l2, drop_cons [] o0 i hr, drop_cons 0 o1 i hr1, List.all_cons, List.all_cons, bneI]
      generalize (o0.drop (i + 1)).all pOk = A
      generalize (o1.drop (i + 1)).all cOk = B
      generalize o1.getD i 0 = x
      generalize o0.getD i [] = pg
      unfold pOk cOk
      by_cases g : pg.length = 19
      · rw [decide_eq_true (show (pg.length : Int) = 19 by omega), notT, condF, decide_eq_true g, Bool.true_and]
        by_cases a1 : x < 0
        · rw [decide_eq_true a1, condT, decide_eq_false (show ¬ 0 ≤ x by omega), Bool.false_and, Bool.false_and, Bool.and_false]
        · rw [decide_eq_false a1, condF, decide_eq_true (show 0 ≤ x by omega), Bool.true_and]
          by_cases a3 : x > 1000
          · rw [decide_eq_true a3, condT, decide_eq_false (show ¬ x ≤ 1000 by omega), Bool.false_and, Bool.and_false]
          · rw [decide_eq_false a3, condF, decide_eq_true (show x ≤ 1000 by omega), Bool.true_and]
            cases pg.all wOk
            · rw [condF, Bool.false_and, Bool.false_and]
            · rw [condT, Bool.true_and]
      · rw [decide_eq_false (show ¬ (pg.length : Int) = 19 by omega), notF, condT, decide_eq_false g, Bool.false_and, Bool.false_and, Bool.false_and]
    · rw [decide_eq_false (by omega), condF, List.drop_of_length_le (by omega), List.drop_of_length_le (by omega)]; rfl

theorem okF_impl (N : Nat) (hN : 1048576 < N) (f : Fl) (h : smallF f) : impl_IsFlash.F N f = some (okF f) := by
  rw [impl_IsFlash.F_eq, bneI, bneI]
  unfold okF
  by_cases h0 : f.1.length = 2
  · rw [decide_eq_true (show (f.1.length : Int) = 2 by omega), notT, condF, decide_eq_true h0, Bool.true_and]
    by_cases h1 : f.2.length = 2
    · have := okF_L1 N hN f.1 f.2 h0 h1 h.1.2 N 0 (by omega) (by omega)
      rw [show ((0 : Nat) : Int) = 0 from rfl, List.drop_zero, List.drop_zero] at this
      rw [decide_eq_true (show (f.2.length : Int) = 2 by omega), notT, condF, decide_eq_true h1, Bool.true_and, this]
    · rw [decide_eq_false (show ¬ (f.2.length : Int) = 2 by omega), notF, condT, decide_eq_false h1, Bool.false_and]
  · rw [decide_eq_false (show ¬ (f.1.length : Int) = 2 by omega), notF, condT, decide_eq_false h0, Bool.false_and]
theorem okF_spec (N : Nat) (hN : 1048576 < N) (f : Fl) (h : smallF f) : spec_IsFlash.F N f = some (okF f) := by
  rw [IsFlash_same N hN f h, okF_impl N hN f h]

/-- the facts that okF says -/
theorem okF_facts {f : Fl} (h : okF f = true) : f.1.length = 2 ∧ f.2.length = 2 ∧ (∀ x ∈ f.1, pOk x = true) ∧ (∀ c ∈ f.2, cOk c = true) := by
  unfold okF at h
  simp only [Bool.and_eq_true, decide_eq_true_eq, List.all_eq_true] at h
  exact ⟨h.1, h.2.1, h.2.2.1, h.2.2.2⟩
theorem pOk_facts {x : List Int} (h : pOk x = true) : x.length = 19 ∧ ∀ w ∈ x, wOk w = true := by
  unfold pOk at h
  simp only [Bool.and_eq_true, decide_eq_true_eq, List.all_eq_true] at h
  exact h
theorem cOk_facts {c : Int} (h : cOk c = true) : 0 ≤ c ∧ c ≤ 1000 := by
  unfold cOk at h
  simpa only [Bool.and_eq_true, decide_eq_true_eq] using h
theorem okF_small {f : Fl} (h : okF f = true) : smallF f := by
  obtain ⟨a, b, c, _⟩ := okF_facts h
  exact ⟨⟨by omega, fun x hx => by have := (pOk_facts (c x hx)).1; omega⟩, by omega⟩
theorem all_set {α : Type} (p : α → Bool) (l : List α) (i : Nat) (x : α) (hi : i < l.length) (h : ∀ y ∈ l, p y = true) : (l.set i x).all p = p x := by
  cases hx : p x
  · rw [List.all_eq_false]
    exact ⟨x, List.mem_set hi x, by rw [hx]; simp⟩
  · rw [List.all_eq_true]
    intro y hy
    rcases List.mem_or_eq_of_mem_set hy with g | g
    · exact h y g
    · rw [g, hx]
theorem okF_set {f : Fl} (h : okF f = true) {p : Nat} (hp : p < 2) (x : List Int) (c : Int) (hx : pOk x = true) : okF (f.1.set p x, f.2.set p c) = cOk c := by
  obtain ⟨a, b, d, e⟩ := okF_facts h
  unfold okF
  simp only [List.length_set]
  rw [all_set _ _ _ _ (by omega) d, all_set _ _ _ _ (by omega) e, hx, decide_eq_true a, decide_eq_true b]
  simp

/-! ### the step -/
abbrev FOp := Bool × Int × Int × Int
def noF : Fl × Bool := (([], []), false)
def inB (a x b : Int) : Bool := decide (a ≤ x ∧ x ≤ b)
def blank : List Int := List.replicate 19 65535
def doV (f : Fl) (o : FOp) : Fl × Bool :=
  bif okF f && inB 0 o.2.1 1 then
    bif o.1 then
      bif decide (o.2.2.1 = 0) && (decide (o.2.2.2 = 0) && decide (f.2.getD o.2.1.toNat 0 < 1000)) then
        ((f.1.set o.2.1.toNat blank, f.2.set o.2.1.toNat (f.2.getD o.2.1.toNat 0 + 1)), true)
      else noF
    else
      bif inB 0 o.2.2.1 18 && (inB 0 o.2.2.2 65534 && decide ((f.1.getD o.2.1.toNat []).getD o.2.2.1.toNat 0 = 65535)) then
        ((f.1.set o.2.1.toNat ((f.1.getD o.2.1.toNat []).set o.2.2.1.toNat o.2.2.2), f.2), true)
      else noF
  else noF

theorem FlOutB.no {D D' : List HRow} (h : D <+: D') : FlOutB (some (((([] : List Hnd), ([] : List Int)), false), D')) D noF := ⟨[], D', rfl, h, own_nil⟩
theorem fr_pre {D0 D D' : List HRow} {lo hi : Nat} (h : D0 <+: D) (hl : D0.length ≤ lo) (hf : Fr lo hi D D') : D0 <+: D' := by
  rw [List.prefix_iff_getElem?] at h ⊢
  intro i hi'
  rw [hf.2 i (by omega)]
  exact h i hi'
end Go.Kb
