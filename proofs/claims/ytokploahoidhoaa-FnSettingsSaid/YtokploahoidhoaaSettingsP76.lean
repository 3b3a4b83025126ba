/- The flash read: the active page, the first free record, a setting, as plain values. -/
import Derived.Test.YtokploahoidhoaaSettingsP66
namespace Go.Kb
set_option maxRecDepth 100000

def blankR (pg : List Int) (i : Nat) : Bool := decide (pg.getD (3 * i + 1) 0 = 65535) && (decide (pg.getD (3 * i + 2) 0 = 65535) && decide (pg.getD (3 * i + 3) 0 = 65535))
def fr (pg : List Int) : Nat → Nat
  | 0 => 0
  | i + 1 => bif blankR pg i then fr pg i else i + 1

theorem Free_v (N : Nat) (f : Fl) (page : Int) (pg : List Int) (hp : nth [] f.1 page = pg) (hr : inRange page f.1.length = true) (hl : pg.length = 19) :
    ∀ (i m : Nat), i ≤ 6 → i < m → impl_FreeRecord.L1 N m page (i : Int) f.1 f.2 = some ((fr pg i : Nat) : Int) := by
  intro i
  induction i with
  | zero =>
    intro m h1 h3
    obtain ⟨m, rfl⟩ : ∃ j, m = j + 1 := ⟨m - 1, by omega⟩
    rw [impl_FreeRecord.L1_eq, decide_eq_false (by omega), condF]; rfl
  | succ i ih =>
    intro m h1 h3
    obtain ⟨m, rfl⟩ : ∃ j, m = j + 1 := ⟨m - 1, by omega⟩
    have e2 := ih m (by omega) (by omega)
    rw [impl_FreeRecord.L1_eq]
    have c2 : decide (((i + 1 : Nat) : Int) > 0) = true := decide_eq_true (by omega)
    have w0 : IntKind.wrap .i64 ((3 : Int) * ((i + 1 : Nat) : Int)) = ((3 * i + 3 : Nat) : Int) := by rw [wrap64 (by omega) (by omega)]; omega
    have w1 : IntKind.wrap .i64 (((3 * i + 3 : Nat) : Int) - 2) = ((3 * i + 1 : Nat) : Int) := by rw [wrap64 (by omega) (by omega)]; omega
    have w2 : IntKind.wrap .i64 (((3 * i + 3 : Nat) : Int) + 1) = ((3 * i + 1 + 3 : Nat) : Int) := by rw [wrap64 (by omega) (by omega)]; omega
    have w3 : IntKind.wrap .i64 (((i + 1 : Nat) : Int) - 1) = (i : Int) := by rw [wrap64 (by omega) (by omega)]; omega
    have bd : bounds ((3 * i + 1 : Nat) : Int) ((3 * i + 1 + 3 : Nat) : Int) pg.length = true := bounds_of (by omega) (by omega) (by omega)
    have sl : (List.drop (3 * i + 1) (List.take (3 * i + 1 + 3) pg)).length = 3 := sub_len (by omega)
    have n0 : nth 0 (List.drop (3 * i + 1) (List.take (3 * i + 1 + 3) pg)) 0 = pg.getD (3 * i + 1) 0 := by
      have := nth_nat 0 (List.drop (3 * i + 1) (List.take (3 * i + 1 + 3) pg)) 0
      rw [sub_nth 0 (by omega) (by omega)] at this; exact this
    have n1 : nth 0 (List.drop (3 * i + 1) (List.take (3 * i + 1 + 3) pg)) 1 = pg.getD (3 * i + 2) 0 := by
      have := nth_nat 0 (List.drop (3 * i + 1) (List.take (3 * i + 1 + 3) pg)) 1
      rw [sub_nth 1 (by omega) (by omega)] at this; exact this
    have n2 : nth 0 (List.drop (3 * i + 1) (List.take (3 * i + 1 + 3) pg)) 2 = pg.getD (3 * i + 3) 0 := by
      have := nth_nat 0 (List.drop (3 * i + 1) (List.take (3 * i + 1 + 3) pg)) 2
      rw [sub_nth 2 (by omega) (by omega)] at this; exact this
    have i0 : inRange 0 3 = true := by decide
    have i1 : inRange 1 3 = true := by decide
    have i2 : inRange 2 3 = true := by decide
    rw [c2, condT, hr, condT, w0, w1, w2, hp, bd, condT, Int.toNat_natCast, Int.toNat_natCast, sl, i0, condT, i1, i2, n0, n1, n2, w3, e2, bneI, bneI, bneI, condT, condT]
    show _ = some (((bif blankR pg i then fr pg i else i + 1 : Nat)) : Int)
    unfold blankR
    cases decide (pg.getD (3 * i + 1) 0 = 65535)
    · rw [notF, condT, Bool.false_and, condF]
    · rw [notT, condF, Bool.true_and]
      cases decide (pg.getD (3 * i + 2) 0 = 65535)
      · rw [notF, condT, Bool.false_and, condF]
      · rw [notT, condF, Bool.true_and]
        cases decide (pg.getD (3 * i + 3) 0 = 65535)
        · rw [notF, condT, condF]
        · rw [notT, condF, condT]

theorem pageOk {f : Fl} (h : okF f = true) {p : Nat} (hp : p < 2) : nth [] f.1 (p : Int) = f.1.getD p [] ∧ inRange (p : Int) f.1.length = true ∧ (f.1.getD p []).length = 19 := by
  obtain ⟨a, _, _, _⟩ := okF_facts h
  exact ⟨nth_nat _ _ _, by rw [inRange_nat]; exact decide_eq_true (by omega), (pOk_facts (getD_pOk h hp)).1⟩
theorem Free_eq (N : Nat) (hN : 1048576 < N) {f : Fl} (h : okF f = true) {p : Nat} (hp : p < 2) : impl_FreeRecord.F N (f, (p : Int)) = some ((fr (f.1.getD p []) 6 : Nat) : Int) := by
  obtain ⟨a, b, c⟩ := pageOk h hp
  rw [impl_FreeRecord.F_eq, okF_impl N hN f (okF_small h), bindV, h, notT, condF, decide_eq_false (by omega), condF, decide_eq_false (by omega), condF]
  exact Free_v N f (p : Int) _ a b c 6 N (by omega) (by omega)

/-- the first word of a page -/
def hd (f : Fl) (p : Nat) : Int := (f.1.getD p []).getD 0 0
/-- page p is the active one -/
def act (f : Fl) (p : Nat) : Prop := p < 2 ∧ (1 ≤ hd f p ∧ hd f p ≤ 60000) ∧ (¬ (1 ≤ hd f (1 - p) ∧ hd f (1 - p) ≤ 60000) ∨ hd f (1 - p) < hd f p)

theorem Act_step (N n : Nat) {f : Fl} (h : okF f = true) (best : Int) (hb : best = -1 ∨ ∃ b : Nat, b < 2 ∧ best = (b : Int)) (i : Nat) (hi : i < 2) :
    impl_ActivePage.L1 N (n + 1) best f.1 (f.1.length : Int) (i : Int) f.1 f.2 =
      impl_ActivePage.L1 N n (if 1 ≤ hd f i ∧ hd f i ≤ 60000 then (if best < 0 then (i : Int) else if hd f i > nth 0 (nth [] f.1 best) 0 then (i : Int) else best) else best) f.1 (f.1.length : Int) ((i + 1 : Nat) : Int) f.1 f.2 := by
  obtain ⟨a, b, c⟩ := pageOk h hi
  obtain ⟨fl, _⟩ := okF_facts h
  have hh : nth 0 (f.1.getD i []) 0 = hd f i := nth_nat 0 _ 0
  have r0 : inRange 0 (f.1.getD i []).length = true := by rw [c]; rfl
  have ws : IntKind.wrap .i64 ((i : Int) + 1) = ((i + 1 : Nat) : Int) := wrap_succ (by omega)
  rw [impl_ActivePage.L1_eq, decide_eq_true (show (i : Int) < (f.1.length : Int) by omega), condT, b, condT, a, r0, condT, condT, condT, hh, ws]
  by_cases h1 : 1 ≤ hd f i
  · rw [decide_eq_true (show hd f i ≥ 1 from h1), condT]
    by_cases h2 : hd f i ≤ 60000
    · rw [decide_eq_true h2, condT, if_pos ⟨h1, h2⟩]
      rcases hb with rfl | ⟨k, hk, rfl⟩
      · rw [decide_eq_true (by omega), condT, if_pos (by omega)]
      · obtain ⟨a', b', c'⟩ := pageOk h hk
        have r0' : inRange 0 (f.1.getD k []).length = true := by rw [c']; rfl
        rw [decide_eq_false (by omega), condF, if_neg (by omega), b', condT, a', r0', condT]
        by_cases h3 : hd f i > nth 0 (f.1.getD k []) 0
        · rw [decide_eq_true h3, condT, if_pos h3]
        · rw [decide_eq_false h3, condF, if_neg h3]
    · rw [decide_eq_false h2, condF, if_neg fun g => h2 g.2]
  · rw [decide_eq_false h1, condF, if_neg fun g => h1 g.1]
theorem Act_eq (N : Nat) (hN : 1048576 < N) {f : Fl} (h : okF f = true) {p : Nat} (hp : act f p) : impl_ActivePage.F N f = some (p : Int) := by
  obtain ⟨fl, _⟩ := okF_facts h
  obtain ⟨n, rfl⟩ : ∃ n, N = n + 1 + 1 + 1 := ⟨N - 3, by omega⟩
  have s0 := Act_step (n + 1 + 1 + 1) (n + 1 + 1) h (-1) (Or.inl rfl) 0 (by omega)
  rw [show ((0 : Nat) : Int) = 0 from rfl] at s0
  rw [impl_ActivePage.F_eq, okF_impl _ hN f (okF_small h), bindV, h, notT, condF, s0]
  obtain ⟨p2, ⟨q1, q2⟩, q3⟩ := hp
  have fin : ∀ best : Int, impl_ActivePage.L1 (n + 1 + 1 + 1) (n + 1) best f.1 (f.1.length : Int) ((1 + 1 : Nat) : Int) f.1 f.2 = some best := fun best => by
    rw [impl_ActivePage.L1_eq, decide_eq_false (by omega), condF]
  have nn : ∀ k : Nat, nth 0 (nth [] f.1 (k : Int)) 0 = hd f k := fun k => by rw [nth_nat]; exact nth_nat 0 _ 0
  obtain rfl | rfl : p = 0 ∨ p = 1 := by omega
  · rw [if_pos ⟨q1, q2⟩, if_pos (by omega), Act_step _ _ h 0 (Or.inr ⟨0, by omega, rfl⟩) 1 (by omega), fin]
    have q3 : ¬ (1 ≤ hd f 1 ∧ hd f 1 ≤ 60000) ∨ hd f 1 < hd f 0 := q3
    have e0 := nn 0
    rw [show ((0 : Nat) : Int) = 0 from rfl] at e0
    rw [e0]
    rcases q3 with g | g
    · rw [if_neg g]; rfl
    · rw [if_neg (show ¬ (0 : Int) < 0 by omega), if_neg (show ¬ hd f 1 > hd f 0 by omega)]
      split <;> rfl
  · have q3 : ¬ (1 ≤ hd f 0 ∧ hd f 0 ≤ 60000) ∨ hd f 0 < hd f 1 := q3
    by_cases g0 : 1 ≤ hd f 0 ∧ hd f 0 ≤ 60000
    · rw [if_pos g0, if_pos (by omega), Act_step _ _ h 0 (Or.inr ⟨0, by omega, rfl⟩) 1 (by omega), fin]
      have e0 := nn 0
      rw [show ((0 : Nat) : Int) = 0 from rfl] at e0
      rw [e0, if_pos ⟨q1, q2⟩, if_neg (show ¬ (0 : Int) < 0 by omega), if_pos (show hd f 1 > hd f 0 from q3.elim (fun g => absurd g0 g) id)]
    · rw [if_neg g0, Act_step _ _ h (-1) (Or.inl rfl) 1 (by omega), fin, if_pos ⟨q1, q2⟩, if_pos (by omega)]
theorem Read_eq (N : Nat) (hN : 1048576 < N) {f : Fl} (h : okF f = true) {p : Nat} (hp : act f p) (s : Int) : impl_ReadSetting.F N (f, s) = some (rec N s (f.1.getD p []) 6) := by
  obtain ⟨a, b, c⟩ := pageOk h hp.1
  rw [impl_ReadSetting.F_eq, Act_eq N hN h hp, bindV, decide_eq_false (by omega), condF, b, condT, a]
  have := Read_impl N s (f.1.getD p []) c hp.2.1 6 N (by omega) (by omega)
  rw [show (((6 : Nat) : Int) - 1) = 5 from rfl] at this
  exact this
end Go.Kb
