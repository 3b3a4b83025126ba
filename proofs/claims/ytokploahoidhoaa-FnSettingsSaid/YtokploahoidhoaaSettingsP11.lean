/- The free record of a page. -/
import Derived.Test.YtokploahoidhoaaSettingsP10
namespace Go.Kb

theorem bounds_of {a b : Int} {n : Nat} (h0 : 0 ≤ a) (h1 : a ≤ b) (h2 : b ≤ n) : bounds a b n = true := by
  unfold bounds
  simp only [Bool.and_eq_true, decide_eq_true_eq]
  omega

theorem sub_len {pg : List Int} {a : Nat} (h : a + 3 ≤ pg.length) : (List.drop a (List.take (a + 3) pg)).length = 3 := by
  rw [List.length_drop, List.length_take]; omega

theorem sub_nth {pg : List Int} {a : Nat} (t : Nat) (_h : a + 3 ≤ pg.length) (ht : t < 3) : (List.drop a (List.take (a + 3) pg)).getD t 0 = pg.getD (a + t) 0 := by
  simp only [List.getD_eq_getElem?_getD, List.getElem?_drop, List.getElem?_take]
  rw [if_pos (by omega)]

theorem Free_L2 (N n1 : Nat) (hN : 4 < N) (f : Fl) (page : Int) (pg : List Int) (hp : nth [] f.1 page = pg) (hr : inRange page f.1.length = true) (hl : pg.length = 19) (free : Int) (i : Nat) (hi : i < 6) :
    spec_FreeRecord.L2 N n1 N page free (i : Int) 1 f.1 f.2 = (if pg.getD (3 * i + 1) 0 = 65535 ∧ pg.getD (3 * i + 2) 0 = 65535 ∧ pg.getD (3 * i + 3) 0 = 65535 then spec_FreeRecord.L1 N n1 page (i : Int) ((i : Int) - 1) f.1 f.2 else some free) := by
  obtain ⟨m, rfl⟩ : ∃ m, N = m + 4 := ⟨N - 4, by omega⟩
  have w0 : IntKind.wrap .i64 ((3 : Int) * (i : Int)) = ((3 * i : Nat) : Int) := by rw [wrap64 (by omega) (by omega)]; omega
  have w1 : IntKind.wrap .i64 (((3 * i : Nat) : Int) + 1) = ((3 * i + 1 : Nat) : Int) := wrap_succ (by omega)
  have w2 : IntKind.wrap .i64 (((3 * i : Nat) : Int) + 2) = ((3 * i + 2 : Nat) : Int) := by rw [wrap64 (by omega) (by omega)]; omega
  have w3 : IntKind.wrap .i64 (((3 * i : Nat) : Int) + 3) = ((3 * i + 3 : Nat) : Int) := by rw [wrap64 (by omega) (by omega)]; omega
  have v1 : IntKind.wrap .i64 ((1 : Int) + 1) = 2 := by decide
  have v2 : IntKind.wrap .i64 ((2 : Int) + 1) = 3 := by decide
  have v3 : IntKind.wrap .i64 ((3 : Int) + 1) = 4 := by decide
  have v4 : IntKind.wrap .i64 ((i : Int) - 1) = (i : Int) - 1 := wrap64 (by omega) (by omega)
  have l1 : decide ((1 : Int) ≤ 3) = true := by decide
  have l2 : decide ((2 : Int) ≤ 3) = true := by decide
  have l3 : decide ((3 : Int) ≤ 3) = true := by decide
  have l4 : decide ((4 : Int) ≤ 3) = false := by decide
  have r1 : inRange ((3 * i + 1 : Nat) : Int) pg.length = true := inRange_of (by omega) (by omega)
  have r2 : inRange ((3 * i + 2 : Nat) : Int) pg.length = true := inRange_of (by omega) (by omega)
  have r3 : inRange ((3 * i + 3 : Nat) : Int) pg.length = true := inRange_of (by omega) (by omega)
  rw [spec_FreeRecord.L2_eq]
  simp only [l1, condT, hr, hp, w0, w1, r1, nth_nat, v1]
  by_cases a1 : pg.getD (3 * i + 1) 0 = 65535
  · have b1 : (pg.getD (3 * i + 1) 0 != 65535) = false := by rw [a1]; rfl
    simp only [b1, condF]
    rw [spec_FreeRecord.L2_eq]
    simp only [l2, condT, hr, hp, w0, w2, r2, nth_nat, v2]
    by_cases a2 : pg.getD (3 * i + 2) 0 = 65535
    · have b2 : (pg.getD (3 * i + 2) 0 != 65535) = false := by rw [a2]; rfl
      simp only [b2, condF]
      rw [spec_FreeRecord.L2_eq]
      simp only [l3, condT, hr, hp, w0, w3, r3, nth_nat, v3]
      by_cases a3 : pg.getD (3 * i + 3) 0 = 65535
      · have b3 : (pg.getD (3 * i + 3) 0 != 65535) = false := by rw [a3]; rfl
        simp only [b3, condF]
        rw [spec_FreeRecord.L2_eq]
        simp only [l4, condF, v4]
        rw [if_pos ⟨a1, a2, a3⟩]
      · have b3 : (pg.getD (3 * i + 3) 0 != 65535) = true := by rw [bneI]; simp only [a3, decide_false, notF]
        simp only [b3, condT]
        rw [if_neg fun h => a3 h.2.2]
    · have b2 : (pg.getD (3 * i + 2) 0 != 65535) = true := by rw [bneI]; simp only [a2, decide_false, notF]
      simp only [b2, condT]
      rw [if_neg fun h => a2 h.2.1]
  · have b1 : (pg.getD (3 * i + 1) 0 != 65535) = true := by rw [bneI]; simp only [a1, decide_false, notF]
    simp only [b1, condT]
    rw [if_neg fun h => a1 h.1]

theorem Free_L1 (N : Nat) (hN : 4 < N) (f : Fl) (page : Int) (pg : List Int) (hp : nth [] f.1 page = pg) (hr : inRange page f.1.length = true) (hl : pg.length = 19) :
    ∀ (i n m : Nat), i ≤ 6 → i < n → i < m → ∃ r, spec_FreeRecord.L1 N n page (i : Int) ((i : Int) - 1) f.1 f.2 = some r ∧ impl_FreeRecord.L1 N m page (i : Int) f.1 f.2 = some r := by
  intro i
  induction i with
  | zero =>
    intro n m h1 h2 h3
    obtain ⟨n, rfl⟩ : ∃ j, n = j + 1 := ⟨n - 1, by omega⟩
    obtain ⟨m, rfl⟩ : ∃ j, m = j + 1 := ⟨m - 1, by omega⟩
    rw [spec_FreeRecord.L1_eq, impl_FreeRecord.L1_eq]
    have c1 : decide ((((0 : Nat) : Int) - 1) ≥ 0) = false := by decide
    have c2 : decide (((0 : Nat) : Int) > 0) = false := by decide
    simp only [c1, c2, condF]
    exact ⟨_, rfl, rfl⟩
  | succ i ih =>
    intro n m h1 h2 h3
    obtain ⟨n, rfl⟩ : ∃ j, n = j + 1 := ⟨n - 1, by omega⟩
    obtain ⟨m, rfl⟩ : ∃ j, m = j + 1 := ⟨m - 1, by omega⟩
    obtain ⟨r, e1, e2⟩ := ih n m (by omega) (by omega) (by omega)
    rw [spec_FreeRecord.L1_eq, impl_FreeRecord.L1_eq]
    have k1 : (((i + 1 : Nat) : Int) - 1) = (i : Int) := by omega
    have c1 : decide ((i : Int) ≥ 0) = true := decide_eq_true (by omega)
    have c2 : decide (((i + 1 : Nat) : Int) > 0) = true := decide_eq_true (by omega)
    have w0 : IntKind.wrap .i64 ((3 : Int) * ((i + 1 : Nat) : Int)) = ((3 * i + 3 : Nat) : Int) := by rw [wrap64 (by omega) (by omega)]; omega
    have w1 : IntKind.wrap .i64 (((3 * i + 3 : Nat) : Int) - 2) = ((3 * i + 1 : Nat) : Int) := by rw [wrap64 (by omega) (by omega)]; omega
    have w2 : IntKind.wrap .i64 (((3 * i + 3 : Nat) : Int) + 1) = ((3 * i + 1 + 3 : Nat) : Int) := by rw [wrap64 (by omega) (by omega)]; omega
    have w3 : IntKind.wrap .i64 (i : Int) = (i : Int) := wrap64 (by omega) (by omega)
    have bd : bounds ((3 * i + 1 : Nat) : Int) ((3 * i + 1 + 3 : Nat) : Int) pg.length = true := bounds_of (by omega) (by omega) (by omega)
    have sl : (List.drop (3 * i + 1) (List.take (3 * i + 1 + 3) pg)).length = 3 := sub_len (by omega)
    have n0 : nth 0 (List.drop (3 * i + 1) (List.take (3 * i + 1 + 3) pg)) 0 = pg.getD (3 * i + 1) 0 := by
      have := nth_nat 0 (List.drop (3 * i + 1) (List.take (3 * i + 1 + 3) pg)) 0
      rw [sub_nth 0 (by omega) (by omega)] at this; exact this
    have n1 : nth 0 (List.drop (3 * i + 1) (List.take (3 * i + 1 + 3) pg)) 1 = pg.getD (3 * i + 2) 0 := by
      have := nth_nat 0 (List.drop (3 * i + 1) (List.take (3 * i + 1 + 3) pg)) 1
      rw [sub_nth 1 (by omega) (by omega)] at this; exact this
    have n2 : nth 0 (List.drop (3 * i + 1) (List.take (3 * i + 1 + 3) pg)) 2 = pg.getD (3 * i + 3) 0 := by
      have := nth_nat 0 (List.drop (3 * i + 1) (List.take (3 * i + 1 + 3) pg)) 2
      rw [sub_nth 2 (by omega) (by omega)] at this; exact this
    have i0 : inRange 0 3 = true := by decide
    have i1 : inRange 1 3 = true := by decide
    have i2 : inRange 2 3 = true := by decide
    simp only [k1, c1, c2, condT, hp, hr, w0, w1, w2, w3, bd, Int.toNat_natCast, sl, n0, n1, n2, i0, i1, i2, Free_L2 N n hN f page pg hp hr hl ((i + 1 : Nat) : Int) i (by omega), e2]
    by_cases a1 : pg.getD (3 * i + 1) 0 = 65535
    · have b1 : (pg.getD (3 * i + 1) 0 != 65535) = false := by rw [a1]; rfl
      by_cases a2 : pg.getD (3 * i + 2) 0 = 65535
      · have b2 : (pg.getD (3 * i + 2) 0 != 65535) = false := by rw [a2]; rfl
        by_cases a3 : pg.getD (3 * i + 3) 0 = 65535
        · have b3 : (pg.getD (3 * i + 3) 0 != 65535) = false := by rw [a3]; rfl
          rw [if_pos ⟨a1, a2, a3⟩]
          simp only [b1, b2, b3, condF]
          exact ⟨r, e1, rfl⟩
        · have b3 : (pg.getD (3 * i + 3) 0 != 65535) = true := by rw [bneI]; simp only [a3, decide_false, notF]
          rw [if_neg fun h => a3 h.2.2]
          simp only [b1, b2, b3, condF, condT]
          exact ⟨_, rfl, rfl⟩
      · have b2 : (pg.getD (3 * i + 2) 0 != 65535) = true := by rw [bneI]; simp only [a2, decide_false, notF]
        rw [if_neg fun h => a2 h.2.1]
        simp only [b1, b2, condF, condT]
        exact ⟨_, rfl, rfl⟩
    · have b1 : (pg.getD (3 * i + 1) 0 != 65535) = true := by rw [bneI]; simp only [a1, decide_false, notF]
      rw [if_neg fun h => a1 h.1]
      simp only [b1, condT]
      exact ⟨_, rfl, rfl⟩

theorem Free_same (N : Nat) (hN : 1048576 < N) (f : Fl) (page : Int) (hs : smallF f) : ∃ r, spec_FreeRecord.F N (f, page) = some r ∧ impl_FreeRecord.F N (f, page) = some r := by
  rw [spec_FreeRecord.F_eq, impl_FreeRecord.F_eq]
  obtain ⟨b, e, hb⟩ := IsFlash_impl N hN f hs
  have e2 : spec_IsFlash.F N f = some b := by rw [IsFlash_same N hN f hs]; exact e
  simp only [e, e2, bindV, l1In_eq]
  cases b with
  | false => simp only [notF, condT]; exact ⟨_, rfl, rfl⟩
  | true =>
    simp only [notT, condF]
    by_cases p0 : page < 0
    · have q : ¬ (0 ≤ page ∧ page ≤ 1) := by omega
      simp only [p0, q, decide_true, decide_false, notF, condT]; exact ⟨_, rfl, rfl⟩
    · by_cases p1 : page > 1
      · have q : ¬ (0 ≤ page ∧ page ≤ 1) := by omega
        simp only [p0, p1, q, decide_true, decide_false, notF, condT, condF]; exact ⟨_, rfl, rfl⟩
      · have q : (0 ≤ page ∧ page ≤ 1) := by omega
        obtain ⟨q1, q2, q3⟩ := pageAt (hb rfl) (j := page) (by omega) (by omega)
        obtain ⟨r, e3, e4⟩ := Free_L1 N (by omega) f page _ rfl q1 q2 6 N N (by omega) (by omega) (by omega)
        have q' : decide (0 ≤ page ∧ page ≤ 1) = true := decide_eq_true q
        simp only [p0, p1, q', decide_false, notT, condF]
        exact ⟨r, e3, e4⟩

end Go.Kb
