/- The operations that write a setting: the exact row. -/
import Derived.Test.YtokploahoidhoaaExactSettingOpsP66
namespace Go.Kb
set_option maxRecDepth 100000

theorem getDset {α : Type} (l : List α) (i : Nat) (x d : α) (h : i < l.length) : (l.set i x).getD i d = x := by
  simp [List.getD_eq_getElem?_getD, h]
theorem getDset_ne {α : Type} (l : List α) (i j : Nat) (x d : α) (h : i ≠ j) : (l.set i x).getD j d = l.getD j d := by
  simp only [List.getD_eq_getElem?_getD, List.getElem?_set_ne h]

theorem eqFlashOp_eq (N : Nat) (a b : FOp) : laws_eqFlashOp.F N (a, b) = some (decide (a = b)) := by
  rw [laws_eqFlashOp.F_eq]
  obtain ⟨t, x, y, z⟩ := a
  obtain ⟨s, u, v, w⟩ := b
  simp only [bneI]
  by_cases h0 : t = s
  · by_cases h1 : x = u <;> by_cases h2 : y = v <;> by_cases h3 : z = w <;> simp [h0, h1, h2, h3]
  · cases t <;> cases s <;> first | exact absurd rfl h0 | simp
theorem eqOps_self (N : Nat) (a : List FOp) (h : a.length ≤ 14) (hN : 1048576 < N) : laws_eqFlashOpS.F N (a, a) = some true := by
  rw [laws_eqFlashOpS.F_eq]
  have : ((a.length : Int) != (a.length : Int)) = false := by simp
  rw [this, condF]
  have := eqLoop (false, 0, 0, 0) (fun n a b i => laws_eqFlashOpS.L1 N n a b i) (fun x => laws_eqFlashOp.F N x) a a (fun n i => laws_eqFlashOpS.L1_eq N n a a i) (fun x _ y => eqFlashOp_eq N x y) N 0 (by unfold maxN; omega) rfl (by omega) (by omega)
  simpa using this

theorem marksO_L1 (N : Nat) : ∀ (n k : Nat) (c : Int) (o : List FOp), o.length ≤ 14 → k ≤ o.length → o.length < n + k → 0 ≤ c → c + 4 * (o.length - k) ≤ 1000 →
    ∃ c' o', laws_markFlashOpS.L1 N n c (k : Int) o = some (c', o') ∧ o'.length = o.length ∧ (∀ j, j < k → o'.getD j (false, 0, 0, 0) = o.getD j (false, 0, 0, 0)) ∧ c ≤ c' ∧ laws_heldFlashOpS.L1 N n o' c (k : Int) = some c' := by
  intro n
  induction n with
  | zero => intro k c o h1 h0 h2 h3 h4; omega
  | succ n ih =>
    intro k c o h1 h0 h2 h3 h4
    rw [laws_markFlashOpS.L1_eq]
    by_cases hk : k < o.length
    · have w1 : IntKind.wrap .i64 (c + 1) = c + 1 := wrap64 (by omega) (by omega)
      have w2 : IntKind.wrap .i64 (c + 1 + 1) = c + 2 := by rw [wrap64 (by omega) (by omega)]; omega
      have w3 : IntKind.wrap .i64 (c + 2 + 1) = c + 3 := by rw [wrap64 (by omega) (by omega)]; omega
      have w4 : IntKind.wrap .i64 (c + 3 + 1) = c + 4 := by rw [wrap64 (by omega) (by omega)]; omega
      have ws : IntKind.wrap .i64 ((k : Int) + 1) = ((k + 1 : Nat) : Int) := wrap_succ (by omega)
      simp only [Int.ofNat_lt, hk, decide_true, condT, inRange_nat, Int.toNat_natCast, List.length_set, w1, w2, w3, w4, ws, getDset o k _ _ hk, List.set_set]
      obtain ⟨c', o', e1, e2, e3, e4, e6⟩ := ih (k + 1) (c + 4) (o.set k (Int.tmod c 3 == 0, (c + 1, (c + 2, c + 3)))) (by simp; omega) (by simp; omega) (by simp; omega) (by omega) (by simp; omega)
      simp only [List.length_set] at e2
      refine ⟨c', o', e1, e2, fun j hj => ?_, by omega, ?_⟩
      · rw [e3 j (by omega), getDset_ne _ _ _ _ _ (by omega)]
      · rw [laws_heldFlashOpS.L1_eq]
        have hk' : k < o'.length := by omega
        have hg : o'.getD k (false, 0, 0, 0) = (Int.tmod c 3 == 0, (c + 1, (c + 2, c + 3))) := by rw [e3 k (by omega), getDset _ _ _ _ hk]
        simp only [Int.ofNat_lt, hk', decide_true, condT, inRange_nat, nth_nat, hg, bne_self_eq_false, condF, w1, w2, w3, w4, ws]
        exact e6
    · refine ⟨c, o, ?_, rfl, fun j _ => rfl, by omega, ?_⟩
      · simp only [Int.ofNat_lt, hk, decide_false, condF]
      · rw [laws_heldFlashOpS.L1_eq]
        simp only [Int.ofNat_lt, hk, decide_false, condF]
theorem marksO_eq (N : Nat) (hN : 1048576 < N) (o : List FOp) (h : o.length ≤ 14) : ∃ c o', laws_markFlashOpS.F N (o, 1) = some (c, o') ∧ laws_heldFlashOpS.F N (o', 1) = some c ∧ 1 ≤ c := by
  rw [laws_markFlashOpS.F_eq]
  obtain ⟨c', o', e1, e2, e3, e4, e5⟩ := marksO_L1 N N 0 1 o h (by omega) (by omega) (by omega) (by omega)
  exact ⟨c', o', e1, by rw [laws_heldFlashOpS.F_eq]; exact e5, e4⟩

theorem FnExactSettingOps_true (f : Fl) (s v : Int) (h : wellF f) : laws_FnExactSettingOps.F 2000000 (f, s, v) = some true := by
  rw [laws_FnExactSettingOps.F_eq]
  obtain ⟨r, e, hr⟩ := szFlash_eq 2000000 (by omega) f h
  rw [e, bindV]
  by_cases h0 : r < 0
  · rw [decide_eq_true h0, condT]
  have hs := hr (by omega)
  rw [decide_eq_false h0, condF]
  obtain ⟨l, b, e1, e2, hl⟩ := Ops_same 2000000 (by omega) f hs s v
  have bb : (b != b) = false := by cases b <;> rfl
  have hT := toFlashh_eq 2000000 (by omega) f hs
  have hE := eqOps_self 2000000 l hl (by omega)
  obtain ⟨k1, o1, u1, u2, u3⟩ := marksO_eq 2000000 (by omega) l hl
  obtain ⟨h2, D2, e2', p2, o2⟩ := (hT (hhide [])).call
  rw [e2', bindV]
  dsimp only
  generalize hmerge [] D2 = M2 at *
  rw [o2.unok, condT, o2.un2, show (f.1, f.2) = f from rfl, e1, bindV]
  obtain ⟨h4, D4, e4, p4, o4⟩ := (hT (hhide M2)).call
  rw [e4, bindV]
  dsimp only
  generalize hmerge M2 D4 = M4 at *
  rw [o4.unok, condT, o4.un2, show (f.1, f.2) = f from rfl, e2, bindV, hE, bindV, notT, condF, bb, condF]
  obtain ⟨h7, D7, e7, p7, o7⟩ := (hT (hhide M4)).call
  rw [e7, bindV]
  dsimp only
  generalize hmerge M4 D7 = M7 at *
  have a4 := o4.more p7
  rw [a4.unok, o7.unok, Bool.and_self, condT, a4.un2, o7.un2, show (f.1, f.2) = f from rfl, eqFlash_self _ (by omega) f hs, bindV, notT, condF]
  obtain ⟨k2, c2, v2, D9, m1, m2, m3, m4, m5⟩ := markFlash_eq 2000000 (by omega) a4 (c := f.2) hs
  rw [m1, bindV, decide_eq_false (by show ¬ k2 < 0; omega), condF, bindV, notT, condF, condF, u1, bindV]
  dsimp only
  rw [u2, bindV, decide_eq_false (by omega), condF, bneI, decide_eq_true rfl, notT, condF]
  obtain ⟨h13, D13, e13, p13, o13⟩ := (hT (hhide D9)).call
  rw [e13, bindV]
  dsimp only
  generalize hmerge D9 D13 = M13 at *
  rw [o13.unok, condT, o13.un2, show (f.1, f.2) = f from rfl, e2, bindV]
  dsimp only
  rw [hE, bindV, notT, condF, bb, condF, bindV, decide_eq_false (by omega), condF, bneI, decide_eq_true rfl, notT, condF]
end Go.Kb
