/- Without combinations all events go through; what waits for a combination. -/
import Derived.Test.YtnoifcpgionjkaaNoCombosP38
namespace Go.Kb

theorem tri_beq (a b : Ev) : ((a.1 == b.1) && ((a.2.1 == b.2.1) && (a.2.2 == b.2.2))) = decide (a = b) := by
  obtain ⟨x, y, z⟩ := a
  obtain ⟨u, v, w⟩ := b
  simp only [beqI]
  by_cases h1 : x = u
  · by_cases h2 : y = v
    · by_cases h3 : z = w
      · simp [h1, h2, h3]
      · have h4 : (z == w) = false := by cases z <;> cases w <;> simp at h3 ⊢
        simp [h1, h2, h3, h4]
    · simp [h1, h2]
  · simp [h1]

theorem sameEv_L1 (N : Nat) (a : List Ev) (ha : a.length ≤ 1048576) : ∀ (n i : Nat), i ≤ a.length → a.length < n + i → laws_sameEvents.L1 N n a a (i : Int) = some true := by
  intro n
  induction n with
  | zero => intro i h1 h2; omega
  | succ n ih =>
    intro i h1 h2
    rw [laws_sameEvents.L1_eq]
    by_cases hi : i < a.length
    · have ws : IntKind.wrap .i64 ((i : Int) + 1) = ((i + 1 : Nat) : Int) := wrap_succ (by omega)
      simp only [Int.ofNat_lt, hi, decide_true, condT, inRange_nat, nth_nat, ws, tri_beq, notT, condF, ih (i + 1) (by omega) (by omega)]
    · simp only [Int.ofNat_lt, hi, decide_false, condF]

theorem sameEv (N : Nat) (hN : 1048576 < N) (a : List Ev) (ha : a.length ≤ 1048576) : laws_sameEvents.F N (a, a) = some true := by
  rw [laws_sameEvents.F_eq]
  simp only [bne_self_eq_false, condF]
  exact sameEv_L1 N a ha N 0 (by omega) (by omega)

theorem okF_nil : okF [] := combos_right (ps := []) trivial (by simp)

theorem maxI_right {x y : Int} (h : x ≤ y) : maxI x y = y := by unfold maxI; split <;> omega
theorem maxI_self (x : Int) : maxI x x = x := by unfold maxI; split <;> omega

theorem none_run (term now : Int) : ∀ (r : List Ev) (d : Nat) (ck : Int), 0 ≤ ck → d < 4294967296 → fol 24 d ck r → runA [] term now ⟨r, ck, (d : Int), []⟩ = (r, ⟨[], lT ck r, (hA d r : Int), []⟩) := by
  intro r
  induction r with
  | nil => intro d ck _ _ _; exact runA_none rfl
  | cons e r ih =>
    intro d ck hck hd hf
    have hsw := fol_sw _ d ck hck hf e (by simp)
    obtain ⟨h1, h2, k, h3, h4, h5, h6⟩ := hf
    have hm := maxI_right h1
    have hlt : d ^^^ 2 ^ k < 4294967296 := by
      have := Nat.xor_lt_two_pow (n := 32) (x := d) (y := 2 ^ k) (by omega) (by have := pow_lt32 (k := k) (by omega); omega)
      omega
    have hAe : hA d (e :: r) = hA (d ^^^ 2 ^ k) r := by simp only [hA, List.foldl_cons, h4, Int.toNat_natCast]
    have hi := ih (d ^^^ 2 ^ k) e.1 (by omega) hlt h6
    have hst : stepC [] term now ⟨e :: r, ck, (d : Int), []⟩ = some ([e], ⟨r, e.1, ((d ^^^ 2 ^ k : Nat) : Int), []⟩) := by
      obtain ⟨t, q, b⟩ := e
      simp only [] at h4 h5 hm
      subst h4
      simp only [stepC, mtc, hm, win, List.any_nil, Bool.not_false, cond_true, upGo]
      cases b with
      | false =>
        have hb : d.testBit k = true := by cases hh : d.testBit k with | true => rfl | false => rw [hh] at h5; cases h5
        have := clrI (h := d) (k := k) hd (by omega)
        simp only [Bool.not_false, cond_true, this, xor_clr hb]
      | true =>
        have hb : d.testBit k = false := by cases hh : d.testBit k with | false => rfl | true => rw [hh] at h5; cases h5
        have := orI (h := d) (k := k) hd (by omega)
        simp only [Bool.not_true, cond_false, hsw, this, xor_or hb, maxI_self]
        rfl
    rw [runA_step hst, hi, hAe]
    rfl

theorem New_none (N : Nat) (hN : 2000000 < N) (t : Int) (ht : 1 ≤ t ∧ t ≤ 6) : impl_NewCombiner.F N ([], t) = some (idle [] t, true) := by
  have h := (okM_IsC hN (idle_ok (N := N) (by omega) okF_nil ht)).1
  simp only [Sc.cm, idleS] at h
  have h0 : (0 : Nat) ≤ maxN := by omega
  rw [impl_NewCombiner.F_eq, h]
  simp only [List.length_nil, h0, decide_true, condT, bindV, notT, condF]
  rfl

theorem FnNoCombos_core (N : Nat) (hN : 2000000 < N) (t : Int) (ht : 1 ≤ t ∧ t ≤ 6) (r : List Ev) (hr : fol 5 0 0 r) (hl : r.length ≤ 12) (e : Int) (he : 0 ≤ e ∧ e ≤ 1000000) (hre : ∀ x ∈ r, x.1 ≤ e) :
    impl_CombineEvents.F N (idle [] t, (r, e)) = some (([], (t, ([], (e, (lT 0 r, ((hA 0 r : Int), [])))))), (r, true)) := by
  obtain ⟨f1, _⟩ := okM_CE hN (idle_ok (N := N) (by omega) okF_nil ht) (L := r) (e := e) he (fol_mono (by omega) r _ 0 0 (by omega) hr) hre (by simp only [idleS, List.length_nil]; omega)
  have g := none_run t e r 0 0 (by omega) (by omega) (fol_mono (by omega) r _ 0 0 (by omega) hr)
  have hs : idleS.add r = ⟨r, 0, ((0 : Nat) : Int), []⟩ := rfl
  rw [hs, g, idle_cm] at f1
  exact f1

theorem Held_eq (N : Nat) (hN : 1048576 < N) (r : List Ev) (hl : r.length ≤ 64) (hr : fol 32 0 0 r) : impl_HeldAfter.F N r = some (hA 0 r : Int) := by
  rw [impl_HeldAfter.F_eq]
  have := follow_eq N hN r hl 0 (by omega) 0 (by omega) hr
  rw [show (0 : Int) = ((0 : Nat) : Int) from rfl, this, bindV]

theorem FnNoCombos_true (N : Nat) (hN : 2000000 < N) (code : List Int) : laws_FnNoCombos.F N code = some true := by
  rw [laws_FnNoCombos.F_eq]
  rw [laws_big.F_eq, bindV]
  by_cases hbig : (code.length : Int) > 1048576
  · simp only [hbig, decide_true, condT]
  · have hmN : code.length ≤ maxN := by unfold maxN; omega
    obtain ⟨l, t, r, a1, a2, a3, e1, g, g1, g2⟩ := FreshD N (by omega) code hmN (by omega)
    have hne := New_none N (by omega) t ⟨a2, a3⟩
    have hh := Held_eq N (by omega) r (by omega) (fol_mono (by omega) r _ 0 0 (by omega) g)
    have hsame := sameEv N (by omega) r (by omega)
    have e1t : (idle l t).2.1 = t := rfl
    simp only [hbig, decide_false, condF, e1, bindV, e1t, hne]
    have z0 : ((([] : List Ev).length : Int) == 0) = true := rfl
    by_cases h0 : (r.length : Int) > 0
    · have w : IntKind.wrap .i64 ((r.length : Int) - 1) = ((r.length - 1 : Nat) : Int) := by rw [wrap64 (by omega) (by omega)]; omega
      have hp : r.length - 1 < r.length := by omega
      have hlast := lT_getD r 0 (by omega)
      have h00 := lT_ge 5 r 0 0 g
      have hc := FnNoCombos_core N (by omega) t ⟨a2, a3⟩ r g g1 (lT 0 r) ⟨by omega, by omega⟩ (fun x hx => (fol_time 5 r 0 0 g x hx).2.1)
      simp only [h0, decide_true, condT, w, inRange_nat, hp, nth_nat, hlast, hc, bindV, hsame, hh, beq_self_eq_true, z0]
    · have hr0 : r = [] := List.length_eq_zero_iff.1 (by omega)
      have hc := FnNoCombos_core N (by omega) t ⟨a2, a3⟩ r g g1 0 ⟨by omega, by omega⟩ (fun x hx => by rw [hr0] at hx; cases hx)
      simp only [h0, decide_false, condF, hc, bindV, condT, hsame, hh, beq_self_eq_true, z0]

/-! ### what waits -/
end Go.Kb
