/- A setting that is written is read, all others are as they were; wherever power fails it is the old or the new one. -/
import Derived.Test.YtokploahoidhoabCutsP81
namespace Go.Kb
set_option maxRecDepth 100000

theorem beqS {α : Type} [BEq α] [LawfulBEq α] (x : α) : (x == x) = true := by simp

theorem Cuts_L1 (N : Nat) (hN : 1048576 < N) (code : List Int) (hm : code.length ≤ 1048576) {f g : Fl} {p p' : Nat} {K K' : Int} (hf : St f p K) (hg : St g p' K') (hK : K' ≤ 400) {s v : Int} (hs0 : 0 ≤ s) (hs1 : s < 4)
    (hval : ∀ i : Nat, i ≤ 3 → rdV (i : Int) (pageOf g p') 6 = rdV (i : Int) (pageOf f p) 6 ∨ ((i : Int) = s ∧ rdV (i : Int) (pageOf g p') 6 = (v, true)))
    {hs hs2 : List Hnd} {D : List HRow} {lo hi lo2 hi2 : Nat} (o1 : Own (u := .int .i64) 2 D lo hi hs f.1) (o2 : Own (u := .int .i64) 2 D lo2 hi2 hs2 g.1) :
    ∀ n i : Nat, i ≤ 4 → 4 < n + i → laws_FnCuts.L1 N n code s v (i : Int) hs f.2 hs2 g.2 D = some true := by
  intro n
  induction n with
  | zero => intro i h1 h2; omega
  | succ n ih =>
    intro i h1 h2
    rw [laws_FnCuts.L1_eq]
    by_cases h3 : i < 4
    · have e1 : impl_ReadSetting.F N ((f.1, f.2), (i : Int)) = some (rdV (i : Int) (pageOf f p) 6) := ReadV N hN hf.1 hf.2.1 i
      have e2 : impl_ReadSetting.F N ((g.1, g.2), (i : Int)) = some (rdV (i : Int) (pageOf g p') 6) := ReadV N hN hg.1 hg.2.1 i
      rw [decide_eq_true (by omega), condT, o1.unok, condT, o1.un2, e1, bindV, o2.unok, condT, o2.un2, e2, bindV, wrap_succ (by omega), ih (i + 1) (by omega) (by omega)]
      rcases hval i (by omega) with e | ⟨e, e'⟩
      · rw [e, beqS, beqS, notT, condT, condF]
      · rw [e', e, beqS]
        dsimp only
        rw [beqS, notT, condF, condT, condT]
        cases ((rdV s (pageOf f p) 6).1 == v)
        · rw [condF]
        · rw [condT]
          cases (!((rdV s (pageOf f p) 6).2 == true))
          · rw [condF]
          · rw [condT]
    · obtain rfl : i = 4 := by omega
      have hm' : code.length ≤ maxN := by unfold maxN; omega
      obtain ⟨w, e1, w0, w1⟩ := MakeNumber_ok N code 123 10000 hm' (by omega) (by omega)
      obtain ⟨oT, oL, cut⟩ := cut_St hg (by omega) (okS_of hs0 hs1 w0 w1)
      have eo := OpsV_eq N hN hg.1 hg.2.1 s w
      generalize opsV g p' s w = O at oT oL cut eo
      obtain ⟨y, p2, r1, r2, _, r4⟩ := cut _ (Nat.le_refl _)
      obtain ⟨r4, _⟩ := r4 rfl
      obtain ⟨hs3, D3, e5, p5, o5⟩ := (WriteI N hN g (okF_small hg.1) s w eo oL (hhide D)).call
      have wv : writeV g O.1 O.2 = (y, true) := by
        unfold writeV
        rw [oT, condT, ← r1, List.take_length]
      rw [wv] at e5 o5
      dsimp only at e5 o5
      have e5 : impl_WriteSetting.H N ((g.1, g.2), s, w) (hhide D) = some (((hs3, y.2), true), D3) := e5
      obtain ⟨k, rfl⟩ : ∃ k : Nat, s = (k : Int) := ⟨s.toNat, by omega⟩
      have e6 : impl_ReadSetting.F N ((y.1, y.2), (k : Int)) = some (rdV (k : Int) (pageOf y p2) 6) := ReadV N hN r2.1 r2.2.1 k
      rw [r4 k (by omega), if_pos rfl] at e6
      rw [decide_eq_false (by omega), condF, e1, bindV, o2.unok, condT, o2.un2, e5, bindV]
      dsimp only
      rw [o5.unok, condT, o5.un2, e6, bindV, condT]
      dsimp only
      rw [condT, beqS]

theorem FnCuts_F (code : List Int) : laws_FnCuts.F 2000000 code = some true := by
  rw [laws_FnCuts.F_eq, laws_big.F_eq, bindV]
  by_cases hb : (code.length : Int) > 1048576
  · rw [decide_eq_true hb, condT]
  · rw [decide_eq_false hb, condF]
    have hm : code.length ≤ maxN := by unfold maxN; omega
    generalize hNN : (2000000 : Nat) = N
    have hN : 1048576 < N := by omega
    obtain ⟨hs, f, p, D, e, q1, q2, q3⟩ := MakeFl N hN code (by omega) true
    obtain ⟨s, e1, s0, s1⟩ := MakeNumber_ok N code 120 4 hm (by omega) (by omega)
    obtain ⟨v, e2, v0, v1⟩ := MakeNumber_ok N code 121 10000 hm (by omega) (by omega)
    have hs' := okS_of s0 s1 v0 v1
    rw [e, bindV, e1, bindV, e2, bindV]
    dsimp only
    have eo : impl_SettingOps.F N ((f.1, f.2), s, v) = some (opsV f p s v) := OpsV_eq N hN q1.1 q1.2.1 s v
    have eo' := OpsV_eq N hN q1.1 q1.2.1 s v
    obtain ⟨oT, oL, cut⟩ := cut_St q1 (by omega) hs'
    generalize opsV f p s v = O at oT oL cut eo eo'
    have wl : IntKind.wrap .i64 ((O.1.length : Int) + 1) = ((O.1.length + 1 : Nat) : Int) := wrap_succ (by omega)
    obtain ⟨m, e3, m0, m1⟩ := MakeNumber_ok N code 122 ((O.1.length + 1 : Nat) : Int) hm (by omega) (by omega)
    obtain ⟨j, rfl⟩ : ∃ j : Nat, m = (j : Int) := ⟨m.toNat, by omega⟩
    rw [hmerge_nil, q3.unok, condT, q3.un2, eo, bindV, oT, notT, condF, wl, e3, bindV, condT]
    obtain ⟨g, p', r1, r2, r3, _⟩ := cut j (by omega)
    obtain ⟨hs2, D2, e5, p5, o5⟩ := (CutI N hN f (okF_small q1.1) s v (j : Int) eo' oL (hhide D)).call
    have cj : cutV f O.1 O.2 (j : Int) = (g, true) := by
      unfold cutV inB
      rw [oT, decide_eq_true (show 0 ≤ (j : Int) ∧ (j : Int) ≤ (O.1.length : Int) by omega), Int.toNat_natCast, ← r1]; rfl
    rw [cj] at e5 o5
    dsimp only at e5 o5
    have e5 : impl_CutSetting.H N ((f.1, f.2), s, v, (j : Int)) (hhide D) = some (((hs2, g.2), true), D2) := e5
    rw [e5, bindV]
    dsimp only
    have e6 : impl_IsFlash.F N (g.1, g.2) = some true := by
      have := okF_impl N hN g (okF_small r2.1)
      rw [r2.1] at this
      exact this
    rw [notT, condF, o5.unok, condT, o5.un2, e6, bindV, notT, condF]
    exact Cuts_L1 N hN code (by omega) q1 r2 (by omega) s0 s1 r3 (q3.more p5) o5 N 0 (by omega) (by omega)
end Go.Kb
