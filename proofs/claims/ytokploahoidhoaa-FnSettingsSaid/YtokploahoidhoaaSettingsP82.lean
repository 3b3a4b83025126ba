/- A setting that is written is read, all others are as they were; wherever power fails it is the old or the new one. -/
import Derived.Test.YtokploahoidhoaaSettingsP81
namespace Go.Kb
set_option maxRecDepth 100000

theorem bneS {α : Type} [BEq α] [LawfulBEq α] (x : α) : (x != x) = false := by simp
theorem beqS {α : Type} [BEq α] [LawfulBEq α] (x : α) : (x == x) = true := by simp

theorem Settings_L1 (N : Nat) (hN : 1048576 < N) {f g : Fl} {p p' : Nat} {K K' : Int} (hf : St f p K) (hg : St g p' K') {s v : Int}
    (hval : ∀ i : Nat, i ≤ 3 → rdV (i : Int) (pageOf g p') 6 = if (i : Int) = s then (v, true) else rdV (i : Int) (pageOf f p) 6) (hb : bal g p')
    {hs hs2 : List Hnd} {D : List HRow} {lo hi lo2 hi2 : Nat} (o1 : Own (u := .int .i64) 2 D lo hi hs f.1) (o2 : Own (u := .int .i64) 2 D lo2 hi2 hs2 g.1) :
    ∀ n i : Nat, i ≤ 4 → 4 < n + i → laws_FnSettings.L1 N n s v (i : Int) hs f.2 hs2 g.2 D = some true := by
  intro n
  induction n with
  | zero => intro i h1 h2; omega
  | succ n ih =>
    intro i h1 h2
    rw [laws_FnSettings.L1_eq]
    by_cases h3 : i < 4
    · have e1 : impl_ReadSetting.F N ((f.1, f.2), (i : Int)) = some (rdV (i : Int) (pageOf f p) 6) := ReadV N hN hf.1 hf.2.1 i
      have e2 : impl_ReadSetting.F N ((g.1, g.2), (i : Int)) = some (rdV (i : Int) (pageOf g p') 6) := ReadV N hN hg.1 hg.2.1 i
      rw [decide_eq_true (by omega), condT, o1.unok, condT, o1.un2, e1, bindV, o2.unok, condT, o2.un2, e2, bindV, hval i (by omega), wrap_succ (by omega), ih (i + 1) (by omega) (by omega)]
      by_cases e : (i : Int) = s
      · rw [if_pos e, e, beqS, bneS, condT, condF]
        dsimp only
        rw [notT, condF, bneS, condF]
      · have b1 : ((i : Int) == s) = false := by simpa using e
        have b2 : ((i : Int) != s) = true := by simpa using e
        rw [if_neg e, b1, b2, condF, condT, bneS, bneS, condF, condF]
    · obtain rfl : i = 4 := by omega
      obtain ⟨l1, l2, l3, l4⟩ := okF_facts hg.1
      have e1 : impl_ActivePage.F N (g.1, g.2) = some (p' : Int) := Act_eq N hN hg.1 hg.2.1
      have e2 : impl_FreeRecord.F N ((g.1, g.2), (p' : Int)) = some ((fr (g.1.getD p' []) 6 : Nat) : Int) := Free_eq N hN hg.1 hg.2.1.1
      have n0 : nth (0 : Int) g.2 (0 : Int) = g.2.getD 0 0 := nth_nat 0 _ 0
      have n1 : nth (0 : Int) g.2 (1 : Int) = g.2.getD 1 0 := nth_nat 0 _ 1
      have hb' : g.2.getD 0 0 - g.2.getD 1 0 = -(p' : Int) := hb
      have hp := hg.2.1.1
      have wp : IntKind.wrap .i64 (-(p' : Int)) = -(p' : Int) := wrap64 (by omega) (by omega)
      have le := fr_le (g.1.getD p' []) 6
      rw [decide_eq_false (by omega), condF, l2, show inRange (0 : Int) 2 = true from rfl, show inRange (1 : Int) 2 = true from rfl, condT, condT, o2.unok, condT, o2.un2, e1, bindV, condT, e2, bindV, n0, n1, hb', wp,
        decide_eq_true (by omega), condT, decide_eq_true (by omega), condT, decide_eq_true (by omega), condT, decide_eq_true (by omega)]

theorem FnSettings_F (code : List Int) : laws_FnSettings.F 2000000 code = some true := by
  rw [laws_FnSettings.F_eq, laws_big.F_eq, bindV]
  by_cases hb : (code.length : Int) > 1048576
  · rw [decide_eq_true hb, condT]
  · rw [decide_eq_false hb, condF]
    have hm : code.length ≤ maxN := by unfold maxN; omega
    generalize hNN : (2000000 : Nat) = N
    have hN : 1048576 < N := by omega
    obtain ⟨hs, f, p, D, e, q1, q2, q3⟩ := MakeFl N hN code (by omega) false
    obtain ⟨s, e1, s0, s1⟩ := MakeNumber_ok N code 124 4 hm (by omega) (by omega)
    obtain ⟨v, e2, v0, v1⟩ := MakeNumber_ok N code 125 10000 hm (by omega) (by omega)
    have hs' := okS_of s0 s1 v0 v1
    rw [e, bindV, e1, bindV, e2, bindV]
    dsimp only
    rw [hmerge_nil, q3.unok, condT, q3.un2]
    obtain ⟨oT, oL, cut⟩ := cut_St q1 (by omega) hs'
    have eo := OpsV_eq N hN q1.1 q1.2.1 s v
    generalize opsV f p s v = O at oT oL cut eo
    obtain ⟨g, p', r1, r2, _, r4⟩ := cut _ (Nat.le_refl _)
    obtain ⟨r4, r5⟩ := r4 rfl
    obtain ⟨hs2, D2, e5, p5, o5⟩ := (WriteI N hN f (okF_small q1.1) s v eo oL (hhide D)).call
    have wv : writeV f O.1 O.2 = (g, true) := by
      unfold writeV
      rw [oT, condT, ← r1, List.take_length]
    rw [wv] at e5 o5
    dsimp only at e5 o5
    have e5 : impl_WriteSetting.H N ((f.1, f.2), s, v) (hhide D) = some (((hs2, g.2), true), D2) := e5
    rw [e5, bindV]
    dsimp only
    have e6 : impl_ActivePage.F N (g.1, g.2) = some (p' : Int) := Act_eq N hN r2.1 r2.2.1
    rw [notT, condF, o5.unok, condT, o5.un2, e6, bindV, decide_eq_false (by omega), condF]
    exact Settings_L1 N hN q1 r2 r4 (bal_step q1.2.1.1 (okF_facts q1.1).2.1 (q2 rfl) r5) (q3.more p5) o5 N 0 (by omega) (by omega)

end Go.Kb
