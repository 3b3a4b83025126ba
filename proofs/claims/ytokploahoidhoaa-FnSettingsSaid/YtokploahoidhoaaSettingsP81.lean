/- Drawn flashes; a setting that is written is read; cuts. -/
import Derived.Test.YtokploahoidhoaaSettingsP80
import Derived.Test.YtokploahoidhoaaSettingsP69
import Derived.Test.YtokploahoidhoaaSettingsP4
namespace Go.Kb
set_option maxRecDepth 100000

def newPg : List Int := 1 :: List.replicate 18 65535
def newFl : Fl := ([newPg, blank], [0, 0])
def newD : List HRow := List.replicate 38 HRow.gone ++ [HRow.row 2 (.int .i64) newPg, HRow.row 2 (.int .i64) blank]
theorem NewS (k : Nat) : spec_NewFlash.H (k + 25) () [] = some (([some (38, 0, 19), some (39, 0, 19)], [0, 0]), newD) := by kernel_rfl
theorem newOwn : Own (u := .int .i64) 2 newD 0 newD.length [some (38, 0, 19), some (39, 0, 19)] [newPg, blank] := by
  have a : Own (u := .int .i64) 2 newD 38 39 [some (38, 0, 19)] [newPg] := Own.one (u := .int .i64) (k := 38) (v := newPg) rfl
  have b : Own (u := .int .i64) 2 newD 39 40 [some (39, 0, 19)] [blank] := Own.one (u := .int .i64) (k := 39) (v := blank) rfl
  exact (a.append b (by omega) (by omega)).mono (by omega) (by show 40 ≤ 40; omega)
theorem newSt : St newFl 0 1 := ⟨by decide, ⟨by decide, by decide, by decide⟩, by decide, by decide⟩

theorem okS_of {s v : Int} (h1 : 0 ≤ s) (h2 : s < 4) (h3 : 0 ≤ v) (h4 : v < 10000) : okS s v = true := by
  unfold okS
  rw [decide_eq_true (show 0 ≤ s ∧ s ≤ 3 by omega), decide_eq_true (show 0 ≤ v ∧ v ≤ 9999 by omega)]; rfl
theorem l1OnceF_ok (N : Nat) (code : List Int) (c : List Int × Int × Int) (n : Int) (h : okC code c) (hm : code.length ≤ maxN) (hn : 0 < n) : ∃ b c', spec_l1Once.F N (c, n) = some (b, c') ∧ okC code c' := by
  rw [spec_l1Once.F_eq]
  obtain ⟨v, c', e, _, _, k⟩ := l1Below_ok N code c n h hm hn
  rw [e, bindV]
  exact ⟨_, _, rfl, k⟩
theorem SpecOps_eq (N : Nat) (hN : 1048576 < N) {f : Fl} (hf : okF f = true) {p : Nat} (hp : act f p) (s v : Int) : spec_SettingOps.F N (f, s, v) = some (opsV f p s v) := by
  obtain ⟨l, b, e1, e2, _⟩ := Ops_same N hN f (okF_small hf) s v
  rw [e1, ← e2]
  exact OpsV_eq N hN hf hp s v
/-- how often the pages were erased -/
def bal (f : Fl) (p : Nat) : Prop := f.2.getD 0 0 - f.2.getD 1 0 = -(p : Int)
theorem bal_step {f g : Fl} {p p' : Nat} (hp : p < 2) (hl : f.2.length = 2) (h : bal f p) (h' : (p' = p ∧ g.2 = f.2) ∨ (p' = 1 - p ∧ g.2 = f.2.set (1 - p) (f.2.getD (1 - p) 0 + 1))) : bal g p' := by
  unfold bal at *
  rcases h' with ⟨rfl, e⟩ | ⟨rfl, e⟩
  · rw [e]; exact h
  · rw [e]
    obtain rfl | rfl : p = 0 ∨ p = 1 := by omega
    · show (f.2.set 1 (f.2.getD 1 0 + 1)).getD 0 0 - (f.2.set 1 (f.2.getD 1 0 + 1)).getD 1 0 = _
      rw [gset _ _ _ _ (by omega), gset_ne _ _ _ _ _ (by omega)]
      omega
    · show (f.2.set 0 (f.2.getD 0 0 + 1)).getD 0 0 - (f.2.set 0 (f.2.getD 0 0 + 1)).getD 1 0 = _
      rw [gset _ _ _ _ (by omega), gset_ne _ _ _ _ _ (by omega)]
      omega

theorem Draw_L1 (N : Nat) (hN : 1048576 < N) (code : List Int) (hm : code.length ≤ maxN) (cuts : Bool) : ∀ (n m : Nat) (c : List Int × Int × Int) (f : Fl) (p : Nat) (K : Int) (hs : List Hnd) (D : List HRow), m < n → m ≤ 100 → okC code c → St f p K → K + m ≤ 400 →
    (cuts = false → bal f p) → Own (u := .int .i64) 2 D 0 D.length hs f.1 →
    ∃ hs' f' p' c' D', spec_l14Draw.L1 N n cuts (m : Int) c.1 c.2.1 c.2.2 hs f.2 D = some (((hs', f'.2), c'), D') ∧ St f' p' (K + m) ∧ (cuts = false → bal f' p') ∧ Own (u := .int .i64) 2 D' 0 D'.length hs' f'.1 := by
  intro n
  induction n with
  | zero => intro m c f p K hs D h; omega
  | succ n ih =>
    intro m c f p K hs D h1 h1' h2 h3 h4 h5 h6
    rw [spec_l14Draw.L1_eq]
    cases m with
    | zero =>
      rw [decide_eq_false (by omega), condF]
      exact ⟨hs, f, p, c, D, rfl, by simpa using h3, h5, h6⟩
    | succ m =>
      rw [decide_eq_true (by omega), condT]
      obtain ⟨s, c2, e2, s0, s1, k2⟩ := l1Below_ok N code (c.1, (c.2.1, c.2.2)) 4 h2 hm (by omega)
      rw [e2, bindV]
      dsimp only
      obtain ⟨v, c3, e3, v0, v1, k3⟩ := l1Below_ok N code c2 10000 k2 hm (by omega)
      rw [e3, bindV, h6.unok, condT, h6.un2]
      have hs' := okS_of s0 s1 v0 v1
      obtain ⟨oT, oL, cut⟩ := cut_St h3 (by omega) hs'
      have ew := SpecOps_eq N hN h3.1 h3.2.1 s v
      generalize opsV f p s v = O at oT oL cut ew
      have w3 : IntKind.wrap .i64 (((m + 1 : Nat) : Int) - 1) = (m : Int) := by rw [wrap64 (by omega) (by omega)]; omega
      obtain ⟨l2, l2', _⟩ := okF_facts h3.1
      dsimp only at ew ⊢
      rw [show ((f.1, f.2), s, v) = (f, s, v) from rfl, ew, bindV, w3]
      have whole : cutV f O.1 O.2 (O.1.length : Int) = runV f (O.1.take O.1.length) := by
        rw [cutV_all, oT, List.take_length]; rfl
      obtain ⟨g, p', r1, r2, _, r4⟩ := cut _ (Nat.le_refl _)
      obtain ⟨_, r4⟩ := r4 rfl
      have done : ∀ (cc : List Int × Int × Int), okC code cc → ∃ hs' f' p' c' D',
          (bif true then
            bindO (spec_CutSetting.H N ((f.1, f.2), s, v, (O.1.length : Int)) (hhide D)) fun r9 =>
            bif r9.1.2 then spec_l14Draw.L1 N n cuts (m : Int) cc.1 cc.2.1 cc.2.2 r9.1.1.1 r9.1.1.2 (hmerge D r9.2)
            else spec_l14Draw.L1 N n cuts (m : Int) cc.1 cc.2.1 cc.2.2 hs f.2 (hmerge D r9.2)
          else none) = some (((hs', f'.2), c'), D') ∧ St f' p' (K + ((m + 1 : Nat) : Int)) ∧ (cuts = false → bal f' p') ∧ Own (u := .int .i64) 2 D' 0 D'.length hs' f'.1 := fun cc kk => by
        obtain ⟨hs2, D2, e5, p5, o5⟩ := (CutS N hN f (okF_small h3.1) s v (O.1.length : Int) ew oL (hhide D)).call
        rw [whole, r1] at e5 o5
        have e5 : spec_CutSetting.H N ((f.1, f.2), s, v, (O.1.length : Int)) (hhide D) = some (((hs2, g.2), true), D2) := e5
        rw [condT, e5, bindV]
        dsimp only
        rw [condT]
        obtain ⟨hs3, f3, p3, c3, D3, e6, q1, q2, q3⟩ := ih m cc g p' (K + 1) hs2 (hmerge D D2) (by omega) (by omega) kk r2 (by omega) (fun hc => bal_step h3.2.1.1 l2' (h5 hc) r4) (o5.mono (Nat.zero_le _) (Nat.le_refl _))
        exact ⟨hs3, f3, p3, c3, D3, e6, by rw [show K + ((m + 1 : Nat) : Int) = K + 1 + (m : Int) by omega]; exact q1, q2, q3⟩
      cases cuts with
      | false =>
        rw [condF]
        exact done c3 k3
      | true =>
        rw [condT]
        obtain ⟨b, c6, e6, k6⟩ := l1OnceF_ok N code c3 4 k3 hm (by omega)
        rw [e6, bindV]
        cases b with
        | false =>
          rw [condF]
          exact done c6 k6
        | true =>
          rw [condT]
          have wl : IntKind.wrap .i64 ((O.1.length : Int) + 1) = ((O.1.length + 1 : Nat) : Int) := wrap_succ (by omega)
          obtain ⟨w, c7, e7, w0, w1, k7⟩ := l1Below_ok N code c6 ((O.1.length + 1 : Nat) : Int) k6 hm (by omega)
          obtain ⟨j, rfl⟩ : ∃ j : Nat, w = (j : Int) := ⟨w.toNat, by omega⟩
          rw [wl]
          dsimp only
          rw [e7, bindV, condT]
          obtain ⟨hs2, D2, e5, p5, o5⟩ := (CutS N hN f (okF_small h3.1) s v (j : Int) ew oL (hhide D)).call
          obtain ⟨g, p', r1, r2, _⟩ := cut j (by omega)
          have cj : cutV f O.1 O.2 (j : Int) = runV f (O.1.take j) := by
            unfold cutV inB
            rw [oT, decide_eq_true (show 0 ≤ (j : Int) ∧ (j : Int) ≤ (O.1.length : Int) by omega), Int.toNat_natCast]; rfl
          rw [cj, r1] at e5 o5
          have e5 : spec_CutSetting.H N ((f.1, f.2), s, v, (j : Int)) (hhide D) = some (((hs2, g.2), true), D2) := e5
          rw [e5, bindV]
          dsimp only
          rw [condT]
          obtain ⟨hs3, f3, p3, c3, D3, e6, q1, q2, q3⟩ := ih m c7 g p' (K + 1) hs2 (hmerge D D2) (by omega) (by omega) k7 r2 (by omega) (fun hc => by cases hc) (o5.mono (Nat.zero_le _) (Nat.le_refl _))
          exact ⟨hs3, f3, p3, c3, D3, e6, by rw [show K + ((m + 1 : Nat) : Int) = K + 1 + (m : Int) by omega]; exact q1, q2, q3⟩

theorem hmerge_nil (E : List HRow) : hmerge [] E = E := rfl
theorem hhide_nil : hhide ([] : List HRow) = [] := rfl

theorem MakeFl (N : Nat) (hN : 1048576 < N) (code : List Int) (hm : code.length ≤ 1048576) (cuts : Bool) :
    ∃ hs f p D, spec_MakeFlash.H N (code, cuts) (hhide ([] : List HRow)) = some ((hs, f.2), D) ∧ St f p 15 ∧ (cuts = false → bal f p) ∧ Own (u := .int .i64) 2 D 0 D.length hs f.1 := by
  have hm' : code.length ≤ maxN := by unfold maxN; omega
  obtain ⟨c, e, k⟩ := l24New_ok N code 13 hm' (by omega)
  obtain ⟨M, rfl⟩ : ∃ M, N = M + 25 := ⟨N - 25, by omega⟩
  rw [hhide_nil, spec_MakeFlash.H_eq, e, bindV, hhide_nil, spec_l14Draw.H_eq, hhide_nil, NewS, bindV, hmerge_nil]
  obtain ⟨v, c2, e2, v0, v1, k2⟩ := l1Below_ok (M + 25) code c 14 k hm' (by omega)
  obtain ⟨j, rfl⟩ : ∃ j : Nat, v = (j : Int) := ⟨v.toNat, by omega⟩
  dsimp only
  rw [e2, bindV]
  dsimp only
  obtain ⟨hs, f, p, c', D, e3, q1, q2, q3⟩ := Draw_L1 (M + 25) hN code hm' cuts (M + 25) j c2 newFl 0 1 [some (38, 0, 19), some (39, 0, 19)] newD (by omega) (by omega) k2 newSt (by omega) (fun _ => rfl) newOwn
  have e3 : spec_l14Draw.L1 (M + 25) (M + 25) cuts (j : Int) c2.1 c2.2.1 c2.2.2 [some (38, 0, 19), some (39, 0, 19)] [0, 0] newD = some (((hs, f.2), c'), D) := e3
  rw [e3, bindV]
  refine ⟨hs, f, p, D, rfl, ?_, q2, q3⟩
  obtain ⟨t1, t2, t3, t4⟩ := q1
  exact ⟨t1, t2, by omega, fun i hi => by have := t4 i hi; omega⟩
end Go.Kb
