/- Records: the check as a value; what a reading gives; the operations that write a setting, as words. -/
import Derived.Test.YtokploahoidhoabCutsP77
namespace Go.Kb
set_option maxRecDepth 100000

def chkV (s v h : Int) : Int := Int.tmod (7 * s + 13 * v + 31 * h + 5) 60000
theorem okS_facts {s v : Int} (h : okS s v = true) : (0 ≤ s ∧ s ≤ 3) ∧ (0 ≤ v ∧ v ≤ 9999) := by
  unfold okS at h
  simpa only [Bool.and_eq_true, decide_eq_true_eq] using h
theorem chkV_range {s v h : Int} (hs : okS s v = true) (hh : 1 ≤ h ∧ h ≤ 60000) : 0 ≤ chkV s v h ∧ chkV s v h < 60000 := by
  obtain ⟨⟨a, _⟩, c, _⟩ := okS_facts hs
  unfold chkV
  exact ⟨Int.tmod_nonneg _ (by omega), Int.tmod_lt_of_pos _ (by omega)⟩
theorem Chk_eq (N : Nat) {s v h : Int} (hs : okS s v = true) (hh : 1 ≤ h ∧ h ≤ 60000) : impl_CheckOf.F N (s, v, h) = some (chkV s v h) := by
  obtain ⟨⟨a, b⟩, c, d⟩ := okS_facts hs
  rw [impl_CheckOf.F_eq, isSetting_eq, bindV, hs, notT, condF, decide_eq_false (by omega), condF, decide_eq_false (by omega), condF, wrap64 (x := 7 * s) (by omega) (by omega), wrap64 (x := 13 * v) (by omega) (by omega),
    wrap64 (x := 7 * s + 13 * v) (by omega) (by omega), wrap64 (x := 31 * h) (by omega) (by omega), wrap64 (x := 7 * s + 13 * v + 31 * h) (by omega) (by omega), wrap64 (by omega) (by omega)]
  rfl

def w1 (pg : List Int) (i : Nat) : Int := pg.getD (3 * i + 1) 0
def w2 (pg : List Int) (i : Nat) : Int := pg.getD (3 * i + 2) 0
def w3 (pg : List Int) (i : Nat) : Int := pg.getD (3 * i + 3) 0
/-- does record i give the setting? -/
def gives (s : Int) (pg : List Int) (i : Nat) : Bool := decide (w1 pg i = s) && (okS s (w2 pg i) && decide (w3 pg i = chkV s (w2 pg i) (pg.getD 0 0)))
def rdV (s : Int) (pg : List Int) : Nat → Int × Bool
  | 0 => (0, false)
  | i + 1 => bif gives s pg i then (w2 pg i, true) else rdV s pg i
theorem rdV_succ (s : Int) (pg : List Int) (i : Nat) : rdV s pg (i + 1) = bif gives s pg i then (w2 pg i, true) else rdV s pg i := rfl

theorem fits_gives (N : Nat) (s : Int) (pg : List Int) (hh : 1 ≤ pg.getD 0 0 ∧ pg.getD 0 0 ≤ 60000) (i : Nat) : fits N s pg i = gives s pg i := by
  unfold fits gives w1 w2 w3
  rw [beqI]
  cases ho : okS s (pg.getD (3 * i + 2) 0)
  · rw [Bool.false_and, Bool.false_and]
  · rw [Chk_eq N ho hh]
    congr 2
    by_cases g : pg.getD (3 * i + 3) 0 = chkV s (pg.getD (3 * i + 2) 0) (pg.getD 0 0)
    · rw [decide_eq_true g, g]; simp
    · rw [decide_eq_false g]
      simp only [beq_eq_false_iff_ne, ne_eq, Option.some.injEq]
      exact fun e => g e.symm
theorem rec_rdV (N : Nat) (s : Int) (pg : List Int) (hh : 1 ≤ pg.getD 0 0 ∧ pg.getD 0 0 ≤ 60000) : ∀ k, rec N s pg k = rdV s pg k
  | 0 => rfl
  | k + 1 => by
    show (bif fits N s pg k then _ else rec N s pg k) = bif gives s pg k then _ else rdV s pg k
    rw [fits_gives N s pg hh, rec_rdV N s pg hh k]; rfl
theorem ReadV (N : Nat) (hN : 1048576 < N) {f : Fl} (h : okF f = true) {p : Nat} (hp : act f p) (s : Int) : impl_ReadSetting.F N (f, s) = some (rdV s (f.1.getD p []) 6) := by
  rw [Read_eq N hN h hp, rec_rdV N s _ hp.2.1]
/-- what is read is a value that fits -/
theorem rdV_ok (s : Int) (pg : List Int) : ∀ k, (rdV s pg k).2 = true → okS s (rdV s pg k).1 = true
  | 0, h => by cases h
  | k + 1, h => by
    rw [rdV_succ] at h ⊢
    cases hg : gives s pg k
    · rw [hg, condF] at h; rw [condF]; exact rdV_ok s pg k h
    · rw [condT]
      unfold gives at hg
      simp only [Bool.and_eq_true] at hg
      exact hg.2.1
theorem rdV_no (s : Int) (pg : List Int) : ∀ k, (rdV s pg k).2 = false → rdV s pg k = (0, false)
  | 0, _ => rfl
  | k + 1, h => by
    rw [rdV_succ] at h ⊢
    cases hg : gives s pg k
    · rw [hg, condF] at h; rw [condF]; exact rdV_no s pg k h
    · rw [hg, condT] at h; cases h

/-! ### writing a record -/
def recW (a : Nat) (s v c : Int) : List (Nat × Int) := [(3 * a + 1, s), (3 * a + 2, v), (3 * a + 3, c)]
theorem recV_recW (q a : Nat) (ha : a ≤ 5) (s v c : Int) : recV (q : Int) (a : Int) s v c = (recW a s v c).map (wop q) := by
  have e0 : IntKind.wrap .i64 (3 * (a : Int)) = ((3 * a : Nat) : Int) := by rw [wrap64 (by omega) (by omega)]; omega
  have e1 : IntKind.wrap .i64 (1 + ((3 * a : Nat) : Int)) = ((3 * a + 1 : Nat) : Int) := by rw [wrap64 (by omega) (by omega)]; omega
  have e2 : IntKind.wrap .i64 (2 + ((3 * a : Nat) : Int)) = ((3 * a + 2 : Nat) : Int) := by rw [wrap64 (by omega) (by omega)]; omega
  have e3 : IntKind.wrap .i64 (3 + ((3 * a : Nat) : Int)) = ((3 * a + 3 : Nat) : Int) := by rw [wrap64 (by omega) (by omega)]; omega
  unfold recV
  rw [e0, e1, e2, e3]
  rfl
/-- the records of a fresh page -/
def recsW (val : Nat → Option Int) (h : Int) : Nat → Nat → List (Nat × Int)
  | 0, _ => []
  | m + 1, a => match val (3 - m) with
    | some x => recW a ((3 - m : Nat) : Int) x (chkV ((3 - m : Nat) : Int) x h) ++ recsW val h m (a + 1)
    | none => recsW val h m a
/-- what stays, what is new -/
def valV (s v : Int) (pg : List Int) (k : Nat) : Option Int := if (k : Int) = s then some v else bif (rdV (k : Int) pg 6).2 then some (rdV (k : Int) pg 6).1 else none
def opsV (f : Fl) (p : Nat) (s v : Int) : List FOp × Bool :=
  bif okS s v then
    (if fr (f.1.getD p []) 6 < 6 then ((recW (fr (f.1.getD p []) 6) s v (chkV s v (hd f p))).map (wop p), true)
    else if hd f p = 60000 ∨ f.2.getD (1 - p) 0 = 1000 then ([], false)
    else ((true, ((1 - p : Nat) : Int), 0, 0) :: (recsW (valV s v (f.1.getD p [])) (hd f p + 1) 4 0 ++ [(0, hd f p + 1)]).map (wop (1 - p)), true))
  else ([], false)

theorem valV_ok {s v : Int} (hs : okS s v = true) (pg : List Int) {k : Nat} (_hk : k ≤ 3) {x : Int} (h : valV s v pg k = some x) : okS (k : Int) x = true := by
  unfold valV at h
  by_cases g : (k : Int) = s
  · rw [if_pos g] at h; injection h with h; subst h; rw [g]; exact hs
  · rw [if_neg g] at h
    cases hb : (rdV (k : Int) pg 6).2
    · rw [hb, condF] at h; cases h
    · rw [hb, condT] at h; injection h with h; subst h; exact rdV_ok _ _ _ hb

theorem OpsV_L1 (N : Nat) (hN : 1048576 < N) {f : Fl} (hf : okF f = true) {p : Nat} (hp : act f p) {s v : Int} (hs : okS s v = true) (hh : hd f p ≤ 59999) : ∀ (m n a : Nat) (o : List FOp), m ≤ 4 → m < n → a + m ≤ 4 → o.length ≤ 20 - 3 * m →
    impl_SettingOps.L1 N n s v (hd f p) ((1 - p : Nat) : Int) (a : Int) ((4 - m : Nat) : Int) f.1 f.2 o = some (o ++ (recsW (valV s v (f.1.getD p [])) (hd f p + 1) m a ++ [(0, hd f p + 1)]).map (wop (1 - p)), true) := by
  have h1 := hp.2.1.1
  have wh : IntKind.wrap .i64 (hd f p + 1) = hd f p + 1 := wrap64 (by omega) (by omega)
  intro m
  induction m with
  | zero =>
    intro n a o _ hn _ ho
    obtain ⟨n, rfl⟩ : ∃ k, n = k + 1 := ⟨n - 1, by omega⟩
    have c1 : ∀ x : FOp, decide (o.length + List.length [x] ≤ maxN) = true := fun x => decide_eq_true (by unfold maxN; show o.length + 1 ≤ _; omega)
    rw [impl_SettingOps.L1_eq, decide_eq_false (by omega), condF, wh, c1, condT]
    rfl
  | succ m ih =>
    intro n a o hm hn ha ho
    obtain ⟨n, rfl⟩ : ∃ k, n = k + 1 := ⟨n - 1, by omega⟩
    have ek : ((4 - (m + 1) : Nat) : Int) = ((3 - m : Nat) : Int) := by omega
    have ws : IntKind.wrap .i64 (((3 - m : Nat) : Int) + 1) = ((4 - m : Nat) : Int) := by rw [wrap64 (by omega) (by omega)]; omega
    have wa : IntKind.wrap .i64 ((a : Int) + 1) = ((a + 1 : Nat) : Int) := wrap_succ (by omega)
    have rd : impl_ReadSetting.F N ((f.1, f.2), ((3 - m : Nat) : Int)) = some (rdV ((3 - m : Nat) : Int) (f.1.getD p []) 6) := ReadV N hN hf hp _
    have step : ∀ x : Int, okS ((3 - m : Nat) : Int) x = true → impl_recordOps.F N (((1 - p : Nat) : Int), (a : Int), ((3 - m : Nat) : Int), x, hd f p + 1) = some ((recW a ((3 - m : Nat) : Int) x (chkV ((3 - m : Nat) : Int) x (hd f p + 1))).map (wop (1 - p))) := fun x hx => by
      obtain ⟨r, _, e2, _, e4⟩ := Record_same N hN ((1 - p : Nat) : Int) (a : Int) ((3 - m : Nat) : Int) x (hd f p + 1) (by omega)
      rw [Chk_eq N hx (by omega)] at e2
      have e2 := Option.some.inj e2
      subst e2
      rw [e4, recV_recW _ _ (by omega)]
    have cap : ∀ l : List FOp, l.length = 3 → decide (o.length + l.length ≤ maxN) = true := fun l hl => decide_eq_true (by unfold maxN; omega)
    rw [ek, impl_SettingOps.L1_eq, decide_eq_true (show ((3 - m : Nat) : Int) < 4 by omega), condT, rd, bindV, beqI, wh, ws, wa]
    show _ = some (o ++ (recsW (valV s v (f.1.getD p [])) (hd f p + 1) (m + 1) a ++ [(0, hd f p + 1)]).map (wop (1 - p)), true)
    unfold recsW
    by_cases g : ((3 - m : Nat) : Int) = s
    · have hv : valV s v (f.1.getD p []) (3 - m) = some v := by unfold valV; rw [if_pos g]
      rw [decide_eq_true g, condT, step v (by rw [g]; exact hs), bindV, cap _ rfl, condT, hv, ih n (a + 1) _ (by omega) (by omega) (by omega) (by rw [List.length_append]; show _ + 3 ≤ _; omega)]
      simp only [List.map_append, List.append_assoc]
    · rw [decide_eq_false g, condF]
      cases hb : (rdV ((3 - m : Nat) : Int) (f.1.getD p []) 6).2
      · have hv : valV s v (f.1.getD p []) (3 - m) = none := by unfold valV; rw [if_neg g, hb, condF]
        rw [condF, hv, ih n a _ (by omega) (by omega) (by omega) (by omega)]
      · have hv : valV s v (f.1.getD p []) (3 - m) = some (rdV ((3 - m : Nat) : Int) (f.1.getD p []) 6).1 := by unfold valV; rw [if_neg g, hb, condT]
        rw [condT, step _ (rdV_ok _ _ _ hb), bindV, cap _ rfl, condT, hv, ih n (a + 1) _ (by omega) (by omega) (by omega) (by rw [List.length_append]; show _ + 3 ≤ _; omega)]
        simp only [List.map_append, List.append_assoc]

theorem OpsV_eq (N : Nat) (hN : 1048576 < N) {f : Fl} (hf : okF f = true) {p : Nat} (hp : act f p) (s v : Int) : impl_SettingOps.F N (f, s, v) = some (opsV f p s v) := by
  obtain ⟨a, b, c⟩ := pageOk hf hp.1
  obtain ⟨p2, ⟨h1, h2⟩, _⟩ := hp
  have hp : act f p := ⟨p2, ⟨h1, h2⟩, by assumption⟩
  have hh : nth 0 (f.1.getD p []) 0 = hd f p := nth_nat 0 _ 0
  have r0 : inRange 0 (f.1.getD p []).length = true := by rw [c]; rfl
  rw [impl_SettingOps.F_eq, Act_eq N hN hf hp, bindV, decide_eq_false (by omega), condF, isSetting_eq, bindV]
  unfold opsV
  cases hs : okS s v
  · rw [notF, condT, condF]
  rw [notT, condF, condT, b, condT, a, r0, condT, Free_eq N hN hf p2, bindV, hh]
  by_cases g : fr (f.1.getD p []) 6 < 6
  · obtain ⟨r, _, e2, _, e4⟩ := Record_same N hN (p : Int) (fr (f.1.getD p []) 6 : Int) s v (hd f p) ⟨h1, h2⟩
    rw [Chk_eq N hs ⟨h1, h2⟩] at e2
    have e2 := Option.some.inj e2
    subst e2
    rw [decide_eq_true (by omega), condT, e4, bindV, recV_recW _ _ (by omega), if_pos g]
  · have q1 : IntKind.wrap .i64 (1 - (p : Int)) = ((1 - p : Nat) : Int) := by rw [wrap64 (by omega) (by omega)]; omega
    obtain ⟨_, fb, _, _⟩ := okF_facts hf
    have cc := getD_cOk hf (p := 1 - p) (by omega)
    rw [decide_eq_false (by omega), condF, if_neg g, q1, inRange_nat, decide_eq_true (show 1 - p < f.2.length by omega), condT, nth_nat]
    by_cases g1 : hd f p = 60000
    · rw [decide_eq_true (by omega), condT, if_pos (Or.inl g1)]
    · rw [decide_eq_false (by omega), condF]
      by_cases g2 : f.2.getD (1 - p) 0 = 1000
      · rw [decide_eq_true (by omega), condT, if_pos (Or.inr g2)]
      · rw [decide_eq_false (by omega), condF, if_neg (fun h => h.elim g1 g2)]
        have := OpsV_L1 N hN hf hp hs (by omega) 4 N 0 [(true, ((1 - p : Nat) : Int), 0, 0)] (by omega) (by omega) (by omega) (by show 1 ≤ _; omega)
        exact this
end Go.Kb
