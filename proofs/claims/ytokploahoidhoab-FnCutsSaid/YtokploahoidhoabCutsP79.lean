/- What a reading gives after the words of a record, of some of them, or of a whole fresh page. -/
import Derived.Test.YtokploahoidhoabCutsP78
namespace Go.Kb
set_option maxRecDepth 100000

theorem rdV_ext (s : Int) (pg pg' : List Int) : ∀ k, (∀ i, i < k → gives s pg' i = gives s pg i ∧ (gives s pg i = true → w2 pg' i = w2 pg i)) → rdV s pg' k = rdV s pg k
  | 0, _ => rfl
  | k + 1, h => by
    rw [rdV_succ, rdV_succ, (h k (by omega)).1, rdV_ext s pg pg' k (fun i hi => h i (by omega))]
    cases hg : gives s pg k
    · rw [condF, condF]
    · rw [condT, condT, (h k (by omega)).2 hg]
theorem rdV_tail (s : Int) (pg : List Int) (a : Nat) : ∀ k, a ≤ k → (∀ i, a ≤ i → i < k → gives s pg i = false) → rdV s pg k = rdV s pg a
  | 0, h, _ => by obtain rfl : a = 0 := by omega
                  rfl
  | k + 1, h, hg => by
    by_cases e : a = k + 1
    · rw [e]
    · rw [rdV_succ, hg k (by omega) (by omega), condF]
      exact rdV_tail s pg a k (by omega) (fun i h1 h2 => hg i h1 (by omega))
theorem okS_big (s : Int) : okS s 65535 = false := by
  unfold okS
  rw [decide_eq_false (show ¬ (0 ≤ (65535 : Int) ∧ (65535 : Int) ≤ 9999) by omega), Bool.and_false]
theorem gives_w2 (s : Int) (pg : List Int) (i : Nat) (h : w2 pg i = 65535) : gives s pg i = false := by
  unfold gives
  rw [h, okS_big, Bool.false_and, Bool.and_false]
theorem gives_w3 (s : Int) (pg : List Int) (i : Nat) (hh : 1 ≤ pg.getD 0 0 ∧ pg.getD 0 0 ≤ 60000) (h : w3 pg i = 65535) : gives s pg i = false := by
  unfold gives
  cases ho : okS s (w2 pg i)
  · rw [Bool.false_and, Bool.and_false]
  · have := (chkV_range ho hh).2
    have g : decide ((65535 : Int) = chkV s (w2 pg i) (pg.getD 0 0)) = false := decide_eq_false (by omega)
    rw [h, g, Bool.and_false, Bool.and_false]
/-- blank from record a on -/
def clean (pg : List Int) (a : Nat) : Prop := ∀ i, a ≤ i → i < 6 → w1 pg i = 65535 ∧ w2 pg i = 65535 ∧ w3 pg i = 65535
theorem blankR_iff (pg : List Int) (i : Nat) : blankR pg i = true ↔ (w1 pg i = 65535 ∧ w2 pg i = 65535 ∧ w3 pg i = 65535) := by
  unfold blankR w1 w2 w3
  simp only [Bool.and_eq_true, decide_eq_true_eq]
theorem fr_clean (pg : List Int) : ∀ k i, fr pg k ≤ i → i < k → blankR pg i = true
  | 0, i, _, h => by omega
  | k + 1, i, h1, h2 => by
    have e : fr pg (k + 1) = bif blankR pg k then fr pg k else k + 1 := rfl
    rw [e] at h1
    cases hb : blankR pg k
    · rw [hb, condF] at h1; omega
    · rw [hb, condT] at h1
      by_cases g : i = k
      · rw [g]; exact hb
      · exact fr_clean pg k i h1 (by omega)
theorem clean_fr (pg : List Int) : clean pg (fr pg 6) := fun i h1 h2 => (blankR_iff pg i).mp (fr_clean pg 6 i h1 h2)
/-- the words of a record can be written into a page that is blank there -/
theorem okW_rec {pg : List Int} (_hl : pg.length = 19) {a : Nat} (ha : a ≤ 5) (hc : clean pg a) {s v c : Int} (hs : okS s v = true) (h0 : 0 ≤ c ∧ c < 60000) : okW pg (recW a s v c) := by
  obtain ⟨b1, b2, b3⟩ := hc a (Nat.le_refl _) (by omega)
  obtain ⟨⟨s0, s1⟩, v0, v1⟩ := okS_facts hs
  unfold w1 at b1; unfold w2 at b2; unfold w3 at b3
  refine ⟨⟨by show 3 * a + 1 ≤ 18; omega, s0, by show s ≤ 65534; omega, b1⟩, ⟨by show 3 * a + 2 ≤ 18; omega, v0, by show v ≤ 65534; omega, ?_⟩, ⟨by show 3 * a + 3 ≤ 18; omega, h0.1, by show c ≤ 65534; omega, ?_⟩, trivial⟩
  · show (pg.set (3 * a + 1) s).getD (3 * a + 2) 0 = _
    rw [gset_ne _ _ _ _ _ (by omega)]; exact b2
  · show ((pg.set (3 * a + 1) s).set (3 * a + 2) v).getD (3 * a + 3) 0 = _
    rw [gset_ne _ _ _ _ _ (by omega), gset_ne _ _ _ _ _ (by omega)]; exact b3
/-- records apart from a have their words -/
theorem rec_apart (pg : List Int) (a i : Nat) (hi : i ≠ a) (ws : List (Nat × Int)) (hw : ∀ w ∈ ws, 3 * a + 1 ≤ w.1 ∧ w.1 ≤ 3 * a + 3) : w1 (wr pg ws) i = w1 pg i ∧ w2 (wr pg ws) i = w2 pg i ∧ w3 (wr pg ws) i = w3 pg i ∧ (wr pg ws).getD 0 0 = pg.getD 0 0 := by
  unfold w1 w2 w3
  refine ⟨wr_ne _ _ _ fun w h => ?_, wr_ne _ _ _ fun w h => ?_, wr_ne _ _ _ fun w h => ?_, wr_ne _ _ _ fun w h => ?_⟩ <;> have := hw w h <;> omega
theorem gives_apart (s : Int) (pg : List Int) (a i : Nat) (hi : i ≠ a) (ws : List (Nat × Int)) (hw : ∀ w ∈ ws, 3 * a + 1 ≤ w.1 ∧ w.1 ≤ 3 * a + 3) : gives s (wr pg ws) i = gives s pg i := by
  obtain ⟨e1, e2, e3, e4⟩ := rec_apart pg a i hi ws hw
  unfold gives
  rw [e1, e2, e3, e4]
theorem recW_at {a : Nat} {s v c : Int} {n : Nat} : ∀ w ∈ (recW a s v c).take n, 3 * a + 1 ≤ w.1 ∧ w.1 ≤ 3 * a + 3 := fun w h => by
  have h := List.mem_of_mem_take h
  unfold recW at h
  simp only [List.mem_cons, List.not_mem_nil, or_false] at h
  rcases h with rfl | rfl | rfl <;> dsimp only <;> omega
/-- a whole record -/
theorem rdV_rec {pg : List Int} (hl : pg.length = 19) {a : Nat} (ha : a ≤ 5) (hc : clean pg a) {s v : Int} (hs : okS s v = true) (i : Int) :
    rdV i (wr pg (recW a s v (chkV s v (pg.getD 0 0)))) 6 = (if i = s then (v, true) else rdV i pg 6) ∧ clean (wr pg (recW a s v (chkV s v (pg.getD 0 0)))) (a + 1) := by
  have hw : ∀ w ∈ recW a s v (chkV s v (pg.getD 0 0)), 3 * a + 1 ≤ w.1 ∧ w.1 ≤ 3 * a + 3 := fun w h => recW_at (n := 3) w (by exact h)
  have hz : ∀ j, a + 1 ≤ j → j < 6 → w1 (wr pg (recW a s v (chkV s v (pg.getD 0 0)))) j = 65535 ∧ w2 (wr pg (recW a s v (chkV s v (pg.getD 0 0)))) j = 65535 ∧ w3 (wr pg (recW a s v (chkV s v (pg.getD 0 0)))) j = 65535 := fun j h1 h2 => by
    obtain ⟨e1, e2, e3, _⟩ := rec_apart pg a j (by omega) _ hw
    rw [e1, e2, e3]; exact hc j (by omega) h2
  refine ⟨?_, hz⟩
  have e : wr pg (recW a s v (chkV s v (pg.getD 0 0))) = ((pg.set (3 * a + 1) s).set (3 * a + 2) v).set (3 * a + 3) (chkV s v (pg.getD 0 0)) := rfl
  have x1 : w1 (wr pg (recW a s v (chkV s v (pg.getD 0 0)))) a = s := by
    rw [e]; unfold w1
    rw [gset_ne _ _ _ _ _ (by omega), gset_ne _ _ _ _ _ (by omega), gset _ _ _ _ (by omega)]
  have x2 : w2 (wr pg (recW a s v (chkV s v (pg.getD 0 0)))) a = v := by
    rw [e]; unfold w2
    rw [gset_ne _ _ _ _ _ (by omega), gset _ _ _ _ (by rw [List.length_set]; omega)]
  have x3 : w3 (wr pg (recW a s v (chkV s v (pg.getD 0 0)))) a = chkV s v (pg.getD 0 0) := by
    rw [e]; unfold w3
    rw [gset _ _ _ _ (by rw [List.length_set, List.length_set]; omega)]
  have x0 : (wr pg (recW a s v (chkV s v (pg.getD 0 0)))).getD 0 0 = pg.getD 0 0 := (rec_apart pg a (a + 1) (by omega) _ hw).2.2.2
  have ga : gives i (wr pg (recW a s v (chkV s v (pg.getD 0 0)))) a = decide (s = i) := by
    unfold gives
    rw [x1, x2, x3, x0]
    by_cases g : s = i
    · subst g; rw [decide_eq_true rfl, hs, decide_eq_true rfl]; rfl
    · rw [decide_eq_false g, Bool.false_and]
  rw [rdV_tail i _ (a + 1) 6 (by omega) (fun j h1 h2 => gives_w2 _ _ _ (hz j h1 h2).2.1), rdV_succ, ga, x2, rdV_tail i pg a 6 (by omega) (fun j h1 h2 => gives_w2 _ _ _ (hc j h1 h2).2.1),
    rdV_ext i pg _ a (fun j hj => ⟨gives_apart i pg a j (by omega) _ hw, fun _ => (rec_apart pg a j (by omega) _ hw).2.1⟩)]
  by_cases g : s = i
  · rw [decide_eq_true g, condT, if_pos g.symm]
  · rw [decide_eq_false g, condF, if_neg fun e => g e.symm]
/-- a cut record -/
theorem rdV_cut {pg : List Int} (_hl : pg.length = 19) {a : Nat} (ha : a ≤ 5) (hc : clean pg a) (s v c : Int) (hh : 1 ≤ pg.getD 0 0 ∧ pg.getD 0 0 ≤ 60000) (i : Int) {n : Nat} (hn : n < 3) :
    rdV i (wr pg ((recW a s v c).take n)) 6 = rdV i pg 6 := by
  have hw : ∀ w ∈ (recW a s v c).take n, 3 * a + 1 ≤ w.1 ∧ w.1 ≤ 3 * a + 3 := recW_at
  obtain ⟨_, b2, b3⟩ := hc a (Nat.le_refl _) (by omega)
  refine rdV_ext i pg _ 6 fun j hj => ?_
  by_cases e : j = a
  · subst e
    have g0 : gives i pg j = false := gives_w2 _ _ _ b2
    have x3 : w3 (wr pg ((recW j s v c).take n)) j = 65535 := by
      unfold w3
      rw [wr_ne _ _ _ fun w h => ?_]
      · exact b3
      · obtain rfl | rfl | rfl : n = 0 ∨ n = 1 ∨ n = 2 := by omega
        · cases h
        · simp only [recW, List.take_succ_cons, List.take_zero, List.mem_cons, List.not_mem_nil, or_false] at h
          subst h; dsimp only; omega
        · simp only [recW, List.take_succ_cons, List.take_zero, List.mem_cons, List.not_mem_nil, or_false] at h
          rcases h with rfl | rfl <;> dsimp only <;> omega
    have x0 : (wr pg ((recW j s v c).take n)).getD 0 0 = pg.getD 0 0 := (rec_apart pg j (j + 1) (by omega) _ hw).2.2.2
    exact ⟨by rw [g0]; exact gives_w3 _ _ _ (by rw [x0]; exact hh) x3, fun h => by rw [g0] at h; cases h⟩
  · exact ⟨gives_apart i pg a j e _ hw, fun _ => (rec_apart pg a j e _ hw).2.1⟩

/-! ### a fresh page -/
theorem recsW_succ (val : Nat → Option Int) (h : Int) (m a : Nat) : recsW val h (m + 1) a = match val (3 - m) with
    | some x => recW a ((3 - m : Nat) : Int) x (chkV ((3 - m : Nat) : Int) x h) ++ recsW val h m (a + 1)
    | none => recsW val h m a := rfl
theorem recsW_pos (val : Nat → Option Int) (h : Int) : ∀ m a, ∀ w ∈ recsW val h m a, 1 ≤ w.1
  | 0, _, w, hw => by cases hw
  | m + 1, a, w, hw => by
    rw [recsW_succ] at hw
    cases hv : val (3 - m) with
    | none => rw [hv] at hw; exact recsW_pos val h m a w hw
    | some x =>
      rw [hv] at hw
      rcases List.mem_append.mp hw with g | g
      · have := recW_at (n := 3) w g; omega
      · exact recsW_pos val h m (a + 1) w g
theorem Fresh {val : Nat → Option Int} {H : Int} (hH : 1 ≤ H ∧ H ≤ 60000) (hval : ∀ k, k ≤ 3 → ∀ x, val k = some x → okS (k : Int) x = true) : ∀ (m a : Nat) (pg : List Int), m ≤ 4 → a + m ≤ 4 → pg.length = 19 → pg.getD 0 0 = H → clean pg a →
    okW pg (recsW val H m a) ∧ ∀ i : Nat, i ≤ 3 → rdV (i : Int) (wr pg (recsW val H m a)) 6 = if 4 - m ≤ i then (match val i with | some x => (x, true) | none => rdV (i : Int) pg 6) else rdV (i : Int) pg 6 := by
  intro m
  induction m with
  | zero =>
    intro a pg hm ha hl h0 hc
    exact ⟨trivial, fun i hi => by rw [if_neg (by omega)]; rfl⟩
  | succ m ih =>
    intro a pg hm ha hl h0 hc
    rw [recsW_succ]
    cases hv : val (3 - m) with
    | none =>
      obtain ⟨i1, i2⟩ := ih a pg (by omega) (by omega) hl h0 hc
      refine ⟨i1, fun i hi => ?_⟩
      show rdV (i : Int) (wr pg (recsW val H m a)) 6 = _
      rw [i2 i hi]
      by_cases g : i = 3 - m
      · subst g; rw [if_neg (by omega), if_pos (by omega), hv]
      · by_cases g2 : 4 - m ≤ i
        · rw [if_pos g2, if_pos (by omega)]
        · rw [if_neg g2, if_neg (by omega)]
    | some x =>
      have hs := hval (3 - m) (by omega) x hv
      have hr := fun i => rdV_rec hl (by omega : a ≤ 5) hc hs i
      rw [h0] at hr
      have h0' : (wr pg (recW a ((3 - m : Nat) : Int) x (chkV ((3 - m : Nat) : Int) x H))).getD 0 0 = H := by
        rw [(rec_apart pg a (a + 1) (by omega) _ (fun w h => recW_at (n := 3) w (by exact h))).2.2.2, h0]
      obtain ⟨i1, i2⟩ := ih (a + 1) _ (by omega) (by omega) (by rw [wr_len]; exact hl) h0' (hr 0).2
      refine ⟨(okW_app _ _ _).mpr ⟨okW_rec hl (by omega) hc hs (chkV_range hs hH), i1⟩, fun i hi => ?_⟩
      show rdV (i : Int) (wr pg (recW a ((3 - m : Nat) : Int) x (chkV ((3 - m : Nat) : Int) x H) ++ recsW val H m (a + 1))) 6 = _
      rw [wr_app, i2 i hi, (hr (i : Int)).1]
      by_cases g : i = 3 - m
      · subst g; rw [if_neg (by omega), if_pos rfl, if_pos (by omega), hv]
      · rw [if_neg (show ¬ (i : Int) = ((3 - m : Nat) : Int) by omega)]
        by_cases g2 : 4 - m ≤ i
        · rw [if_pos g2, if_pos (by omega)]
        · rw [if_neg g2, if_neg (by omega)]
theorem wr_set0 : ∀ (ws : List (Nat × Int)) (pg : List Int) (x : Int), (∀ w ∈ ws, 1 ≤ w.1) → (wr pg ws).set 0 x = wr (pg.set 0 x) ws
  | [], _, _, _ => rfl
  | w :: t, pg, x, h => by
    show (wr (pg.set w.1 w.2) t).set 0 x = wr ((pg.set 0 x).set w.1 w.2) t
    rw [wr_set0 t _ x (fun y hy => h y (List.mem_cons_of_mem _ hy)), List.set_comm _ _ (by have := h w List.mem_cons_self; omega)]
end Go.Kb
