/- A setting written, cut or whole: the flash stays in order, and readings. -/
import Derived.Test.YtokploahoidhoabCutsP79
namespace Go.Kb
set_option maxRecDepth 100000

/-- in order: the active page, small headers and counts -/
def St (f : Fl) (p : Nat) (K : Int) : Prop := okF f = true ∧ act f p ∧ hd f p ≤ K ∧ ∀ j, j < 2 → f.2.getD j 0 ≤ K
def pageOf (f : Fl) (p : Nat) : List Int := f.1.getD p []

theorem hd_set {f : Fl} {c : List Int} {q : Nat} {x : List Int} (h : q < f.1.length) : hd (f.1.set q x, c) q = x.getD 0 0 := by
  unfold hd; dsimp only; rw [gset _ _ _ _ h]
theorem hd_set_ne {f : Fl} {c : List Int} {q j : Nat} {x : List Int} (h : q ≠ j) : hd (f.1.set q x, c) j = hd f j := by
  unfold hd; dsimp only; rw [gset_ne _ _ _ _ _ h]

theorem blank_get : ∀ k, k < 19 → blank.getD k 0 = 65535 := by decide
theorem blank_clean (x : Int) : clean (blank.set 0 x) 0 := fun i _ h => by
  unfold w1 w2 w3
  rw [gset_ne _ _ _ _ _ (by omega), gset_ne _ _ _ _ _ (by omega), gset_ne _ _ _ _ _ (by omega)]
  exact ⟨blank_get _ (by omega), blank_get _ (by omega), blank_get _ (by omega)⟩
theorem rdV_clean (i : Int) (pg : List Int) (h : clean pg 0) : rdV i pg 6 = (0, false) := by
  rw [rdV_tail i pg 0 6 (by omega) (fun j _ h2 => gives_w2 _ _ _ (h j (by omega) h2).2.1)]; rfl
theorem okW_set0 : ∀ (ws : List (Nat × Int)) (pg : List Int) (x : Int), (∀ w ∈ ws, 1 ≤ w.1) → okW (pg.set 0 x) ws → okW pg ws
  | [], _, _, _, _ => trivial
  | w :: t, pg, x, h, ⟨⟨h1, h2, h3, h4⟩, h5⟩ => by
    have hw := h w List.mem_cons_self
    rw [gset_ne _ _ _ _ _ (by omega)] at h4
    refine ⟨⟨h1, h2, h3, h4⟩, okW_set0 t _ x (fun y hy => h y (List.mem_cons_of_mem _ hy)) ?_⟩
    rw [List.set_comm _ _ (by omega)]
    exact h5

theorem cut_St {f : Fl} {p : Nat} {K : Int} (h : St f p K) (hK : K ≤ 500) {s v : Int} (hs : okS s v = true) :
    (opsV f p s v).2 = true ∧ (opsV f p s v).1.length ≤ 14 ∧ ∀ n, n ≤ (opsV f p s v).1.length → ∃ g p', runV f ((opsV f p s v).1.take n) = (g, true) ∧ St g p' (K + 1) ∧
      (∀ i : Nat, i ≤ 3 → rdV (i : Int) (pageOf g p') 6 = rdV (i : Int) (pageOf f p) 6 ∨ ((i : Int) = s ∧ rdV (i : Int) (pageOf g p') 6 = (v, true))) ∧
      (n = (opsV f p s v).1.length → (∀ i : Nat, i ≤ 3 → rdV (i : Int) (pageOf g p') 6 = if (i : Int) = s then (v, true) else rdV (i : Int) (pageOf f p) 6) ∧
        ((p' = p ∧ g.2 = f.2) ∨ (p' = 1 - p ∧ g.2 = f.2.set (1 - p) (f.2.getD (1 - p) 0 + 1)))) := by
  obtain ⟨ok, ac, hK1, hc⟩ := h
  obtain ⟨p2, ⟨a1, a2⟩, a3⟩ := ac
  obtain ⟨l1, l2, l3, l4⟩ := okF_facts ok
  have pl : (pageOf f p).length = 19 := (pageOk ok p2).2.2
  have hp0 : (pageOf f p).getD 0 0 = hd f p := rfl
  unfold opsV
  rw [hs, condT]
  by_cases g : fr (f.1.getD p []) 6 < 6
  · rw [if_pos g]
    have cl := clean_fr (pageOf f p)
    have ck := chkV_range hs (h := hd f p) ⟨a1, a2⟩
    have ow := okW_rec pl (show fr (pageOf f p) 6 ≤ 5 from by show fr (f.1.getD p []) 6 ≤ 5; omega) cl hs ck
    refine ⟨rfl, by show 3 ≤ 14; omega, fun n hn => ?_⟩
    have hn3 : n ≤ 3 := hn
    obtain ⟨r1, r2⟩ := runV_w p2 ((recW (fr (pageOf f p) 6) s v (chkV s v (hd f p))).take n) f ok (okW_take _ _ _ ow)
    have hw : ∀ w ∈ (recW (fr (pageOf f p) 6) s v (chkV s v (hd f p))).take n, 3 * fr (pageOf f p) 6 + 1 ≤ w.1 ∧ w.1 ≤ 3 * fr (pageOf f p) 6 + 3 := recW_at
    have pg' : pageOf (f.1.set p (wr (f.1.getD p []) ((recW (fr (pageOf f p) 6) s v (chkV s v (hd f p))).take n)), f.2) p = wr (pageOf f p) ((recW (fr (pageOf f p) 6) s v (chkV s v (hd f p))).take n) := by
      unfold pageOf; dsimp only; rw [gset _ _ _ _ (by omega)]
    have h0 : hd (f.1.set p (wr (f.1.getD p []) ((recW (fr (pageOf f p) 6) s v (chkV s v (hd f p))).take n)), f.2) p = hd f p := by
      rw [hd_set (by omega)]
      exact (rec_apart (pageOf f p) _ (fr (pageOf f p) 6 + 1) (by omega) _ hw).2.2.2
    have h1 : hd (f.1.set p (wr (f.1.getD p []) ((recW (fr (pageOf f p) 6) s v (chkV s v (hd f p))).take n)), f.2) (1 - p) = hd f (1 - p) := hd_set_ne (by omega)
    have whole : n = 3 → ∀ i : Nat, i ≤ 3 → rdV (i : Int) (wr (pageOf f p) ((recW (fr (pageOf f p) 6) s v (chkV s v (hd f p))).take n)) 6 = if (i : Int) = s then (v, true) else rdV (i : Int) (pageOf f p) 6 := fun e i _ => by
      subst e
      exact (rdV_rec pl (by show fr (f.1.getD p []) 6 ≤ 5; omega) cl hs (i : Int)).1
    refine ⟨_, p, by rw [← List.map_take]; exact r1, ⟨r2, ⟨p2, by rw [h0]; exact ⟨a1, a2⟩, by rw [h0, h1]; exact a3⟩, by rw [h0]; omega, fun j hj => by have := hc j hj; dsimp only; omega⟩, fun i hi => ?_, fun hn' => ⟨fun i hi => ?_, Or.inl ⟨rfl, rfl⟩⟩⟩
    · rw [pg']
      by_cases e : n = 3
      · rw [whole e i hi]
        by_cases e2 : (i : Int) = s
        · exact Or.inr ⟨e2, by rw [if_pos e2]⟩
        · exact Or.inl (by rw [if_neg e2])
      · exact Or.inl (rdV_cut pl (by show fr (f.1.getD p []) 6 ≤ 5; omega) cl s v _ ⟨a1, a2⟩ (i : Int) (by omega))
    · rw [pg']
      exact whole hn' i hi
  · have hcq := hc (1 - p) (by omega)
    rw [if_neg g, if_neg (fun h => h.elim (fun e => by omega) (fun e => by omega))]
    have len3 : ∀ m a, (recsW (valV s v (f.1.getD p [])) (hd f p + 1) m a).length ≤ 3 * m := by
      intro m
      induction m with
      | zero => intro a; exact Nat.le_refl _
      | succ m ih =>
        intro a
        rw [recsW_succ]
        cases valV s v (f.1.getD p []) (3 - m) with
        | none => have := ih a; dsimp only; omega
        | some x => have := ih (a + 1); dsimp only; rw [List.length_append]; show 3 + _ ≤ _; omega
    have hval : ∀ k, k ≤ 3 → ∀ x, valV s v (f.1.getD p []) k = some x → okS (k : Int) x = true := fun k hk x hx => valV_ok hs _ hk hx
    have hH : 1 ≤ hd f p + 1 ∧ hd f p + 1 ≤ 60000 := by omega
    have b0 : (blank.set 0 (hd f p + 1)).getD 0 0 = hd f p + 1 := gset _ _ _ _ (by decide)
    obtain ⟨fo, fv⟩ := Fresh hH hval 4 0 (blank.set 0 (hd f p + 1)) (by omega) (by omega) (by rw [List.length_set]; rfl) b0 (blank_clean _)
    have rp := recsW_pos (valV s v (f.1.getD p [])) (hd f p + 1) 4 0
    have fo' := okW_set0 _ blank _ rp fo
    generalize hW : recsW (valV s v (f.1.getD p [])) (hd f p + 1) 4 0 = W at *
    have lW := len3 4 0
    rw [hW] at lW
    have okAll : okW blank (W ++ [(0, hd f p + 1)]) := by
      refine (okW_app _ _ _).mpr ⟨fo', ⟨Nat.zero_le _, by dsimp only; omega, by dsimp only; omega, ?_⟩, trivial⟩
      rw [wr_ne _ _ _ fun w hw => by have := rp w hw; omega]
      exact blank_get 0 (by omega)
    have e1 := doV_e ok (q := 1 - p) (by omega) (by omega)
    have ok1 : okF (f.1.set (1 - p) blank, f.2.set (1 - p) (f.2.getD (1 - p) 0 + 1)) = true := by
      have := doV_ok f (true, ((1 - p : Nat) : Int), 0, 0) (by rw [e1])
      rw [e1] at this; exact this
    have pgq : (f.1.set (1 - p) blank).getD (1 - p) [] = blank := gset _ _ _ _ (by omega)
    refine ⟨rfl, by simp only [List.length_cons, List.length_map, List.length_append, List.length_nil]; omega, fun n hn => ?_⟩
    have cnt : ∀ j, j < 2 → (f.2.set (1 - p) (f.2.getD (1 - p) 0 + 1)).getD j 0 ≤ K + 1 := fun j hj => by
      by_cases e : 1 - p = j
      · rw [← e, gset _ _ _ _ (by omega)]; omega
      · rw [gset_ne _ _ _ _ _ e]; have := hc j hj; omega
    cases n with
    | zero =>
      exact ⟨f, p, rfl, ⟨ok, ⟨p2, ⟨a1, a2⟩, a3⟩, by omega, fun j hj => by have := hc j hj; omega⟩, fun i _ => Or.inl rfl, fun hn' => by simp at hn'⟩
    | succ m =>
      simp only [List.length_cons, List.length_map, List.length_append, List.length_nil] at hn
      obtain ⟨r1, r2⟩ := runV_w (q := 1 - p) (by omega) ((W ++ [(0, hd f p + 1)]).take m) _ ok1 (by dsimp only; rw [pgq]; exact okW_take _ _ _ okAll)
      dsimp only at r1 r2
      rw [pgq, List.set_set] at r1 r2
      have run : runV f (List.take (m + 1) ((true, ((1 - p : Nat) : Int), 0, 0) :: (W ++ [(0, hd f p + 1)]).map (wop (1 - p)))) = ((f.1.set (1 - p) (wr blank ((W ++ [(0, hd f p + 1)]).take m)), f.2.set (1 - p) (f.2.getD (1 - p) 0 + 1)), true) := by
        rw [List.take_succ_cons, runV_cons, e1, condT, ← List.map_take]
        exact r1
      have same : hd (f.1.set (1 - p) (wr blank ((W ++ [(0, hd f p + 1)]).take m)), f.2.set (1 - p) (f.2.getD (1 - p) 0 + 1)) p = hd f p := hd_set_ne (by omega)
      have other : hd (f.1.set (1 - p) (wr blank ((W ++ [(0, hd f p + 1)]).take m)), f.2.set (1 - p) (f.2.getD (1 - p) 0 + 1)) (1 - p) = (wr blank ((W ++ [(0, hd f p + 1)]).take m)).getD 0 0 := hd_set (by omega)
      by_cases hm : m ≤ W.length
      · have tk : (W ++ [(0, hd f p + 1)]).take m = W.take m := List.take_append_of_le_length hm
        have oh : (wr blank ((W ++ [(0, hd f p + 1)]).take m)).getD 0 0 = 65535 := by
          rw [tk, wr_ne _ _ _ fun w hw => by have := rp w (List.mem_of_mem_take hw); omega]
          exact blank_get 0 (by omega)
        refine ⟨_, p, run, ⟨r2, ⟨p2, by rw [same]; exact ⟨a1, a2⟩, by rw [other, oh]; exact Or.inl (by omega)⟩, by rw [same]; omega, cnt⟩, fun i _ => Or.inl ?_, fun hn' => ?_⟩
        · unfold pageOf; dsimp only; rw [gset_ne _ _ _ _ _ (by omega)]
        · simp only [List.length_cons, List.length_map, List.length_append, List.length_nil] at hn'; omega
      · have tk : (W ++ [(0, hd f p + 1)]).take m = W ++ [(0, hd f p + 1)] := List.take_of_length_le (by rw [List.length_append]; show _ + 1 ≤ _; omega)
        have pe : wr blank (W ++ [(0, hd f p + 1)]) = wr (blank.set 0 (hd f p + 1)) W := by
          rw [wr_app]
          exact wr_set0 W blank (hd f p + 1) rp
        have h0 : (wr (blank.set 0 (hd f p + 1)) W).getD 0 0 = hd f p + 1 := by
          rw [wr_ne _ _ _ fun w hw => by have := rp w hw; omega]; exact b0
        rw [tk, pe] at run r2 same other
        rw [h0] at other
        have pq : pageOf (f.1.set (1 - p) (wr (blank.set 0 (hd f p + 1)) W), f.2.set (1 - p) (f.2.getD (1 - p) 0 + 1)) (1 - p) = wr (blank.set 0 (hd f p + 1)) W := gset _ _ _ _ (by omega)
        have val : ∀ i : Nat, i ≤ 3 → rdV (i : Int) (wr (blank.set 0 (hd f p + 1)) W) 6 = if (i : Int) = s then (v, true) else rdV (i : Int) (pageOf f p) 6 := fun i hi => by
          rw [fv i hi, if_pos (by omega), rdV_clean _ _ (blank_clean _)]
          show (match valV s v (pageOf f p) i with | some x => (x, true) | none => ((0 : Int), false)) = _
          unfold valV
          by_cases e : (i : Int) = s
          · rw [if_pos e, if_pos e]
          · rw [if_neg e, if_neg e]
            cases hb : (rdV (i : Int) (pageOf f p) 6).2
            · rw [condF, rdV_no _ _ _ hb]
            · rw [condT, ← hb]
        refine ⟨_, 1 - p, run, ⟨r2, ⟨by omega, by rw [other]; exact hH, ?_⟩, by rw [other]; omega, cnt⟩, fun i hi => ?_, fun _ => ⟨fun i hi => by rw [pq]; exact val i hi, Or.inr ⟨rfl, rfl⟩⟩⟩
        · rw [show 1 - (1 - p) = p by omega, same, other]; exact Or.inr (by omega)
        · rw [pq, val i hi]
          by_cases e : (i : Int) = s
          · exact Or.inr ⟨e, by rw [if_pos e]⟩
          · exact Or.inl (by rw [if_neg e])
end Go.Kb
