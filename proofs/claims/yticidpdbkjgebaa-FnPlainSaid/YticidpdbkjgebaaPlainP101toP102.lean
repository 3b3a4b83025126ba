/- A press and a release: the walks. -/
import Derived.Test.YticidpdbkjgebaaPlainP99toP100
namespace Go.Kb
theorem nodup_len : ∀ (n : Nat) (l : List Nat), l.Nodup -> (∀ x ∈ l, x < n) -> l.length <= n := by
 intro n
 induction n with
 | zero =>
  intro l _ h
  cases l with
  | nil => exact nR _
  | cons x r => exact absurd (h x (by simp)) (by omega)
 | succ n ih =>
  intro l hd h
  by_cases hn : n ∈ l
  ·have h1 := ih (l.erase n) (hd.erase n) (fun x hx => by
    have h2 := (hd.mem_erase_iff).1 hx
    have := h x h2.2
    have := h2.1
    omega)
   have h2 := List.length_erase_of_mem hn
   have h3 := List.length_pos_of_mem hn
   omega
  ·exact Nat.le_succ_of_le (ih l hd fun x hx => by
    have := h x hx
    have : x ≠ n := fun e => hn (e ▸ hx)
    omega)
theorem hdP_len {l : List Hd} (h : hdP 0 l) : l.length <= 32 := by
 have h1 := nodup_len 32 (l.map fun h => h.1.toNat) (by
  rw [List.nodup_iff_pairwise_ne, List.pairwise_map]
  refine h.2.imp_of_mem fun {a b} ha hb hab => ?_
  have := h.1 a ha; have := h.1 b hb
  omega) (fun x hx => by
  obtain ⟨a, ha, rfl⟩ := List.mem_map.1 hx
  have := h.1 a ha
  omega)
 rw [List.length_map] at h1
 exact h1
theorem OkE.len {e : Eng} (h : OkE e) : e.2.2.2.1.length <= 32 := hdP_len h.held
theorem OkE.mcl {e : Eng} (h : OkE e) : ∀ x ∈ e.2.1, x.length <= 8 := fun x hx => (isMc_len (List.all_eq_true.1 h.mac x hx)).1
theorem OkE.small {e : Eng} (h : OkE e) : smallE e := ⟨h.map.small, ⟨by have := h.macs; omega, fun x hx => by have := h.mcl x hx; omega⟩, by have := h.len; omega⟩
theorem withP_keys (b : Rpt) (d : List Pr) : (withP b d).2.length <= 56 := codes_len _
theorem mrGo_keys (b : Rpt) : ∀ (ss : List MSt) (d : List Pr), ∀ r ∈ mrGo b d ss, r.2.length <= 56 := by
 intro ss
 induction ss with
 | nil => intro d r hr; cases hr
 | cons s t ih =>
  intro d r hr
  simp only [mrGo] at hr
  cases h0 : s.1 == 0 with
  | true =>
   rw [h0, condT] at hr
   rcases List.mem_cons.1 hr with rfl | hr
   ·exact withP_keys _ _
   ·rcases List.mem_cons.1 hr with rfl | hr
    ·exact withP_keys _ _
    ·exact ih d r hr
  | false =>
   rw [h0, condF] at hr
   cases h1 : s.1 == 1 with
   | true =>
    rw [h1, condT] at hr
    rcases List.mem_cons.1 hr with rfl | hr
    ·exact withP_keys _ _
    ·exact ih _ r hr
   | false =>
    rw [h1, condF] at hr
    rcases List.mem_cons.1 hr with rfl | hr
    ·exact withP_keys _ _
    ·exact ih _ r hr
theorem mcRep_small (l : List Hd) (ss : List MSt) : (mcRep l ss).length <= 16 /\ ∀ r ∈ mcRep l ss, r.2.length <= 56 := by
 unfold mcRep
 cases h : isH l && isMc ss with
 | false => simp
 | true =>
  rw [condT]
  rw [bA] at h
  have h1 := (isMc_len h.2).1
  have h2 := mrGo_len (repO l) ss []
  exact ⟨by omega, mrGo_keys _ _ _⟩
def prA (e : Eng) (key : Int) (hold : Bool) : Act := bif hold then holdO (actN e.1.2 (lyOn e.2.2.1 e.2.2.2.1) key) else tapO (actN e.1.2 (lyOn e.2.2.1 e.2.2.2.1) key)
theorem OkE.prA {e : Eng} (h : OkE e) {key : Int} (hk : 0 <= key /\ key < e.1.1) (hold : Bool) : okH e.1.2.length (Kb.prA e key hold) := by
 have h1 := h.map.len
 have ha := h.map.act hk (lyOn e.2.2.1 e.2.2.2.1)
 unfold Kb.prA
 cases hold with
 | true => exact hold_ok (by omega) ha
 | false => exact tap_ok (by omega) ha
theorem stl_n {fx on : Int} {cp : Bool} {a : Act} (h : 0 <= a.2.2.2) : 0 <= (stl fx on cp a).2.2.2.2.2.2 := by
 have : (stl fx on cp a).2.2.2.2.2.2 = a.2.2.2 := by
  unfold stl
  cases a.1 == 2 with
  | true => cases a.2.1 == 0 <;> rfl
  | false =>
   cases a.1 == 4 with
   | true => rfl
   | false =>
    cases a.1 == 5 with
    | true => rfl
    | false =>
     cases a.1 == 8 with
     | true => rfl
     | false => cases a.1 == 10 <;> rfl
 rw [this]; exact h
theorem prs_eq (e : Eng) (key : Int) (hold : Bool) : prs e key hold = (let s := stlE e (prA e key hold)
  ((s.2.1, s.2.2.1, s.2.2.2.1, e.2.2.2.1 ++ [(key, s.1)], s.2.2.2.2.2), chg (repO e.2.2.2.1) ((bif s.1.1 == 9 && decide (s.1.2.2.2 < e.2.1.length) then mcRep (e.2.2.2.1 ++ [(key, s.1)]) (e.2.1.getD s.1.2.2.2.toNat []) else []) ++ [repO (e.2.2.2.1 ++ [(key, s.1)])]))) := rfl
theorem tail_impl (N : Nat) (hN : 1048576 < N) (e : Eng) (he : OkE e) (key : Int) (a : Act) (ha : 0 <= a.2.2.2) (x : Eng) :
  (bif decide (e.2.2.2.1.length + ([(key, a)] : List Hd).length <= maxN) then
   bif a.1 == (9 : Int) then
    bif decide (a.2.2.2 < (e.2.1.length : Int)) then
     bif zu a.2.2.2 e.2.1.length then
     bindO (zJ.F N (e.2.2.2.1 ++ ([(key, a)] : List Hd), nth ([] : List MSt) e.2.1 a.2.2.2)) fun r6 =>
     bindO (zI.F N (e.2.2.2.1 ++ ([(key, a)] : List Hd))) fun r7 =>
     bif decide (r6.length + ([r7] : List Rpt).length <= maxN) then
     bindO (zI.F N e.2.2.2.1) fun r8 =>
     bindO (zC.F N (r8, r6 ++ ([r7] : List Rpt))) fun r9 =>
     some (x, r9)
     else none
     else none
    else
     bindO (zI.F N (e.2.2.2.1 ++ ([(key, a)] : List Hd))) fun r10 =>
     bif decide (([r10] : List Rpt).length <= maxN) then
     bindO (zI.F N e.2.2.2.1) fun r11 =>
     bindO (zC.F N (r11, ([r10] : List Rpt))) fun r12 =>
     some (x, r12)
     else none
   else
    bindO (zI.F N (e.2.2.2.1 ++ ([(key, a)] : List Hd))) fun r13 =>
    bif decide (([r13] : List Rpt).length <= maxN) then
    bindO (zI.F N e.2.2.2.1) fun r14 =>
    bindO (zC.F N (r14, ([r13] : List Rpt))) fun r15 =>
    some (x, r15)
    else none
   else none) = some (x, chg (repO e.2.2.2.1) ((bif a.1 == 9 && decide (a.2.2.2 < e.2.1.length) then mcRep (e.2.2.2.1 ++ [(key, a)]) (e.2.1.getD a.2.2.2.toNat []) else []) ++ [repO (e.2.2.2.1 ++ [(key, a)])])) := by
 have hl := he.len
 have e1 := len1 e.2.2.2.1 (key, a) (by omega)
 have hl2 : (e.2.2.2.1 ++ [(key, a)]).length <= 33 := by rw [lA, List.length_singleton]; omega
 have r1 := repO_impl N hN (e.2.2.2.1 ++ [(key, a)]) (by omega)
 have r2 := repO_impl N hN e.2.2.2.1 (by omega)
 have k1 := (repO_codes (e.2.2.2.1 ++ [(key, a)])).1
 have k2 := (repO_codes e.2.2.2.1).1
 have c1 := chg_impl N hN (repO e.2.2.2.1) (by omega) [repO (e.2.2.2.1 ++ [(key, a)])] (by rw [List.length_singleton]; omega) (fun r hr => by rw [List.mem_singleton] at hr; subst hr; omega)
 have one : decide (([repO (e.2.2.2.1 ++ [(key, a)])] : List Rpt).length <= maxN) = true := dT (by rw [List.length_singleton]; unfold maxN; omega)
 rw [e1, condT, r1, r2]
 simp only [bindV, one, condT, c1]
 cases a.1 == 9 with
 | false => rfl
 | true =>
  simp only [condT, Bool.true_and]
  by_cases hn : a.2.2.2 < (e.2.1.length : Int)
  ·have hr : zu a.2.2.2 e.2.1.length = true := by unfold zu; rw [dT ha, dT hn]; rfl
   have hm := mr_impl N hN (e.2.2.2.1 ++ [(key, a)]) (by omega) (nth [] e.2.1 a.2.2.2)
   have hs := mcRep_small (e.2.2.2.1 ++ [(key, a)]) (nth [] e.2.1 a.2.2.2)
   have e2 := len1 (mcRep (e.2.2.2.1 ++ [(key, a)]) (nth [] e.2.1 a.2.2.2)) (repO (e.2.2.2.1 ++ [(key, a)])) (by omega)
   have c2 := chg_impl N hN (repO e.2.2.2.1) (by omega) (mcRep (e.2.2.2.1 ++ [(key, a)]) (nth [] e.2.1 a.2.2.2) ++ [repO (e.2.2.2.1 ++ [(key, a)])]) (by rw [lA, List.length_singleton]; omega) (fun r hr => by
    rcases List.mem_append.1 hr with hr | hr
    ·have := hs.2 r hr; omega
    ·rw [List.mem_singleton] at hr; subst hr; omega)
   rw [dT hn, condT, hr, condT, hm, bindV, e2, condT, c2, bindV]
   rfl
  ·rw [dF hn, condF]; rfl
theorem press_impl (N : Nat) (hN : 1048576 < N) (e : Eng) (he : OkE e) (key : Nat) (hk : (key : Int) < e.1.1) (hold : Bool) : yu.F N (e, (key : Int), hold) = some (prs e (key : Int) hold) := by
 have hp := he.prA ⟨by omega, hk⟩ hold
 have hl := he.map.len
 have hle := layN_le e.1.2 (lyOn e.2.2.1 e.2.2.2.1) (key : Int) (e.1.2.length - 1)
 have hh := he.len
 have hcell : nth ((0 : Int), ((0 : Int), ((0 : Int), (0 : Int)))) (e.1.2.getD (layN e.1.2 (lyOn e.2.2.1 e.2.2.2.1) (key : Int) (e.1.2.length - 1)) []) (key : Int) = actN e.1.2 (lyOn e.2.2.1 e.2.2.2.1) (key : Int) := by
  rw [nth_nat]; rfl
 have hr := he.map.rows hk (layN e.1.2 (lyOn e.2.2.1 e.2.2.2.1) (key : Int) (e.1.2.length - 1)) (by omega)
 have t1 := tail_impl N hN e he (key : Int) (stlE e (prA e (key : Int) hold)).1 (stl_n (okA_n hp.1).1)
 rw [yu.F_eq, copyE_impl N hN e he.small, bindV, ly_impl N hN _ _ (by omega), bindV, lay_impl N (by omega) he.map hk, bindV]
 rw [inRange_nat, dT (show layN e.1.2 (lyOn e.2.2.1 e.2.2.2.1) (key : Int) (e.1.2.length - 1) < e.1.2.length by omega), condT, inRange_nat, nth_nat, dT hr, condT]
 simp only [pEta]
 rw [hcell, hold_impl, tap_impl, bindV, bindV]
 rw [prs_eq]
 unfold prA at hp t1 ⊢
 cases hold with
 | true =>
  rw [condT] at hp t1 ⊢
  rw [settle_impl N e _ hp.1, bindV]
  exact t1 _
 | false =>
  rw [condF] at hp t1 ⊢
  rw [settle_impl N e _ hp.1, bindV]
  exact t1 _
theorem hAtI_some {l : List Hd} {key : Int} (h : ∃ x ∈ l, x.1 = key) : hAtI l key = ((hIx l key : Nat) : Int) /\ hIx l key < l.length := by
 obtain ⟨x, x1, x2⟩ := h
 have ha : (l.any fun h => h.1 == key) = true := List.any_eq_true.2 ⟨x, x1, by rw [beq_iff_eq]; exact x2⟩
 refine ⟨by unfold hAtI; rw [ha, condT], ?_⟩
 unfold hIx
 exact List.findIdx_lt_length_of_exists ⟨x, x1, by rw [beq_iff_eq]; exact x2⟩
theorem hAtI_none {l : List Hd} {key : Int} (h : ∀ x ∈ l, x.1 ≠ key) : hAtI l key = -1 := by
 have ha : (l.any fun h => h.1 == key) = false := by
  rw [List.any_eq_false]
  intro x hx
  rw [beq_iff_eq]
  exact h x hx
 unfold hAtI
 rw [ha, condF]
theorem release_impl (N : Nat) (hN : 1048576 < N) (e : Eng) (he : OkE e) (key : Int) (hk : ∃ x ∈ e.2.2.2.1, x.1 = key) : yp.F N (e, key) = some (rls e key) := by
 have hl := he.len
 obtain ⟨h1, h2⟩ := hAtI_some hk
 have ws : IntKind.wrap .i64 ((hIx e.2.2.2.1 key : Int) + 1) = ((hIx e.2.2.2.1 key + 1 : Nat) : Int) := y0 (by omega)
 have hrl : (rmv e.2.2.2.1 key).length <= 32 := by unfold rmv; rw [lA, List.length_take, List.length_drop]; omega
 have r1 := repO_impl N hN (rmv e.2.2.2.1 key) (by omega)
 have r2 := repO_impl N hN e.2.2.2.1 (by omega)
 have k1 := (repO_codes (rmv e.2.2.2.1 key)).1
 have k2 := (repO_codes e.2.2.2.1).1
 have c1 := chg_impl N hN (repO e.2.2.2.1) (by omega) [repO (rmv e.2.2.2.1 key)] (by rw [List.length_singleton]; omega) (fun r hr => by rw [List.mem_singleton] at hr; subst hr; omega)
 rw [yp.F_eq, copyE_impl N hN e he.small, bindV, hAt_impl N hN e (by omega), bindV, h1, ws]
 rw [dT (show (0 : Int) <= (hIx e.2.2.2.1 key : Int) by omega), dT (show (hIx e.2.2.2.1 key : Int) <= (e.2.2.2.1.length : Int) by omega), dT (show (0 : Int) <= ((hIx e.2.2.2.1 key + 1 : Nat) : Int) by omega), dT (show ((hIx e.2.2.2.1 key + 1 : Nat) : Int) <= (e.2.2.2.1.length : Int) by omega), dT (show Int.toNat (hIx e.2.2.2.1 key : Int) <= Int.toNat ((hIx e.2.2.2.1 key + 1 : Nat) : Int) by omega), dT (show e.2.2.2.1.length <= maxN by unfold maxN; omega)]
 simp only [Bool.and_self, condT, Int.toNat_natCast]
 have er : e.2.2.2.1.take (hIx e.2.2.2.1 key) ++ e.2.2.2.1.drop (hIx e.2.2.2.1 key + 1) = rmv e.2.2.2.1 key := rfl
 rw [er, r2, bindV, r1, bindV, c1, bindV]
 rfl
end Go.Kb
namespace Go.Kb
theorem isT_impl (N : Nat) (t : Tmg) : yh.F N t = some (isT t) := by
 rw [yh.F_eq]
 unfold isT
 simp only [cSome]
 congr 1
 rw [Bool.eq_iff_iff]
 simp only [bA, decide_eq_true_eq, Bool.and_false, Bool.or_false]
theorem hm_L1i (N : Nat) (l : List Hd) (hl : l.length <= 1048576) (hr : ∀ h ∈ l, 0 <= h.1 /\ h.1 <= 31) : ∀ (n i : Nat) (s : Int), i <= l.length -> l.length < n + i ->
  zX.L1 N n s l (l.length : Int) (i : Int) = some (hmGo s (l.drop i)) := by
 intro n
 induction n with
 | zero => intro i s h1 h2; omega
 | succ n ih =>
  intro i s h1 h2
  rw [zX.L1_eq]
  by_cases hi : i < l.length
  ·have ws : IntKind.wrap .i64 ((i : Int) + 1) = ((i + 1 : Nat) : Int) := y0 (by omega)
   have hk := (hr _ (nth_mem dH l i hi)).1
   rw [zAL dH l i hi]
   simp only [oJ, hi, decide_true, condT, inRange_nat, nth_nat, ws]
   rw [dT hk, condT, ih (i + 1) _ (by omega) (by omega)]
   rfl
  ·simp only [oJ, hi, decide_false, condF]
   rw [List.drop_of_length_le (by omega)]; rfl
theorem hm_impl (N : Nat) (hN : 1048576 < N) {e : Eng} (he : OkE e) : zX.F N e.2.2.2.1 = some (hmGo 0 e.2.2.2.1) := by
 have hl := he.len
 rw [zX.F_eq]
 have h := hm_L1i N e.2.2.2.1 (by omega) he.rng N 0 0 (by omega) (by omega)
 rw [List.drop_zero] at h
 exact h
abbrev dE : Ev := (0, 0, false)
def flw : Int -> Int -> List Ev -> Bool
 | _, _, [] => true
 | d, t, e :: r => evB e && (decide (t <= e.1) && (!(e.2.2 == bitB d e.2.1) && flw (zBa .i64 d (bit1 e.2.1)) e.1 r))
theorem flw_keys (keys : Int) : ∀ (l : List Ev) (d t : Int), ((l.all fun e => decide (e.2.1 < keys)) && flw d t l) = flB keys d t l := by
 intro l
 induction l with
 | nil => intro d t; rfl
 | cons e r ih =>
  intro d t
  simp only [List.all_cons, flw, flB]
  rw [<- ih]
  have e1 : decide (e.2.1 < keys /\ t <= e.1) = (decide (e.2.1 < keys) && decide (t <= e.1)) := by
   rw [Bool.eq_iff_iff]; simp only [bA, decide_eq_true_eq]
  rw [e1]
  cases decide (e.2.1 < keys) <;> cases (r.all fun e => decide (e.2.1 < keys)) <;> cases evB e <;> cases decide (t <= e.1) <;> cases !(e.2.2 == bitB d e.2.1) <;> rfl
theorem follow_v (N : Nat) (l : List Ev) (hl : l.length <= 1048576) : ∀ (n i : Nat) (d t : Int), i <= l.length -> l.length < n + i -> (i = 0 -> t = 0) -> (0 < i -> t = (l.getD (i - 1) dE).1) ->
  ∃ x, zy.L1 N n l d l (l.length : Int) (i : Int) = some (x, flw d t (l.drop i)) := by
 intro n
 induction n with
 | zero => intro i d t h1 h2; omega
 | succ n ih =>
  intro i d t h1 h2 h3 h4
  rw [zy.L1_eq]
  by_cases hi : i < l.length
  ·have ws : IntKind.wrap .i64 ((i : Int) + 1) = ((i + 1 : Nat) : Int) := y0 (by omega)
   rw [zAL dE l i hi]
   obtain ⟨x, hx⟩ := ih (i + 1) (zBa .i64 d (bit1 (l.getD i dE).2.1)) (l.getD i dE).1 (by omega) (by omega) (by omega) (by intro _; rw [Nat.add_sub_cancel])
   simp only [oJ, hi, decide_true, condT, inRange_nat, nth_nat, ws, pEta, flw]
   obtain ⟨e, he⟩ : ∃ e, l.getD i dE = e := ⟨_, rfl⟩
   simp only [he] at hx ⊢
   rw [show yk.F N e = some (isEv e.1 e.2.1) from IsEv_impl N e.1 e.2, bindV]
   unfold evB
   cases hev : isEv e.1 e.2.1 with
   | false => rw [notF, condT]; exact ⟨_, rfl⟩
   | true =>
    have hev' := hev
    unfold isEv at hev'
    simp only [bA, decide_eq_true_eq] at hev'
    rw [notT, condF, Bool.true_and]
    have inner : ∃ y, (bindO (zAD.F N (d, e.2.1)) fun r2 => bif e.2.2 == (r2 == (1 : Int)) then some ((0 : Int), false) else bif decide (0 <= e.2.1) then zy.L1 N n l (zBa .i64 d (zBS .i64 (1 : Int) e.2.1)) l (l.length : Int) ((i + 1 : Nat) : Int) else none) = some (y, !(e.2.2 == bitB d e.2.1) && flw (zBa .i64 d (bit1 e.2.1)) e.1 (l.drop (i + 1))) := by
     rw [zAD.F_eq, dT hev'.2.1, condT, bindV, condT]
     have hx : zy.L1 N n l (zBa .i64 d (zBS .i64 1 e.2.1)) l (l.length : Int) ((i + 1 : Nat) : Int) = some (x, flw (zBa .i64 d (bit1 e.2.1)) e.1 (l.drop (i + 1))) := hx
     rw [hx]
     have eb : (zBg .i64 (zCA .i64 d e.2.1) 1 == 1) = bitB d e.2.1 := rfl
     rw [eb]
     cases e.2.2 == bitB d e.2.1 with
     | true => exact ⟨_, rfl⟩
     | false => exact ⟨_, rfl⟩
    obtain ⟨y, hy⟩ := inner
    by_cases h0 : i = 0
    ·subst h0
     have ht := h3 rfl
     rw [dF (show ¬ (((0 : Nat) : Int) > 0) by omega), condF, dT (show t <= e.1 by omega), Bool.true_and]
     exact ⟨y, hy⟩
    ·have ht := h4 (by omega)
     have wp : IntKind.wrap .i64 ((i : Int) - 1) = ((i - 1 : Nat) : Int) := by rw [zAl (by omega) (by omega)]; omega
     rw [dT (show ((i : Nat) : Int) > 0 by omega), condT, wp, inRange_nat, dT (show i - 1 < l.length by omega), condT, nth_nat, <- ht]
     by_cases hg : t <= e.1
     ·rw [dF (show ¬ t > e.1 by omega), condF, dT hg, Bool.true_and]
      exact ⟨y, hy⟩
     ·rw [dT (show t > e.1 by omega), condT, dF hg]
      exact ⟨_, rfl⟩
  ·simp only [oJ, hi, decide_false, condF]
   rw [List.drop_of_length_le (by omega)]
   exact ⟨_, rfl⟩
theorem follow_full (N : Nat) (hN : 1048576 < N) (l : List Ev) (d : Int) : ∃ x, zy.F N (l, d) = some (x, decide (l.length <= 64) && flw d 0 l) := by
 rw [zy.F_eq]
 by_cases h : l.length <= 64
 ·obtain ⟨x, hx⟩ := follow_v N l (by omega) N 0 d 0 (by omega) (by omega) (fun _ => rfl) (by omega)
  rw [List.drop_zero] at hx
  rw [dF (show ¬ (l.length : Int) > 64 by omega), condF, dT h, Bool.true_and]
  exact ⟨x, hx⟩
 ·rw [dT (show (l.length : Int) > 64 by omega), condT, dF h]
  exact ⟨_, rfl⟩
theorem fits_impl (N : Nat) (hN : 2200000 < N) (l : List Ev) (hl : l.length <= 2100000) (d keys : Int) : zS.F N (l, d, keys) = some (fits l d keys) := by
 obtain ⟨x, hx⟩ := follow_full N (by omega) l d
 have gl : ∀ (n i : Nat), i <= l.length -> l.length < n + i -> zS.L1 N n l d keys l (l.length : Int) (i : Int) = some (((l.drop i).all fun e => decide (e.2.1 < keys)) && (decide (l.length <= 64) && flw d 0 l)) := by
  intro n
  induction n with
  | zero => intro i h1 h2; omega
  | succ n ih =>
   intro i h1 h2
   rw [zS.L1_eq]
   by_cases hi : i < l.length
   ·have ws : IntKind.wrap .i64 ((i : Int) + 1) = ((i + 1 : Nat) : Int) := y0 (by omega)
    have ex : decide ((l.getD i dE).2.1 >= keys) = !decide ((l.getD i dE).2.1 < keys) := by
     rw [Bool.eq_iff_iff]; simp only [decide_eq_true_eq, Bool.not_eq_true', decide_eq_false_iff_not]; omega
    rw [zAL dE l i hi, List.all_cons]
    simp only [oJ, hi, decide_true, condT, inRange_nat, nth_nat, ws, ih (i + 1) (by omega) (by omega), ex]
    cases decide ((l.getD i dE).2.1 < keys) <;> rfl
   ·simp only [oJ, hi, decide_false, condF]
    rw [hx, bindV, List.drop_of_length_le (by omega)]; rfl
 rw [zS.F_eq]
 have g := gl N 0 (by omega) (by omega)
 rw [List.drop_zero] at g
 unfold fits
 rw [<- flw_keys]
 refine g.trans ?_
 cases decide (l.length <= 64) <;> cases (l.all fun e => decide (e.2.1 < keys)) <;> rfl
theorem lT_last : ∀ (l : List Ev) (t : Int), 0 < l.length -> (l.getD (l.length - 1) dE).1 = lT t l := by
 intro l
 induction l with
 | nil => intro t h; simp at h
 | cons e r ih =>
  intro t _
  have e1 : lT t (e :: r) = lT e.1 r := by simp only [lT, List.foldl_cons]
  rw [e1]
  cases r with
  | nil => rfl
  | cons x s =>
   have := ih e.1 (by simp)
   simpa using this
theorem behind_impl (N : Nat) (l : List Ev) (hl : l.length <= 2100000) (t : Int) (ht : 0 <= t) : yH.F N (l, t) = some (decide (lT 0 l <= t)) := by
 rw [yH.F_eq]
 by_cases h : l.length = 0
 ·rw [bI (show (l.length : Int) = 0 by omega), condT, List.length_eq_zero_iff.1 h]
  exact congrArg some (dT (show lT 0 [] <= t from ht)).symm
 ·have wp : IntKind.wrap .i64 ((l.length : Int) - 1) = ((l.length - 1 : Nat) : Int) := by rw [zAl (by omega) (by omega)]; omega
  rw [bN (show (l.length : Int) ≠ 0 by omega), condF, wp, inRange_nat, dT (show l.length - 1 < l.length by omega), condT, nth_nat, lT_last l 0 (by omega)]
def smallD (d : Dcd) : Prop := smallE d.1 /\ d.2.2.1.length <= 1048576
theorem isD_impl (N : Nat) (hN : 2200000 < N) (d : Dcd) (h : smallD d) : yJ.F N d = some (isD d) := by
 have hq := h.2
 rw [yJ.F_eq, isE_impl N (by omega) d.1 h.1, bindV, isT_impl, bindV]
 unfold isD
 cases he : isE d.1 with
 | false => rfl
 | true =>
  have hE := (isE_iff _).1 he
  rw [notT, condF, Bool.true_and]
  cases isT d.2.1 with
  | false => rfl
  | true =>
   rw [notT, condF, Bool.true_and]
   by_cases c1 : d.2.2.2.1 < 0
   ·rw [dT c1, condT, dF (show ¬ (0 <= d.2.2.2.1 /\ d.2.2.2.1 <= 1000000 /\ 0 <= d.2.2.2.2.1 /\ d.2.2.2.2.1 <= d.2.2.2.1) by omega)]; rfl
   by_cases c2 : d.2.2.2.1 > 1000000
   ·rw [dF c1, condF, dT c2, condT, dF (show ¬ (0 <= d.2.2.2.1 /\ d.2.2.2.1 <= 1000000 /\ 0 <= d.2.2.2.2.1 /\ d.2.2.2.2.1 <= d.2.2.2.1) by omega)]; rfl
   by_cases c3 : d.2.2.2.2.1 < 0
   ·rw [dF c1, condF, dF c2, condF, dT c3, condT, dF (show ¬ (0 <= d.2.2.2.1 /\ d.2.2.2.1 <= 1000000 /\ 0 <= d.2.2.2.2.1 /\ d.2.2.2.2.1 <= d.2.2.2.1) by omega)]; rfl
   by_cases c4 : d.2.2.2.2.1 > d.2.2.2.1
   ·rw [dF c1, condF, dF c2, condF, dF c3, condF, dT c4, condT, dF (show ¬ (0 <= d.2.2.2.1 /\ d.2.2.2.1 <= 1000000 /\ 0 <= d.2.2.2.2.1 /\ d.2.2.2.2.1 <= d.2.2.2.1) by omega)]; rfl
   rw [dF c1, condF, dF c2, condF, dF c3, condF, dF c4, condF, dT (show 0 <= d.2.2.2.1 /\ d.2.2.2.1 <= 1000000 /\ 0 <= d.2.2.2.2.1 /\ d.2.2.2.2.1 <= d.2.2.2.1 by omega), Bool.true_and]
   rw [hm_impl N (by omega) hE, bindV, fits_impl N hN _ (by omega), bindV, behind_impl N _ (by omega) _ (by omega), bindV]
   cases fits d.2.2.1 (hmGo 0 d.1.2.2.2.1) d.1.1.1 with
   | false => rfl
   | true =>
    rw [notT, condF, Bool.true_and]
    cases decide (lT 0 d.2.2.1 <= d.2.2.2.1) with
    | false => rfl
    | true =>
     rw [notT, condF, Bool.true_and]
     simp only [cSome]
     congr 1
     rw [Bool.eq_iff_iff]
     simp only [bA, decide_eq_true_eq, Bool.and_false, Bool.or_false]
theorem chGo_i (N : Nat) (fl key time now term quick : Int) (l : List Ev) (hl : l.length <= 1048576) (he : IntKind.wrap .i64 (time + term) = time + term) : ∀ (n i : Nat) (dn : Int), i <= l.length -> l.length < n + i ->
  zV.L1 N n key time now dn l (l.length : Int) (i : Int) term quick fl = some (chGo fl key (time + term) now dn (l.drop i)) := by
 intro n
 induction n with
 | zero => intro i dn h1 h2; omega
 | succ n ih =>
  intro i dn h1 h2
  rw [zV.L1_eq]
  by_cases hi : i < l.length
  ·have ws : IntKind.wrap .i64 ((i : Int) + 1) = ((i + 1 : Nat) : Int) := y0 (by omega)
   rw [zAL dE l i hi]
   simp only [oJ, hi, decide_true, condT, inRange_nat, nth_nat, ws, he, pEta, chGo, zAD.F_eq, ih (i + 1) _ (by omega) (by omega), ge_iff_le]
   generalize l.getD i dE = e
   rw [show yk.F N e = some (isEv e.1 e.2.1) from IsEv_impl N e.1 e.2, bindV]
   unfold evB
   cases hev : isEv e.1 e.2.1 with
   | false => rfl
   | true =>
    have hev' := hev
    unfold isEv at hev'
    simp only [bA, decide_eq_true_eq] at hev'
    rw [dT hev'.2.1]
    simp only [condT, bindV]
    have eb : (zBg .i64 (zCA .i64 dn e.2.1) 1 == 1) = bitB dn e.2.1 := rfl
    have ec : bitOr .i64 dn (zBS .i64 1 e.2.1) = bitOr .i64 dn (bit1 e.2.1) := rfl
    rw [eb, ec]
    cases decide (time + term <= e.1) <;> cases e.2.1 == key <;> cases e.2.2 <;> cases fl == 1 <;> cases fl == 2 <;> cases bitB dn e.2.1 <;> rfl
  ·simp only [oJ, hi, decide_false, condF, he]
   rw [List.drop_of_length_le (by omega)]
   simp only [chGo, ge_iff_le]
   cases decide (time + term <= now) <;> rfl
theorem chc_impl (N : Nat) (hN : 1048576 < N) (t : Tmg) (key time : Int) (l : List Ev) (hl : l.length <= 1048576) (now : Int) : zV.F N (t, key, time, l, now) = some (chc t key time l now) := by
 rw [zV.F_eq, isT_impl, bindV]
 unfold chc
 cases ht : isT t with
 | false => rfl
 | true =>
  have hT := (isT_iff t).1 ht
  rw [notT, condF, Bool.true_and]
  by_cases c1 : time < 0
  ·rw [dT c1, condT, dF (show ¬ (0 <= time /\ time <= 1000000) by omega), condF]
  by_cases c2 : time > 1000000
  ·rw [dF c1, condF, dT c2, condT, dF (show ¬ (0 <= time /\ time <= 1000000) by omega), condF]
  rw [dF c1, condF, dF c2, condF, dT (show 0 <= time /\ time <= 1000000 by omega), condT]
  have g := chGo_i N t.2.2 key time now t.1 t.2.1 l hl (zAl (by omega) (by omega)) N 0 0 (by omega) (by omega)
  rw [List.drop_zero] at g
  exact g
end Go.Kb
