/- A press and a release: the walks. -/
import Derived.Test.YticidpdbkjgebabGreatExactWaitUntilP100
namespace Go.Kb
theorem nodup_len : ∀ (n : Nat) (l : List Nat), l.Nodup -> (∀ x ∈ l, x < n) -> l.length <= n := by
 intro n
 induction n with
 | zero =>
  intro l _ h
  cases l with
  | nil => exact nR _
  | cons x r => exact absurd (h x (by simp)) (by omega)
 | succ n ih =>
  intro l hd h
  by_cases hn : n ∈ l
  ·have h1 := ih (l.erase n) (hd.erase n) (fun x hx => by
    have h2 := (hd.mem_erase_iff).1 hx
    have := h x h2.2
    have := h2.1
    omega)
   have h2 := List.length_erase_of_mem hn
   have h3 := List.length_pos_of_mem hn
   omega
  ·exact Nat.le_succ_of_le (ih l hd fun x hx => by
    have := h x hx
    have : x ≠ n := fun e => hn (e ▸ hx)
    omega)
theorem hdP_len {l : List Hd} (h : hdP 0 l) : l.length <= 32 := by
 have h1 := nodup_len 32 (l.map fun h => h.1.toNat) (by
  rw [List.nodup_iff_pairwise_ne, List.pairwise_map]
  refine h.2.imp_of_mem fun {a b} ha hb hab => ?_
  have := h.1 a ha; have := h.1 b hb
  omega) (fun x hx => by
  obtain ⟨a, ha, rfl⟩ := List.mem_map.1 hx
  have := h.1 a ha
  omega)
 rw [List.length_map] at h1
 exact h1
theorem OkE.len {e : Eng} (h : OkE e) : e.2.2.2.1.length <= 32 := hdP_len h.held
theorem OkE.mcl {e : Eng} (h : OkE e) : ∀ x ∈ e.2.1, x.length <= 8 := fun x hx => (isMc_len (List.all_eq_true.1 h.mac x hx)).1
theorem OkE.small {e : Eng} (h : OkE e) : smallE e := ⟨h.map.small, ⟨by have := h.macs; omega, fun x hx => by have := h.mcl x hx; omega⟩, by have := h.len; omega⟩
theorem withP_keys (b : Rpt) (d : List Pr) : (withP b d).2.length <= 56 := codes_len _
theorem mrGo_keys (b : Rpt) : ∀ (ss : List MSt) (d : List Pr), ∀ r ∈ mrGo b d ss, r.2.length <= 56 := by
 intro ss
 induction ss with
 | nil => intro d r hr; cases hr
 | cons s t ih =>
  intro d r hr
  simp only [mrGo] at hr
  cases h0 : s.1 == 0 with
  | true =>
   rw [h0, condT] at hr
   rcases List.mem_cons.1 hr with rfl | hr
   ·exact withP_keys _ _
   ·rcases List.mem_cons.1 hr with rfl | hr
    ·exact withP_keys _ _
    ·exact ih d r hr
  | false =>
   rw [h0, condF] at hr
   cases h1 : s.1 == 1 with
   | true =>
    rw [h1, condT] at hr
    rcases List.mem_cons.1 hr with rfl | hr
    ·exact withP_keys _ _
    ·exact ih _ r hr
   | false =>
    rw [h1, condF] at hr
    rcases List.mem_cons.1 hr with rfl | hr
    ·exact withP_keys _ _
    ·exact ih _ r hr
theorem mcRep_small (l : List Hd) (ss : List MSt) : (mcRep l ss).length <= 16 /\ ∀ r ∈ mcRep l ss, r.2.length <= 56 := by
 unfold mcRep
 cases h : isH l && isMc ss with
 | false => simp
 | true =>
  rw [condT]
  rw [bA] at h
  have h1 := (isMc_len h.2).1
  have h2 := mrGo_len (repO l) ss []
  exact ⟨by omega, mrGo_keys _ _ _⟩
def prA (e : Eng) (key : Int) (hold : Bool) : Act := bif hold then holdO (actN e.1.2 (lyOn e.2.2.1 e.2.2.2.1) key) else tapO (actN e.1.2 (lyOn e.2.2.1 e.2.2.2.1) key)
theorem OkE.prA {e : Eng} (h : OkE e) {key : Int} (hk : 0 <= key /\ key < e.1.1) (hold : Bool) : okH e.1.2.length (Kb.prA e key hold) := by
 have h1 := h.map.len
 have ha := h.map.act hk (lyOn e.2.2.1 e.2.2.2.1)
 unfold Kb.prA
 cases hold with
 | true => exact hold_ok (by omega) ha
 | false => exact tap_ok (by omega) ha
theorem stl_n {fx on : Int} {cp : Bool} {a : Act} (h : 0 <= a.2.2.2) : 0 <= (stl fx on cp a).2.2.2.2.2.2 := by
 have : (stl fx on cp a).2.2.2.2.2.2 = a.2.2.2 := by
  unfold stl
  cases a.1 == 2 with
  | true => cases a.2.1 == 0 <;> rfl
  | false =>
   cases a.1 == 4 with
   | true => rfl
   | false =>
    cases a.1 == 5 with
    | true => rfl
    | false =>
     cases a.1 == 8 with
     | true => rfl
     | false => cases a.1 == 10 <;> rfl
 rw [this]; exact h
theorem prs_eq (e : Eng) (key : Int) (hold : Bool) : prs e key hold = (let s := stlE e (prA e key hold)
  ((s.2.1, s.2.2.1, s.2.2.2.1, e.2.2.2.1 ++ [(key, s.1)], s.2.2.2.2.2), chg (repO e.2.2.2.1) ((bif s.1.1 == 9 && decide (s.1.2.2.2 < e.2.1.length) then mcRep (e.2.2.2.1 ++ [(key, s.1)]) (e.2.1.getD s.1.2.2.2.toNat []) else []) ++ [repO (e.2.2.2.1 ++ [(key, s.1)])]))) := rfl
theorem hAtI_some {l : List Hd} {key : Int} (h : ∃ x ∈ l, x.1 = key) : hAtI l key = ((hIx l key : Nat) : Int) /\ hIx l key < l.length := by
 obtain ⟨x, x1, x2⟩ := h
 have ha : (l.any fun h => h.1 == key) = true := List.any_eq_true.2 ⟨x, x1, by rw [beq_iff_eq]; exact x2⟩
 refine ⟨by unfold hAtI; rw [ha, condT], ?_⟩
 unfold hIx
 exact List.findIdx_lt_length_of_exists ⟨x, x1, by rw [beq_iff_eq]; exact x2⟩
theorem hAtI_none {l : List Hd} {key : Int} (h : ∀ x ∈ l, x.1 ≠ key) : hAtI l key = -1 := by
 have ha : (l.any fun h => h.1 == key) = false := by
  rw [List.any_eq_false]
  intro x hx
  rw [beq_iff_eq]
  exact h x hx
 unfold hAtI
 rw [ha, condF]
theorem tail_spec (N : Nat) (hN : 1048576 < N) (e : Eng) (he : OkE e) (key : Int) (a : Act) (ha : 0 <= a.2.2.2) (x : Eng) :
  (bif decide (e.2.2.2.1.length + ([(key, a)] : List Hd).length <= maxN) then
   bif a.1 == (9 : Int) then
    bif decide (a.2.2.2 < (e.2.1.length : Int)) then
     bif zG a.2.2.2 e.2.1.length then
     bindO (zK.F N (e.2.2.2.1 ++ ([(key, a)] : List Hd), nth ([] : List MSt) e.2.1 a.2.2.2)) fun r9 =>
     bindO (zB.F N (e.2.2.2.1 ++ ([(key, a)] : List Hd))) fun r10 =>
     bif decide (r9.length + ([r10] : List Rpt).length <= maxN) then
     bindO (zB.F N e.2.2.2.1) fun r11 =>
     bindO (zP.F N (r11, r9 ++ ([r10] : List Rpt))) fun r12 =>
     some (x, (r12, true))
     else none
     else none
    else
     bindO (zB.F N (e.2.2.2.1 ++ ([(key, a)] : List Hd))) fun r13 =>
     bif decide (([] : List Rpt).length + ([r13] : List Rpt).length <= maxN) then
     bindO (zB.F N e.2.2.2.1) fun r14 =>
     bindO (zP.F N (r14, ([] : List Rpt) ++ ([r13] : List Rpt))) fun r15 =>
     some (x, (r15, true))
     else none
   else
    bindO (zB.F N (e.2.2.2.1 ++ ([(key, a)] : List Hd))) fun r16 =>
    bif decide (([] : List Rpt).length + ([r16] : List Rpt).length <= maxN) then
    bindO (zB.F N e.2.2.2.1) fun r17 =>
    bindO (zP.F N (r17, ([] : List Rpt) ++ ([r16] : List Rpt))) fun r18 =>
    some (x, (r18, true))
    else none
   else none) = some (x, chg (repO e.2.2.2.1) ((bif a.1 == 9 && decide (a.2.2.2 < e.2.1.length) then mcRep (e.2.2.2.1 ++ [(key, a)]) (e.2.1.getD a.2.2.2.toNat []) else []) ++ [repO (e.2.2.2.1 ++ [(key, a)])]), true) := by
 have hl := he.len
 have e1 := len1 e.2.2.2.1 (key, a) (by omega)
 have hl2 : (e.2.2.2.1 ++ [(key, a)]).length <= 33 := by rw [lA, List.length_singleton]; omega
 have r1 := repO_spec N hN (e.2.2.2.1 ++ [(key, a)]) (by omega)
 have r2 := repO_spec N hN e.2.2.2.1 (by omega)
 have k1 := (zB1 (e.2.2.2.1 ++ [(key, a)])).1
 have k2 := (zB1 e.2.2.2.1).1
 have c1 := chg_spec N hN (repO e.2.2.2.1) (by omega) [repO (e.2.2.2.1 ++ [(key, a)])] (by rw [List.length_singleton]; omega) (fun r hr => by rw [List.mem_singleton] at hr; subst hr; omega)
 have one := len1 ([] : List Rpt) (repO (e.2.2.2.1 ++ [(key, a)])) (by rw [List.length_nil]; omega)
 rw [e1, condT, r1, r2]
 simp only [bindV, one, condT, List.nil_append, c1]
 cases a.1 == 9 with
 | false => rfl
 | true =>
  simp only [condT, Bool.true_and]
  by_cases hn : a.2.2.2 < (e.2.1.length : Int)
  ·have hr : zG a.2.2.2 e.2.1.length = true := by unfold zG; rw [dT ha, dT hn]; rfl
   have hx : (nth [] e.2.1 a.2.2.2).length <= 8 := he.mcl _ (zBT [] e.2.1 _ (by omega))
   have hm := mr_spec N hN (e.2.2.2.1 ++ [(key, a)]) (by omega) (nth [] e.2.1 a.2.2.2) (by omega)
   have hs := mcRep_small (e.2.2.2.1 ++ [(key, a)]) (nth [] e.2.1 a.2.2.2)
   have e2 := len1 (mcRep (e.2.2.2.1 ++ [(key, a)]) (nth [] e.2.1 a.2.2.2)) (repO (e.2.2.2.1 ++ [(key, a)])) (by omega)
   have c2 := chg_spec N hN (repO e.2.2.2.1) (by omega) (mcRep (e.2.2.2.1 ++ [(key, a)]) (nth [] e.2.1 a.2.2.2) ++ [repO (e.2.2.2.1 ++ [(key, a)])]) (by rw [lA, List.length_singleton]; omega) (fun r hr => by
    rcases List.mem_append.1 hr with hr | hr
    ·have := hs.2 r hr; omega
    ·rw [List.mem_singleton] at hr; subst hr; omega)
   rw [dT hn, condT, hr, condT, hm, bindV, e2, condT, c2, bindV]
   rfl
  ·rw [dF hn, condF]; rfl
theorem press_spec (N : Nat) (hN : 1048576 < N) (e : Eng) (he : OkE e) (key : Nat) (hk : (key : Int) < e.1.1) (hn : ∀ x ∈ e.2.2.2.1, x.1 ≠ (key : Int)) (hold : Bool) : zAz.F N (e, (key : Int), hold) = some ((prs e (key : Int) hold).1, (prs e (key : Int) hold).2, true) := by
 have hp := he.prA ⟨by omega, hk⟩ hold
 have hh := he.len
 have h32 := he.map.keys
 have wk : IntKind.wrap .i64 (e.1.1 - 1) = e.1.1 - 1 := zBE (by omega) (by omega)
 have t1 := tail_spec N hN e he (key : Int) (stlE e (prA e (key : Int) hold)).1 (stl_n (okA_n hp.1).1)
 rw [zAz.F_eq, isE_spec N hN e he.small, bindV, (isE_iff e).2 he, notT, condF, zCA, bindV, wk, dT (show 0 <= (key : Int) /\ (key : Int) <= e.1.1 - 1 by omega), notT, condF, hAt_spec N hN e (by omega), bindV, hAtI_none hn, dF (by omega), condF]
 rw [copyE_spec N hN e he.small, bindV, ly_spec N hN _ _ (by omega), bindV, act_spec N hN he.map hk, bindV, hold_spec, tap_spec, bindV, bindV]
 rw [prs_eq]
 unfold prA at hp t1 ⊢
 cases hold with
 | true =>
  rw [condT] at hp t1 ⊢
  rw [settle_spec N e _ hp.1, bindV]
  exact t1 _
 | false =>
  rw [condF] at hp t1 ⊢
  rw [settle_spec N e _ hp.1, bindV]
  exact t1 _
theorem without_nat (N : Nat) (l : List Hd) (hl : l.length <= 1048576) (i : Nat) (hi : i < l.length) : yY.F N (l, (i : Int)) = some (l.take i ++ l.drop (i + 1)) := by
 rw [yY.F_eq]
 have ws : IntKind.wrap .i64 ((i : Int) + 1) = ((i + 1 : Nat) : Int) := yP (by omega)
 rw [ws, dT (show (0 : Int) <= (i : Int) by omega), dT (show (i : Int) <= (l.length : Int) by omega), dT (show (0 : Int) <= ((i + 1 : Nat) : Int) by omega), dT (show ((i + 1 : Nat) : Int) <= (l.length : Int) by omega)]
 have e1 : decide (([] : List Hd).length + (l.take (Int.toNat (i : Int))).length <= maxN) = true := dT (by rw [List.length_take, List.length_nil]; unfold maxN; omega)
 have e2 : decide ((([] : List Hd) ++ l.take (Int.toNat (i : Int))).length + (l.drop (Int.toNat ((i + 1 : Nat) : Int))).length <= maxN) = true := dT (by rw [List.nil_append, List.length_take, List.length_drop]; unfold maxN; omega)
 rw [e1, e2]
 rfl
theorem release_spec (N : Nat) (hN : 1048576 < N) (e : Eng) (he : OkE e) (key : Int) (hk : ∃ x ∈ e.2.2.2.1, x.1 = key) : zAs.F N (e, key) = some ((rls e key).1, (rls e key).2, true) := by
 have hl := he.len
 obtain ⟨h1, h2⟩ := hAtI_some hk
 have hrl : (rmv e.2.2.2.1 key).length <= 32 := by unfold rmv; rw [lA, List.length_take, List.length_drop]; omega
 have r1 := repO_spec N hN (rmv e.2.2.2.1 key) (by omega)
 have r2 := repO_spec N hN e.2.2.2.1 (by omega)
 have k1 := (zB1 (rmv e.2.2.2.1 key)).1
 have k2 := (zB1 e.2.2.2.1).1
 have c1 := chg_spec N hN (repO e.2.2.2.1) (by omega) [repO (rmv e.2.2.2.1 key)] (by rw [List.length_singleton]; omega) (fun r hr => by rw [List.mem_singleton] at hr; subst hr; omega)
 rw [zAs.F_eq, hAt_spec N hN e (by omega), bindV, isE_spec N hN e he.small, bindV, (isE_iff e).2 he, notT, condF, h1, dF (by omega), condF, copyE_spec N hN e he.small, bindV, without_nat N _ (by omega) _ h2, bindV]
 have er : e.2.2.2.1.take (hIx e.2.2.2.1 key) ++ e.2.2.2.1.drop (hIx e.2.2.2.1 key + 1) = rmv e.2.2.2.1 key := rfl
 rw [er, r2, bindV, r1, bindV, c1, bindV]
 rfl
end Go.Kb
