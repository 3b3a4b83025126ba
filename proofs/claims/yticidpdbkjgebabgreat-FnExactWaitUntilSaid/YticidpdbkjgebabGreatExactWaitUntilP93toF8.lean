/- Valid deciders stay valid; what a step does. -/
import Derived.Test.YticidpdbkjgebabGreatExactWaitUntilP91toP92
import Derived.Test.YticidpdbkjgebabGreatExactWaitUntilP0toF3
import Derived.Test.YticidpdbkjgebabGreatExactWaitUntilF4
import Derived.Test.YticidpdbkjgebabGreatExactWaitUntilP15toP90
import Derived.KernelRfl
namespace Go.Kb
theorem flB_fol (keys : Nat) (hk : keys <= 32) : ∀ (l : List Ev) (h : Nat) (t : Int), h < 4294967296 -> 0 <= t -> (flB (keys : Int) (h : Int) t l = true ↔ fol keys h t l) := by
 intro l
 induction l with
 | nil => intro h t _ _; simp [flB, fol]
 | cons e r ih =>
  intro h t hh ht
  simp only [flB, fol, bA, decide_eq_true_eq, evB, isEv]
  constructor
  ·rintro ⟨⟨⟨a1, a2⟩, a3, a4⟩, ⟨b1, b2⟩, c, d⟩
   obtain ⟨k, hk'⟩ := Int.eq_ofNat_of_zero_le a3
   rw [hk'] at c d
   rw [bitB_nat hh (by omega)] at c
   have e2 : zBw .i64 (h : Int) (bit1 (k : Int)) = ((h ^^^ 2 ^ k : Nat) : Int) := xorI hh (by omega)
   rw [e2] at d
   have hxor : h ^^^ 2 ^ k < 4294967296 := by
    have := Nat.xor_lt_two_pow (n := 32) (x := h) (y := 2 ^ k) (by omega) (by have := pow_lt32 (k := k) (by omega); omega)
    omega
   refine ⟨b2, a2, k, by omega, hk', ?_, (ih _ _ hxor a1).1 d⟩
   revert c
   cases e.2.2 <;> cases h.testBit k <;> simp
  ·rintro ⟨a1, a2, k, b1, b2, b3, d⟩
   have hxor : h ^^^ 2 ^ k < 4294967296 := by
    have := Nat.xor_lt_two_pow (n := 32) (x := h) (y := 2 ^ k) (by omega) (by have := pow_lt32 (k := k) (by omega); omega)
    omega
   have e2 : zBw .i64 (h : Int) (bit1 (k : Int)) = ((h ^^^ 2 ^ k : Nat) : Int) := xorI hh (by omega)
   refine ⟨⟨⟨by omega, by omega⟩, by omega, by omega⟩, ⟨by omega, by omega⟩, ?_, ?_⟩
   ·rw [b2, bitB_nat hh (by omega), b3]; cases h.testBit k <;> simp
   ·rw [b2, e2]; exact (ih _ _ hxor (by omega)).2 d
def hmN : Nat -> List Hd -> Nat
 | s, [] => s
 | s, h :: r => hmN (s ||| 2 ^ h.1.toNat) r
theorem hmN_eq : ∀ (l : List Hd) (s : Nat), s < 4294967296 -> (∀ h ∈ l, 0 <= h.1 /\ h.1 <= 31) -> hmGo (s : Int) l = (hmN s l : Int) /\ hmN s l < 4294967296 := by
 intro l
 induction l with
 | nil => intro s hs _; exact ⟨rfl, hs⟩
 | cons h r ih =>
  intro s hs hh
  obtain ⟨k, hk⟩ := Int.eq_ofNat_of_zero_le (hh h (by simp)).1
  have hk31 := (hh h (by simp)).2
  have e2 : bitOr .i64 (s : Int) (bit1 h.1) = ((s ||| 2 ^ k : Nat) : Int) := by rw [hk]; exact orI hs (by omega)
  have e3 : h.1.toNat = k := by omega
  simp only [hmGo, hmN]
  rw [e2, e3]
  exact ih _ (or_lt32 hs (pow_lt32 (by omega))) (fun x hx => hh x (List.mem_cons_of_mem _ hx))
theorem hmN_bit : ∀ (l : List Hd) (s i : Nat), (hmN s l).testBit i = (s.testBit i || l.any fun h => h.1.toNat == i) := by
 intro l
 induction l with
 | nil => intro s i; simp [hmN]
 | cons h r ih =>
  intro s i
  simp only [hmN]
  rw [ih, or_bit, List.any_cons, Bool.or_assoc]
  congr 2
theorem any_key {l : List Hd} (hl : ∀ h ∈ l, 0 <= h.1 /\ h.1 <= 31) (k : Nat) : (l.any fun h => h.1.toNat == k) = true ↔ ∃ h ∈ l, h.1 = (k : Int) := by
 rw [List.any_eq_true]
 constructor
 ·rintro ⟨h, h1, h2⟩; have := hl h h1; exact ⟨h, h1, by rw [beq_iff_eq] at h2; omega⟩
 ·rintro ⟨h, h1, h2⟩; exact ⟨h, h1, by rw [beq_iff_eq]; omega⟩
theorem hmN_press {l : List Hd} (hl : ∀ h ∈ l, 0 <= h.1 /\ h.1 <= 31) {k : Nat} (hn : ∀ h ∈ l, h.1 ≠ (k : Int)) (a : Act) : hmN 0 (l ++ [((k : Int), a)]) = hmN 0 l ^^^ 2 ^ k := by
 refine Nat.eq_of_testBit_eq fun i => ?_
 rw [xor_bit, hmN_bit, hmN_bit, List.any_append]
 have hf : (l.any fun h => h.1.toNat == k) = false := by
  rw [Bool.eq_false_iff]
  intro h
  obtain ⟨x, x1, x2⟩ := (any_key hl k).1 h
  exact hn x x1 x2
 simp only [Nat.zero_testBit, Bool.false_or, List.any_cons, List.any_nil, Bool.or_false, Int.toNat_natCast]
 by_cases e : k = i
 ·subst e; rw [hf]; simp
 ·have e1 : (k == i) = false := by simp [e]
  rw [e1, dF e]
  simp
theorem hmN_release {l : List Hd} (hl : ∀ h ∈ l, 0 <= h.1 /\ h.1 <= 31) (hp : l.Pairwise fun a b => a.1 ≠ b.1) {k : Nat} (hn : ∃ h ∈ l, h.1 = (k : Int)) : hmN 0 (rmv l k) = hmN 0 l ^^^ 2 ^ k := by
 refine Nat.eq_of_testBit_eq fun i => ?_
 rw [xor_bit, hmN_bit, hmN_bit]
 simp only [Nat.zero_testBit, Bool.false_or]
 have hl' : ∀ h ∈ rmv l k, 0 <= h.1 /\ h.1 <= 31 := fun h hh => hl h (rmv_mem _ _ h hh)
 by_cases e : k = i
 ·subst e
  rw [(any_key hl k).2 hn, dT rfl]
  have : ((rmv l (k : Int)).any fun h => h.1.toNat == k) = false := by
   rw [Bool.eq_false_iff]
   intro h
   obtain ⟨x, x1, x2⟩ := (any_key hl' k).1 h
   exact ((rmv_iff l k hp x).1 x1).2 x2
  rw [this]; rfl
 ·rw [dF e, Bool.xor_false]
  have key : ((rmv l (k : Int)).any fun h => h.1.toNat == i) = true ↔ (l.any fun h => h.1.toNat == i) = true := by
   rw [any_key hl', any_key hl]
   constructor
   ·rintro ⟨x, x1, x2⟩; exact ⟨x, rmv_mem _ _ x x1, x2⟩
   ·rintro ⟨x, x1, x2⟩; exact ⟨x, (rmv_iff l k hp x).2 ⟨x1, by omega⟩, x2⟩
  exact Bool.eq_iff_iff.2 key
theorem isT_iff (t : Tmg) : isT t = true ↔ 1 <= t.1 /\ t.1 <= 1000 /\ 0 <= t.2.1 /\ t.2.1 <= 1000 /\ 0 <= t.2.2 /\ t.2.2 <= 2 := by unfold isT; exact decide_eq_true_iff
structure OkD (d : Dcd) : Prop where
 eng : OkE d.1
 tm : isT d.2.1 = true
 now : 0 <= d.2.2.2.1 /\ d.2.2.2.1 <= 1000000
 clock : 0 <= d.2.2.2.2.1 /\ d.2.2.2.2.1 <= d.2.2.2.1
 len : d.2.2.1.length <= 64
 f : fol d.1.1.1.toNat (hmN 0 d.1.2.2.2.1) 0 d.2.2.1
 last : lT 0 d.2.2.1 <= d.2.2.2.1
 tap : 0 <= d.2.2.2.2.2.1 /\ d.2.2.2.2.2.1 <= d.1.1.1 /\ 0 <= d.2.2.2.2.2.2 /\ d.2.2.2.2.2.2 <= d.2.2.2.1
theorem OkE.rng {e : Eng} (h : OkE e) : ∀ x ∈ e.2.2.2.1, 0 <= x.1 /\ x.1 <= 31 := fun x hx => (h.held.1 x hx).1
theorem fits_iff {e : Eng} (he : OkE e) (q : List Ev) : fits q (hmGo 0 e.2.2.2.1) e.1.1 = true ↔ q.length <= 64 /\ fol e.1.1.toNat (hmN 0 e.2.2.2.1) 0 q := by
 have hk := he.map.keys
 obtain ⟨h1, h2⟩ := hmN_eq e.2.2.2.1 0 (by omega) he.rng
 have h1 : hmGo 0 e.2.2.2.1 = _ := h1
 have e1 : e.1.1 = (e.1.1.toNat : Int) := by omega
 unfold fits
 rw [h1, bA, decide_eq_true_eq, <- flB_fol e.1.1.toNat (by omega) q _ 0 h2 (by omega), <- e1]
theorem isD_iff (d : Dcd) : isD d = true ↔ OkD d := by
 unfold isD
 simp only [bA, decide_eq_true_eq, isE_iff]
 constructor
 ·rintro ⟨a, b, ⟨c1, c2, c3, c4⟩, f, g, h⟩
  obtain ⟨f1, f2⟩ := (fits_iff a _).1 f
  exact ⟨a, b, ⟨c1, c2⟩, ⟨c3, c4⟩, f1, f2, g, h⟩
 ·rintro ⟨a, b, ⟨c1, c2⟩, ⟨c3, c4⟩, f1, f2, g, h⟩
  exact ⟨a, b, ⟨c1, c2, c3, c4⟩, (fits_iff a _).2 ⟨f1, f2⟩, g, h⟩
theorem chGo_le (fl key en now : Int) : ∀ (l : List Ev) (dn : Int), (∀ e ∈ l, e.1 <= now) -> (chGo fl key en now dn l).1 ≠ 0 -> (chGo fl key en now dn l).2 <= now := by
 intro l
 induction l with
 | nil =>
  intro dn _
  simp only [chGo]
  by_cases h : en <= now
  ·rw [dT h, condT]; intro _; exact h
  ·rw [dF h, condF]; intro g; exact absurd rfl g
 | cons e r ih =>
  intro dn h
  have he := h e (by simp)
  have hr : ∀ x ∈ r, x.1 <= now := fun x hx => h x (List.mem_cons_of_mem _ hx)
  simp only [chGo]
  cases evB e with
  | false => rw [notF, condT]; intro g; exact absurd rfl g
  | true =>
   rw [notT, condF]
   by_cases h1 : en <= e.1
   ·rw [dT h1, condT]; intro _; simp only []; omega
   ·rw [dF h1, condF]
    cases e.2.1 == key with
    | true =>
     rw [condT]
     cases e.2.2 with
     | true => rw [condT]; exact ih dn hr
     | false => rw [condF]; intro _; exact he
    | false =>
     rw [condF]
     cases e.2.2 with
     | true =>
      rw [condT]
      cases fl == 1 with
      | true => rw [condT]; intro _; exact he
      | false => rw [condF]; exact ih _ hr
     | false =>
      rw [condF]
      cases fl == 2 && bitB dn e.2.1 with
      | true => rw [condT]; intro _; exact he
      | false => rw [condF]; exact ih _ hr
theorem chc_le (t : Tmg) (key time : Int) (rest : List Ev) (now : Int) (h : ∀ e ∈ rest, e.1 <= now) (hc : (chc t key time rest now).1 ≠ 0) : (chc t key time rest now).2 <= now := by
 unfold chc at *
 cases hh : isT t && decide (0 <= time /\ time <= 1000000) with
 | true => rw [hh, condT] at hc; rw [condT]; exact chGo_le _ _ _ _ _ _ h hc
 | false => rw [hh, condF] at hc; exact absurd rfl hc
theorem maxI_le {a b c : Int} (h1 : a <= c) (h2 : b <= c) : maxI a b <= c := by unfold maxI; split <;> omega
theorem maxI_ge (a b : Int) : a <= maxI a b /\ b <= maxI a b := by unfold maxI; split <;> omega
theorem stepD_ok {d : Dcd} (h : OkD d) {l : List Rpt} {d' : Dcd} (hs : stepD d = some (l, d')) :
  OkD d' /\ d'.2.1 = d.2.1 /\ d'.2.2.2.1 = d.2.2.2.1 /\ d.2.2.2.2.1 <= d'.2.2.2.2.1 /\ d'.1.1 = d.1.1 /\ (∃ f, d.2.2.1 = f :: d'.2.2.1) /\
  (∃ f, d.2.2.1 = f :: d'.2.2.1 /\ ((f.2.2 = true /\ (∀ x ∈ d.1.2.2.2.1, x.1 ≠ f.2.1) /\ ∃ hold, d'.1 = (prs d.1 f.2.1 hold).1 /\ l = (prs d.1 f.2.1 hold).2) \/ (f.2.2 = false /\ (∃ x ∈ d.1.2.2.2.1, x.1 = f.2.1) /\ d'.1 = (rls d.1 f.2.1).1 /\ l = (rls d.1 f.2.1).2))) := by
 obtain ⟨e, tm, q, now, ck, tp, ta⟩ := d
 obtain ⟨h1, h2, h3, h4, h5, h6, h7, h8⟩ := h
 simp only [] at h1 h2 h3 h4 h5 h6 h7 h8
 cases q with
 | nil => simp [stepD] at hs
 | cons f r =>
  obtain ⟨t, key, dn⟩ := f
  obtain ⟨f1, f2, k, f3, f4, f5, f6⟩ := h6
  simp only [] at f1 f2 f4 f5 f6
  have hk := h1.map.keys
  have hle : lT 0 ((t, key, dn) :: r) = lT t r := rfl
  rw [hle] at h7
  have htl := lT_ge _ r _ _ f6
  have hev : ∀ x ∈ r, x.1 <= now := fun x hx => by have := fol_time _ r _ _ f6 x hx; omega
  have hmb := hmN_bit e.2.2.2.1 0 k
  simp only [Nat.zero_testBit, Bool.false_or] at hmb
  have f6' := fol_mono (nR _) r _ t 0 (by omega) f6
  have hlen : r.length <= 64 := by simp only [List.length_cons] at h5; omega
  have hl0 : lT 0 r <= now := by
   cases r with
   | nil => simp only [lT, List.foldl_nil]; omega
   | cons y s => exact h7
  simp only [stepD] at hs
  cases dn with
  | false =>
   have hin : ∃ x ∈ e.2.2.2.1, x.1 = key := by
    rw [f4]
    refine (any_key h1.rng k).1 ?_
    rw [<- hmb]
    revert f5
    cases (hmN 0 e.2.2.2.1).testBit k <;> simp
   rw [condF] at hs
   injection hs with hs
   injection hs with a b
   subst a; subst b
   have hin' : ∃ x ∈ e.2.2.2.1, x.1 = (k : Int) := by rw [<- f4]; exact hin
   refine ⟨⟨rls_ok h1 key, h2, h3, ⟨by have := maxI_ge ck t; simp only []; omega, maxI_le h4.2 (by simp only []; omega)⟩, hlen, ?_, hl0, ?_⟩, rfl, rfl, (maxI_ge ck t).1, rfl, ⟨_, rfl⟩, ⟨_, rfl, Or.inr ⟨rfl, hin, rfl, rfl⟩⟩⟩
   ·show fol e.1.1.toNat (hmN 0 (rmv e.2.2.2.1 key)) 0 r
    rw [f4, hmN_release h1.rng h1.held.2 hin']
    exact f6'
   ·refine ⟨h8.1, h8.2.1, ?_⟩
    simp only []
    cases tp == key + 1 with
    | true => rw [condT]; omega
    | false => rw [condF]; exact h8.2.2
  | true =>
   have hni : ∀ x ∈ e.2.2.2.1, x.1 ≠ key := by
    intro x hx hxk
    have : (e.2.2.2.1.any fun h => h.1.toNat == k) = true := (any_key h1.rng k).2 ⟨x, hx, by omega⟩
    rw [<- hmb] at this
    rw [this] at f5
    cases f5
   have hni' : ∀ x ∈ e.2.2.2.1, x.1 ≠ (k : Int) := by rw [<- f4]; exact hni
   have hfo : ∀ hold, fol e.1.1.toNat (hmN 0 (prs e key hold).1.2.2.2.1) 0 r := by
    intro hold
    show fol e.1.1.toNat (hmN 0 (e.2.2.2.1 ++ [(key, _)])) 0 r
    rw [f4, hmN_press h1.rng hni']
    exact f6'
   have hkr : 0 <= key /\ key < e.1.1 := by omega
   rw [condT] at hs
   cases hth : isTH (actN e.1.2 (lyOn e.2.2.1 e.2.2.2.1) key) with
   | true =>
    rw [hth, condT] at hs
    have hcl := chc_le tm key t r now hev
    have hwc : ((chD tm tp ta (t, key, true) r now).1 == 0) = false -> (chD tm tp ta (t, key, true) r now).2 <= now := by
     unfold chD
     cases tp == key + 1 && decide (t - ta < tm.2.1) with
     | true => rw [condT]; intro _; dsimp only; omega
     | false => rw [condF]; intro g; exact hcl (by simpa using g)
    generalize chD tm tp ta (t, key, true) r now = c at *
    cases hc : c.1 == 0 with
    | true => rw [hc, condT] at hs; cases hs
    | false =>
     rw [hc, condF] at hs
     injection hs with hs
     injection hs with a b
     subst a; subst b
     have hw := hwc hc
     have g1 := maxI_ge ck t
     have g2 := maxI_ge (maxI ck t) c.2
     have g3 := maxI_le (a := ck) (b := t) (c := now) h4.2 (by omega)
     refine ⟨⟨prs_ok h1 hkr hni _, h2, h3, ⟨by simp only []; omega, maxI_le g3 hw⟩, hlen, hfo _, hl0, ?_⟩, rfl, rfl, by simp only []; omega, rfl, ⟨_, rfl⟩, ⟨_, rfl, Or.inl ⟨rfl, hni, _, rfl, rfl⟩⟩⟩
     show 0 <= (bif c.1 == 2 then (0 : Int) else key + 1) /\ (bif c.1 == 2 then (0 : Int) else key + 1) <= e.1.1 /\ 0 <= (bif c.1 == 2 then ta else t) /\ (bif c.1 == 2 then ta else t) <= now
     cases c.1 == 2 with
     | true => rw [condT, condT]; omega
     | false => rw [condF, condF]; omega
   | false =>
    rw [hth, condF] at hs
    injection hs with hs
    injection hs with a b
    subst a; subst b
    have g1 := maxI_ge ck t
    exact ⟨⟨prs_ok h1 hkr hni _, h2, h3, ⟨by simp only []; omega, maxI_le h4.2 (by simp only []; omega)⟩, hlen, hfo _, hl0, h8⟩, rfl, rfl, g1.1, rfl, ⟨_, rfl⟩, ⟨_, rfl, Or.inl ⟨rfl, hni, _, rfl, rfl⟩⟩⟩
end Go.Kb
namespace Go.Kb
theorem stepD_q {d : Dcd} {l : List Rpt} {d' : Dcd} (hs : stepD d = some (l, d')) : ∃ f, d.2.2.1 = f :: d'.2.2.1 := by
 obtain ⟨e, tm, q, now, ck, tp, ta⟩ := d
 cases q with
 | nil => simp [stepD] at hs
 | cons f r =>
  refine ⟨f, ?_⟩
  have : d'.2.2.1 = r := by
   simp only [stepD] at hs
   cases h1 : f.2.2 with
   | false => rw [h1, condF] at hs; injection hs with hs; injection hs with a b; subst b; rfl
   | true =>
    rw [h1, condT] at hs
    cases h2 : isTH (actN e.1.2 (lyOn e.2.2.1 e.2.2.2.1) f.2.1) with
    | false => rw [h2, condF] at hs; injection hs with hs; injection hs with a b; subst b; rfl
    | true =>
     rw [h2, condT] at hs
     cases h3 : (chD tm tp ta f r now).1 == 0 with
     | true => rw [h3, condT] at hs; cases hs
     | false => rw [h3, condF] at hs; injection hs with hs; injection hs with a b; subst b; rfl
  rw [this]
theorem stepD_nil {d : Dcd} (h : d.2.2.1 = []) : stepD d = none := by
 unfold stepD; rw [h]
theorem runD_fuel : ∀ (k j : Nat) (d : Dcd), d.2.2.1.length <= k -> d.2.2.1.length <= j -> runD k d = runD j d := by
 intro k
 induction k with
 | zero =>
  intro j d h1 h2
  have hs := stepD_nil (d := d) (List.length_eq_zero_iff.1 (by omega))
  cases j with
  | zero => rfl
  | succ j => simp only [runD, hs]
 | succ k ih =>
  intro j d h1 h2
  cases j with
  | zero =>
   have hs := stepD_nil (d := d) (List.length_eq_zero_iff.1 (by omega))
   simp only [runD, hs]
  | succ j =>
   simp only [runD]
   cases hs : stepD d with
   | none => rfl
   | some p =>
    obtain ⟨o, d'⟩ := p
    obtain ⟨f, hf⟩ := stepD_q hs
    have hl : d.2.2.1.length = d'.2.2.1.length + 1 := by rw [hf]; rfl
    simp only []
    rw [ih j d' (by omega) (by omega)]
def runQ (d : Dcd) : Dcd × List Snt := runD d.2.2.1.length d
theorem runQ_eq {d : Dcd} {k : Nat} (h : d.2.2.1.length <= k) : runD k d = runQ d := runD_fuel _ _ _ h (nR _)
theorem zCC {d : Dcd} (h : stepD d = none) : runQ d = (d, []) := by
 unfold runQ
 cases d.2.2.1.length with
 | zero => rfl
 | succ k => simp only [runD, h]
theorem runQ_some {d : Dcd} {o : List Rpt} {d' : Dcd} (h : stepD d = some (o, d')) : runQ d = ((runQ d').1, sentB d'.2.2.2.2.1 o ++ (runQ d').2) := by
 obtain ⟨f, hf⟩ := stepD_q h
 have hl : d.2.2.1.length = d'.2.2.1.length + 1 := by rw [hf]; rfl
 unfold runQ
 rw [hl]
 simp only [runD, h]
def ext (l : List Ev) (n : Int) (d : Dcd) : Dcd := (d.1, d.2.1, d.2.2.1 ++ l, n, d.2.2.2.2)
theorem fol_ev (K : Nat) (hK : K <= 32) : ∀ (a : List Ev) (h : Nat) (t : Int), 0 <= t -> fol K h t a -> ∀ e ∈ a, evB e = true := by
 intro a
 induction a with
 | nil => intro h t _ _ e he; cases he
 | cons x r ih =>
  rintro h t ht ⟨h1, h2, k, h3, h4, h5, h6⟩ e he
  rcases List.mem_cons.1 he with rfl | he
  ·unfold evB isEv
   rw [dT (by omega), dT (by omega)]; rfl
  ·exact ih _ _ (by omega) h6 e he
structure OkP (d : Dcd) (l : List Ev) (en : Int) : Prop where
 dk : OkD d
 en_ : d.2.2.2.1 <= en /\ en <= 1000000
 hd : headB d.2.2.2.1 l = true
 tm : lT 0 l <= en
 len : (d.2.2.1 ++ l).length <= 64
 f : fol d.1.1.1.toNat (hmN 0 d.1.2.2.2.1) 0 (d.2.2.1 ++ l)
theorem plyB_iff (d : Dcd) (l : List Ev) (en : Int) : plyB d l en = true ↔ OkP d l en := by
 unfold plyB
 simp only [bA, decide_eq_true_eq, isD_iff]
 constructor
 ·rintro ⟨a, b, c, e, f⟩
  obtain ⟨f1, f2⟩ := (fits_iff a.eng _).1 f
  exact ⟨a, b, c, e, f1, f2⟩
 ·rintro ⟨a, b, c, e, f1, f2⟩
  exact ⟨a, b, c, e, (fits_iff a.eng _).2 ⟨f1, f2⟩⟩
theorem lT_app_ne {a : List Ev} (h : a ≠ []) (s t : Int) : lT s a = lT t a := by
 cases a with
 | nil => exact absurd rfl h
 | cons x r => rfl
theorem OkP.ext {d : Dcd} {l : List Ev} {en : Int} (h : OkP d l en) : OkD (ext l en d) := by
 refine ⟨h.dk.eng, h.dk.tm, ⟨by have := h.dk.now; have := h.en_; simp only [Kb.ext]; omega, h.en_.2⟩, ⟨h.dk.clock.1, by have := h.dk.clock; have := h.en_; simp only [Kb.ext]; omega⟩, h.len, h.f, ?_, ⟨h.dk.tap.1, h.dk.tap.2.1, h.dk.tap.2.2.1, by have := h.dk.tap; have := h.en_; simp only [Kb.ext]; omega⟩⟩
 show lT 0 (d.2.2.1 ++ l) <= en
 rw [lT_append]
 cases l with
 | nil => have := h.dk.last; have := h.en_; simp only [lT, List.foldl_nil] at *; omega
 | cons x r => exact h.tm
theorem OkP.later {d : Dcd} {l : List Ev} {en : Int} (h : OkP d l en) : ∀ e ∈ l, d.2.2.2.1 <= e.1 /\ evB e = true := by
 have hk := h.dk.eng.map.keys
 have hf := (fol_append _ _ _ _ _).1 h.f
 intro e he
 have hev := fol_ev d.1.1.1.toNat (by omega) _ _ _ (by omega) h.f e (List.mem_append_right _ he)
 refine ⟨?_, hev⟩
 cases l with
 | nil => cases he
 | cons x r =>
  have hh := h.hd
  simp only [headB, decide_eq_true_eq] at hh
  rcases List.mem_cons.1 he with rfl | he
  ·exact hh
  ·obtain ⟨a1, a2, k, a3, a4, a5, a6⟩ := hf.2
   have := fol_time _ r _ _ a6 e he
   omega
theorem ply_ok {d : Dcd} {l : List Ev} {en : Int} (h : OkP d l en) : ply d l en = ((runQ (ext l en d)).1, (runQ (ext l en d)).2, true) := by
 unfold ply
 rw [(plyB_iff d l en).2 h, condT]
 have e1 : (d.1, d.2.1, d.2.2.1 ++ l, en, d.2.2.2.2) = Kb.ext l en d := rfl
 rw [e1, runQ_eq (d := Kb.ext l en d) h.len]
end Go.Kb
namespace Go.Kb
theorem okK_sorted : ∀ (l : List Int) (p : Int), l.Pairwise (· < ·) -> (∀ x ∈ l, p < x /\ 1 <= x /\ x <= 56) -> okK p l = true := by
 intro l
 induction l with
 | nil => intro p _ _; rfl
 | cons x r ih =>
  intro p h1 h2
  rw [List.pairwise_cons] at h1
  have hx := h2 x (by simp)
  rw [okK_cons, dT hx.2, dT hx.1, ih x h1.2 fun y hy => ⟨h1.1 y hy, (h2 y (List.mem_cons_of_mem _ hy)).2⟩]
  rfl
theorem rp_codes {m : Int} (hm : 0 <= m /\ m <= 15) (l : List Int) : rpB (m, codes l) = true := by
 unfold rpB
 rw [dT hm, okK_sorted (codes l) 0 (codes_sorted l) fun x hx => by have := (mem_codes l x).1 hx; omega]
 rfl
theorem okA_mods {a : Act} (h : okA a) : 0 <= a.2.2.1 /\ a.2.2.1 <= 15 := by simp only [okA] at h; omega
theorem okA_code {a : Act} (h : okA a) : 0 <= a.2.1 /\ a.2.1 <= 56 := by simp only [okA] at h; omega
theorem mdGo_rng : ∀ (l : List Hd) (m : Int), 0 <= m /\ m <= 15 -> (∀ h ∈ l, okA h.2) -> 0 <= mdGo m l /\ mdGo m l <= 15 := by
 intro l
 induction l with
 | nil => intro m hm _; exact hm
 | cons h r ih =>
  intro m hm hh
  simp only [mdGo]
  refine ih _ ?_ fun x hx => hh x (List.mem_cons_of_mem _ hx)
  cases decide (h.2.1 = 2 \/ h.2.1 = 8) with
  | true => rw [condT]; exact or15 hm (okA_mods (hh h (by simp)))
  | false => exact hm
theorem repO_ok (l : List Hd) : rpB (repO l) = true := by
 unfold repO
 cases hl : isH l with
 | false => rfl
 | true =>
  rw [condT]
  exact rp_codes (mdGo_rng l 0 (by omega) fun h hh => (((isH_iff l).1 hl).1 h hh).2.2.1) _
theorem repO_mods (l : List Hd) : 0 <= (repO l).1 /\ (repO l).1 <= 15 := by
 have := repO_ok l
 unfold rpB at this
 rw [bA, decide_eq_true_iff] at this
 exact this.1
theorem prGo_rng : ∀ (d : List Pr) (m : Int), 0 <= m /\ m <= 15 -> (∀ p ∈ d, 0 <= p.2 /\ p.2 <= 15) -> 0 <= prGo m d /\ prGo m d <= 15 := by
 intro d
 induction d with
 | nil => intro m hm _; exact hm
 | cons p r ih =>
  intro m hm hh
  exact ih _ (or15 hm (hh p (by simp))) fun x hx => hh x (List.mem_cons_of_mem _ hx)
theorem withP_ok {b : Rpt} (hb : 0 <= b.1 /\ b.1 <= 15) {d : List Pr} (hd : ∀ p ∈ d, 0 <= p.2 /\ p.2 <= 15) : rpB (withP b d) = true := rp_codes (prGo_rng d b.1 hb hd) _
theorem mrGo_ok {b : Rpt} (hb : 0 <= b.1 /\ b.1 <= 15) : ∀ (ss : List MSt) (d : List Pr), (∀ p ∈ d, 0 <= p.2 /\ p.2 <= 15) -> mcGo d ss = true -> ∀ r ∈ mrGo b d ss, rpB r = true := by
 intro ss
 induction ss with
 | nil => intro d _ _ r hr; cases hr
 | cons s t ih =>
  intro d hd hm r hr
  simp only [mcGo, bA] at hm
  have hs := okA_mods ((isA_iff _).1 hm.1)
  simp only [stepA] at hs
  have hds : ∀ p ∈ d ++ [s.2], 0 <= p.2 /\ p.2 <= 15 := by
   intro p hp
   rcases List.mem_append.1 hp with hp | hp
   ·exact hd p hp
   ·rw [List.mem_singleton] at hp; subst hp; exact hs
  have hde : ∀ p ∈ d.erase s.2, 0 <= p.2 /\ p.2 <= 15 := fun p hp => hd p (List.mem_of_mem_erase hp)
  have hm2 := hm.2
  simp only [mrGo] at hr
  cases h0 : s.1 == 0 with
  | true =>
   rw [h0, condT] at hr hm2
   rw [bA] at hm2
   rcases List.mem_cons.1 hr with rfl | hr
   ·exact withP_ok hb hds
   ·rcases List.mem_cons.1 hr with rfl | hr
    ·exact withP_ok hb hd
    ·exact ih d hd hm2.2 r hr
  | false =>
   rw [h0, condF] at hr hm2
   cases h1 : s.1 == 1 with
   | true =>
    rw [h1, condT] at hr hm2
    rw [bA] at hm2
    rcases List.mem_cons.1 hr with rfl | hr
    ·exact withP_ok hb hds
    ·exact ih _ hds hm2.2 r hr
   | false =>
    rw [h1, condF] at hr hm2
    cases h2 : s.1 == 2 with
    | true =>
     rw [h2, condT] at hm2
     rw [bA] at hm2
     rcases List.mem_cons.1 hr with rfl | hr
     ·exact withP_ok hb hde
     ·exact ih _ hde hm2.2 r hr
    | false => rw [h2, condF] at hm2; cases hm2
theorem mcRep_ok (l : List Hd) (ss : List MSt) : ∀ r ∈ mcRep l ss, rpB r = true := by
 intro r hr
 unfold mcRep at hr
 cases h : isH l && isMc ss with
 | false => rw [h, condF] at hr; cases hr
 | true =>
  rw [h, condT] at hr
  simp only [bA, isMc] at h
  exact mrGo_ok (repO_mods l) ss [] (by simp) h.2.2 r hr
theorem mem_chg : ∀ (l : List Rpt) (b r : Rpt), r ∈ chg b l -> r ∈ l := by
 intro l
 induction l with
 | nil => intro b r h; exact h
 | cons x t ih =>
  intro b r h
  simp only [chg] at h
  cases hd : decide (b = x) with
  | true => rw [hd, condT] at h; exact List.mem_cons_of_mem _ (ih _ _ h)
  | false =>
   rw [hd, condF] at h
   rcases List.mem_cons.1 h with rfl | h
   ·simp
   ·exact List.mem_cons_of_mem _ (ih _ _ h)
theorem prs_rep (e : Eng) (key : Int) (hold : Bool) : ∀ r ∈ (prs e key hold).2, rpB r = true := by
 intro r hr
 simp only [prs] at hr
 have := mem_chg _ _ _ hr
 rcases List.mem_append.1 this with h | h
 ·revert h
  cases _ && _ with
  | true => rw [condT]; exact mcRep_ok _ _ r
  | false => rw [condF]; intro h; cases h
 ·rw [List.mem_singleton] at h; subst h; exact repO_ok _
theorem rls_rep (e : Eng) (key : Int) : ∀ r ∈ (rls e key).2, rpB r = true := by
 intro r hr
 have := mem_chg _ _ _ hr
 rw [List.mem_singleton] at this; subst this; exact repO_ok _
theorem run_sent : ∀ (k : Nat) (d : Dcd), d.2.2.1.length <= k -> OkD d ->
  OkD (runQ d).1 /\ d.2.2.2.2.1 <= (runQ d).1.2.2.2.2.1 /\ (∀ s ∈ (runQ d).2, d.2.2.2.2.1 <= s.1 /\ s.1 <= (runQ d).1.2.2.2.2.1 /\ rpB s.2 = true) /\ ((runQ d).2.Pairwise fun a b => a.1 <= b.1) /\ (runQ d).1.2.2.2.1 = d.2.2.2.1 /\ (runQ d).1.2.1 = d.2.1 /\ stepD (runQ d).1 = none := by
 intro k
 induction k with
 | zero =>
  intro d h hd
  have hs := stepD_nil (d := d) (List.length_eq_zero_iff.1 (by omega))
  rw [zCC hs]; exact ⟨hd, Int.le_refl _, by simp, by simp, rfl, rfl, hs⟩
 | succ k ih =>
  intro d h hd
  cases hs : stepD d with
  | none => rw [zCC hs]; exact ⟨hd, Int.le_refl _, by simp, by simp, rfl, rfl, hs⟩
  | some p =>
   obtain ⟨o, d'⟩ := p
   obtain ⟨g1, g2, g3, g4, g5, ⟨f, hf⟩, ⟨f', _, hrep⟩⟩ := stepD_ok hd hs
   have hlen : d.2.2.1.length = d'.2.2.1.length + 1 := by rw [hf]; rfl
   obtain ⟨r1, r2, r3, r4, r5, r6, r7⟩ := ih d' (by omega) g1
   have ho : ∀ r ∈ o, rpB r = true := by
    rcases hrep with ⟨_, _, hold, _, e⟩ | ⟨_, _, _, e⟩
    ·rw [e]; exact prs_rep _ _ _
    ·rw [e]; exact rls_rep _ _
   rw [runQ_some hs]
   refine ⟨r1, by simp only []; omega, ?_, ?_, by rw [r5, g3], by rw [r6, g2], r7⟩
   ·intro s hs
    rcases List.mem_append.1 hs with hs | hs
    ·simp only [sentB, List.mem_map] at hs
     obtain ⟨r, hr, rfl⟩ := hs
     exact ⟨g4, r2, ho r hr⟩
    ·have := r3 s hs
     exact ⟨by omega, this.2⟩
   ·rw [List.pairwise_append]
    refine ⟨?_, r4, ?_⟩
    ·simp only [sentB]
     rw [List.pairwise_map]
     exact List.pairwise_of_forall (fun _ _ => Int.le_refl _)
    ·intro a ha b hb
     simp only [sentB, List.mem_map] at ha
     obtain ⟨r, hr, rfl⟩ := ha
     exact (r3 b hb).1
end Go.Kb
namespace Go.Kb
end Go.Kb
