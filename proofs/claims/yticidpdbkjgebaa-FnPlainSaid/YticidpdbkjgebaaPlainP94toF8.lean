/- Runs of a decider: fuel, validity, what later events do not change. -/
import Derived.Test.YticidpdbkjgebaaPlainP92toP93
import Derived.Test.YticidpdbkjgebaaPlainP0toP75
import Derived.Test.YticidpdbkjgebaaPlainF4toP31
import Derived.KernelRfl
namespace Go.Kb
theorem stepD_q {d : Dcd} {l : List Rpt} {d' : Dcd} (hs : stepD d = some (l, d')) : ∃ f, d.2.2.1 = f :: d'.2.2.1 := by
 obtain ⟨e, tm, q, now, ck, tp, ta⟩ := d
 cases q with
 | nil => simp [stepD] at hs
 | cons f r =>
  refine ⟨f, ?_⟩
  have : d'.2.2.1 = r := by
   simp only [stepD] at hs
   cases h1 : f.2.2 with
   | false => rw [h1, condF] at hs; injection hs with hs; injection hs with a b; subst b; rfl
   | true =>
    rw [h1, condT] at hs
    cases h2 : isTH (actN e.1.2 (lyOn e.2.2.1 e.2.2.2.1) f.2.1) with
    | false => rw [h2, condF] at hs; injection hs with hs; injection hs with a b; subst b; rfl
    | true =>
     rw [h2, condT] at hs
     cases h3 : (chD tm tp ta f r now).1 == 0 with
     | true => rw [h3, condT] at hs; cases hs
     | false => rw [h3, condF] at hs; injection hs with hs; injection hs with a b; subst b; rfl
  rw [this]
theorem stepD_nil {d : Dcd} (h : d.2.2.1 = []) : stepD d = none := by
 unfold stepD; rw [h]
theorem runD_fuel : ∀ (k j : Nat) (d : Dcd), d.2.2.1.length <= k -> d.2.2.1.length <= j -> runD k d = runD j d := by
 intro k
 induction k with
 | zero =>
  intro j d h1 h2
  have hs := stepD_nil (d := d) (List.length_eq_zero_iff.1 (by omega))
  cases j with
  | zero => rfl
  | succ j => simp only [runD, hs]
 | succ k ih =>
  intro j d h1 h2
  cases j with
  | zero =>
   have hs := stepD_nil (d := d) (List.length_eq_zero_iff.1 (by omega))
   simp only [runD, hs]
  | succ j =>
   simp only [runD]
   cases hs : stepD d with
   | none => rfl
   | some p =>
    obtain ⟨o, d'⟩ := p
    obtain ⟨f, hf⟩ := stepD_q hs
    have hl : d.2.2.1.length = d'.2.2.1.length + 1 := by rw [hf]; rfl
    simp only []
    rw [ih j d' (by omega) (by omega)]
def runQ (d : Dcd) : Dcd × List Snt := runD d.2.2.1.length d
theorem runQ_eq {d : Dcd} {k : Nat} (h : d.2.2.1.length <= k) : runD k d = runQ d := runD_fuel _ _ _ h (nR _)
theorem runQ_none {d : Dcd} (h : stepD d = none) : runQ d = (d, []) := by
 unfold runQ
 cases d.2.2.1.length with
 | zero => rfl
 | succ k => simp only [runD, h]
theorem runQ_some {d : Dcd} {o : List Rpt} {d' : Dcd} (h : stepD d = some (o, d')) : runQ d = ((runQ d').1, sentB d'.2.2.2.2.1 o ++ (runQ d').2) := by
 obtain ⟨f, hf⟩ := stepD_q h
 have hl : d.2.2.1.length = d'.2.2.1.length + 1 := by rw [hf]; rfl
 unfold runQ
 rw [hl]
 simp only [runD, h]
def ext (l : List Ev) (n : Int) (d : Dcd) : Dcd := (d.1, d.2.1, d.2.2.1 ++ l, n, d.2.2.2.2)
theorem fol_ev (K : Nat) (hK : K <= 32) : ∀ (a : List Ev) (h : Nat) (t : Int), 0 <= t -> fol K h t a -> ∀ e ∈ a, evB e = true := by
 intro a
 induction a with
 | nil => intro h t _ _ e he; cases he
 | cons x r ih =>
  rintro h t ht ⟨h1, h2, k, h3, h4, h5, h6⟩ e he
  rcases List.mem_cons.1 he with rfl | he
  ·unfold evB isEv
   rw [dT (by omega), dT (by omega)]; rfl
  ·exact ih _ _ (by omega) h6 e he
structure OkP (d : Dcd) (l : List Ev) (en : Int) : Prop where
 dk : OkD d
 en_ : d.2.2.2.1 <= en /\ en <= 1000000
 hd : headB d.2.2.2.1 l = true
 tm : lT 0 l <= en
 len : (d.2.2.1 ++ l).length <= 64
 f : fol d.1.1.1.toNat (hmN 0 d.1.2.2.2.1) 0 (d.2.2.1 ++ l)
theorem plyB_iff (d : Dcd) (l : List Ev) (en : Int) : plyB d l en = true ↔ OkP d l en := by
 unfold plyB
 simp only [bA, decide_eq_true_eq, isD_iff]
 constructor
 ·rintro ⟨a, b, c, e, f⟩
  obtain ⟨f1, f2⟩ := (fits_iff a.eng _).1 f
  exact ⟨a, b, c, e, f1, f2⟩
 ·rintro ⟨a, b, c, e, f1, f2⟩
  exact ⟨a, b, c, e, (fits_iff a.eng _).2 ⟨f1, f2⟩⟩
theorem lT_app_ne {a : List Ev} (h : a ≠ []) (s t : Int) : lT s a = lT t a := by
 cases a with
 | nil => exact absurd rfl h
 | cons x r => rfl
theorem OkP.ext {d : Dcd} {l : List Ev} {en : Int} (h : OkP d l en) : OkD (ext l en d) := by
 refine ⟨h.dk.eng, h.dk.tm, ⟨by have := h.dk.now; have := h.en_; simp only [Kb.ext]; omega, h.en_.2⟩, ⟨h.dk.clock.1, by have := h.dk.clock; have := h.en_; simp only [Kb.ext]; omega⟩, h.len, h.f, ?_, ⟨h.dk.tap.1, h.dk.tap.2.1, h.dk.tap.2.2.1, by have := h.dk.tap; have := h.en_; simp only [Kb.ext]; omega⟩⟩
 show lT 0 (d.2.2.1 ++ l) <= en
 rw [lT_append]
 cases l with
 | nil => have := h.dk.last; have := h.en_; simp only [lT, List.foldl_nil] at *; omega
 | cons x r => exact h.tm
theorem OkP.later {d : Dcd} {l : List Ev} {en : Int} (h : OkP d l en) : ∀ e ∈ l, d.2.2.2.1 <= e.1 /\ evB e = true := by
 have hk := h.dk.eng.map.keys
 have hf := (fol_append _ _ _ _ _).1 h.f
 intro e he
 have hev := fol_ev d.1.1.1.toNat (by omega) _ _ _ (by omega) h.f e (List.mem_append_right _ he)
 refine ⟨?_, hev⟩
 cases l with
 | nil => cases he
 | cons x r =>
  have hh := h.hd
  simp only [headB, decide_eq_true_eq] at hh
  rcases List.mem_cons.1 he with rfl | he
  ·exact hh
  ·obtain ⟨a1, a2, k, a3, a4, a5, a6⟩ := hf.2
   have := fol_time _ r _ _ a6 e he
   omega
theorem ply_ok {d : Dcd} {l : List Ev} {en : Int} (h : OkP d l en) : ply d l en = ((runQ (ext l en d)).1, (runQ (ext l en d)).2, true) := by
 unfold ply
 rw [(plyB_iff d l en).2 h, condT]
 have e1 : (d.1, d.2.1, d.2.2.1 ++ l, en, d.2.2.2.2) = Kb.ext l en d := rfl
 rw [e1, runQ_eq (d := Kb.ext l en d) h.len]
end Go.Kb
namespace Go.Kb
theorem okK_sorted : ∀ (l : List Int) (p : Int), l.Pairwise (· < ·) -> (∀ x ∈ l, p < x /\ 1 <= x /\ x <= 56) -> okK p l = true := by
 intro l
 induction l with
 | nil => intro p _ _; rfl
 | cons x r ih =>
  intro p h1 h2
  rw [List.pairwise_cons] at h1
  have hx := h2 x (by simp)
  rw [okK_cons, dT hx.2, dT hx.1, ih x h1.2 fun y hy => ⟨h1.1 y hy, (h2 y (List.mem_cons_of_mem _ hy)).2⟩]
  rfl
theorem rp_codes {m : Int} (hm : 0 <= m /\ m <= 15) (l : List Int) : rpB (m, codes l) = true := by
 unfold rpB
 rw [dT hm, okK_sorted (codes l) 0 (codes_sorted l) fun x hx => by have := (mem_codes l x).1 hx; omega]
 rfl
theorem okA_mods {a : Act} (h : okA a) : 0 <= a.2.2.1 /\ a.2.2.1 <= 15 := by simp only [okA] at h; omega
theorem okA_code {a : Act} (h : okA a) : 0 <= a.2.1 /\ a.2.1 <= 56 := by simp only [okA] at h; omega
theorem mdGo_rng : ∀ (l : List Hd) (m : Int), 0 <= m /\ m <= 15 -> (∀ h ∈ l, okA h.2) -> 0 <= mdGo m l /\ mdGo m l <= 15 := by
 intro l
 induction l with
 | nil => intro m hm _; exact hm
 | cons h r ih =>
  intro m hm hh
  simp only [mdGo]
  refine ih _ ?_ fun x hx => hh x (List.mem_cons_of_mem _ hx)
  cases decide (h.2.1 = 2 \/ h.2.1 = 8) with
  | true => rw [condT]; exact or15 hm (okA_mods (hh h (by simp)))
  | false => exact hm
theorem repO_ok (l : List Hd) : rpB (repO l) = true := by
 unfold repO
 cases hl : isH l with
 | false => rfl
 | true =>
  rw [condT]
  exact rp_codes (mdGo_rng l 0 (by omega) fun h hh => (((isH_iff l).1 hl).1 h hh).2.2.1) _
theorem repO_mods (l : List Hd) : 0 <= (repO l).1 /\ (repO l).1 <= 15 := by
 have := repO_ok l
 unfold rpB at this
 rw [bA, decide_eq_true_iff] at this
 exact this.1
theorem prGo_rng : ∀ (d : List Pr) (m : Int), 0 <= m /\ m <= 15 -> (∀ p ∈ d, 0 <= p.2 /\ p.2 <= 15) -> 0 <= prGo m d /\ prGo m d <= 15 := by
 intro d
 induction d with
 | nil => intro m hm _; exact hm
 | cons p r ih =>
  intro m hm hh
  exact ih _ (or15 hm (hh p (by simp))) fun x hx => hh x (List.mem_cons_of_mem _ hx)
theorem withP_ok {b : Rpt} (hb : 0 <= b.1 /\ b.1 <= 15) {d : List Pr} (hd : ∀ p ∈ d, 0 <= p.2 /\ p.2 <= 15) : rpB (withP b d) = true := rp_codes (prGo_rng d b.1 hb hd) _
theorem mrGo_ok {b : Rpt} (hb : 0 <= b.1 /\ b.1 <= 15) : ∀ (ss : List MSt) (d : List Pr), (∀ p ∈ d, 0 <= p.2 /\ p.2 <= 15) -> mcGo d ss = true -> ∀ r ∈ mrGo b d ss, rpB r = true := by
 intro ss
 induction ss with
 | nil => intro d _ _ r hr; cases hr
 | cons s t ih =>
  intro d hd hm r hr
  simp only [mcGo, bA] at hm
  have hs := okA_mods ((isA_iff _).1 hm.1)
  simp only [stepA] at hs
  have hds : ∀ p ∈ d ++ [s.2], 0 <= p.2 /\ p.2 <= 15 := by
   intro p hp
   rcases List.mem_append.1 hp with hp | hp
   ·exact hd p hp
   ·rw [List.mem_singleton] at hp; subst hp; exact hs
  have hde : ∀ p ∈ d.erase s.2, 0 <= p.2 /\ p.2 <= 15 := fun p hp => hd p (List.mem_of_mem_erase hp)
  have hm2 := hm.2
  simp only [mrGo] at hr
  cases h0 : s.1 == 0 with
  | true =>
   rw [h0, condT] at hr hm2
   rw [bA] at hm2
   rcases List.mem_cons.1 hr with rfl | hr
   ·exact withP_ok hb hds
   ·rcases List.mem_cons.1 hr with rfl | hr
    ·exact withP_ok hb hd
    ·exact ih d hd hm2.2 r hr
  | false =>
   rw [h0, condF] at hr hm2
   cases h1 : s.1 == 1 with
   | true =>
    rw [h1, condT] at hr hm2
    rw [bA] at hm2
    rcases List.mem_cons.1 hr with rfl | hr
    ·exact withP_ok hb hds
    ·exact ih _ hds hm2.2 r hr
   | false =>
    rw [h1, condF] at hr hm2
    cases h2 : s.1 == 2 with
    | true =>
     rw [h2, condT] at hm2
     rw [bA] at hm2
     rcases List.mem_cons.1 hr with rfl | hr
     ·exact withP_ok hb hde
     ·exact ih _ hde hm2.2 r hr
    | false => rw [h2, condF] at hm2; cases hm2
theorem mcRep_ok (l : List Hd) (ss : List MSt) : ∀ r ∈ mcRep l ss, rpB r = true := by
 intro r hr
 unfold mcRep at hr
 cases h : isH l && isMc ss with
 | false => rw [h, condF] at hr; cases hr
 | true =>
  rw [h, condT] at hr
  simp only [bA, isMc] at h
  exact mrGo_ok (repO_mods l) ss [] (by simp) h.2.2 r hr
theorem mem_chg : ∀ (l : List Rpt) (b r : Rpt), r ∈ chg b l -> r ∈ l := by
 intro l
 induction l with
 | nil => intro b r h; exact h
 | cons x t ih =>
  intro b r h
  simp only [chg] at h
  cases hd : decide (b = x) with
  | true => rw [hd, condT] at h; exact List.mem_cons_of_mem _ (ih _ _ h)
  | false =>
   rw [hd, condF] at h
   rcases List.mem_cons.1 h with rfl | h
   ·simp
   ·exact List.mem_cons_of_mem _ (ih _ _ h)
theorem prs_rep (e : Eng) (key : Int) (hold : Bool) : ∀ r ∈ (prs e key hold).2, rpB r = true := by
 intro r hr
 simp only [prs] at hr
 have := mem_chg _ _ _ hr
 rcases List.mem_append.1 this with h | h
 ·revert h
  cases _ && _ with
  | true => rw [condT]; exact mcRep_ok _ _ r
  | false => rw [condF]; intro h; cases h
 ·rw [List.mem_singleton] at h; subst h; exact repO_ok _
theorem rls_rep (e : Eng) (key : Int) : ∀ r ∈ (rls e key).2, rpB r = true := by
 intro r hr
 have := mem_chg _ _ _ hr
 rw [List.mem_singleton] at this; subst this; exact repO_ok _
theorem run_sent : ∀ (k : Nat) (d : Dcd), d.2.2.1.length <= k -> OkD d ->
  OkD (runQ d).1 /\ d.2.2.2.2.1 <= (runQ d).1.2.2.2.2.1 /\ (∀ s ∈ (runQ d).2, d.2.2.2.2.1 <= s.1 /\ s.1 <= (runQ d).1.2.2.2.2.1 /\ rpB s.2 = true) /\ ((runQ d).2.Pairwise fun a b => a.1 <= b.1) /\ (runQ d).1.2.2.2.1 = d.2.2.2.1 /\ (runQ d).1.2.1 = d.2.1 /\ stepD (runQ d).1 = none := by
 intro k
 induction k with
 | zero =>
  intro d h hd
  have hs := stepD_nil (d := d) (List.length_eq_zero_iff.1 (by omega))
  rw [runQ_none hs]; exact ⟨hd, Int.le_refl _, by simp, by simp, rfl, rfl, hs⟩
 | succ k ih =>
  intro d h hd
  cases hs : stepD d with
  | none => rw [runQ_none hs]; exact ⟨hd, Int.le_refl _, by simp, by simp, rfl, rfl, hs⟩
  | some p =>
   obtain ⟨o, d'⟩ := p
   obtain ⟨g1, g2, g3, g4, g5, ⟨f, hf⟩, ⟨f', _, hrep⟩⟩ := stepD_ok hd hs
   have hlen : d.2.2.1.length = d'.2.2.1.length + 1 := by rw [hf]; rfl
   obtain ⟨r1, r2, r3, r4, r5, r6, r7⟩ := ih d' (by omega) g1
   have ho : ∀ r ∈ o, rpB r = true := by
    rcases hrep with ⟨_, _, hold, _, e⟩ | ⟨_, _, _, e⟩
    ·rw [e]; exact prs_rep _ _ _
    ·rw [e]; exact rls_rep _ _
   rw [runQ_some hs]
   refine ⟨r1, by simp only []; omega, ?_, ?_, by rw [r5, g3], by rw [r6, g2], r7⟩
   ·intro s hs
    rcases List.mem_append.1 hs with hs | hs
    ·simp only [sentB, List.mem_map] at hs
     obtain ⟨r, hr, rfl⟩ := hs
     exact ⟨g4, r2, ho r hr⟩
    ·have := r3 s hs
     exact ⟨by omega, this.2⟩
   ·rw [List.pairwise_append]
    refine ⟨?_, r4, ?_⟩
    ·simp only [sentB]
     rw [List.pairwise_map]
     exact List.pairwise_of_forall (fun _ _ => Int.le_refl _)
    ·intro a ha b hb
     simp only [sentB, List.mem_map] at ha
     obtain ⟨r, hr, rfl⟩ := ha
     exact (r3 b hb).1
end Go.Kb
namespace Go.Kb
end Go.Kb
