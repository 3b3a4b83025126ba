/- A combiner's state, and what a step does to it. -/
import Derived.Test.YtnoifcpgionjkaaCombinedP31
namespace Go.Kb

def okL (l : List Cb) : Prop := l.length ≤ 8 ∧ (∀ c ∈ l, ∃ m : Nat, c.1 = (m : Int) ∧ m ≠ 0 ∧ m < 16777216 ∧ 24 ≤ c.2 ∧ c.2 ≤ 31) ∧ l.Pairwise fun a b => a.2 ≠ b.2

/-- the active combos, over the switches d that are down by themselves; h is all switches that are held -/
def AOk (l : List Cb) : Nat → List Ev → Nat → Prop
  | d, [], h => h = d
  | d, a :: r, h => ∃ m K : Nat, a.2.1 = (m : Int) ∧ m ≠ 0 ∧ m < 16777216 ∧ K < 16777216 ∧ ((K : Int), a.1) ∈ l ∧ (∀ i, m.testBit i = true → K.testBit i = true) ∧ a.2.2 = decide (m = K) ∧
      (∀ i, m.testBit i = true → d.testBit i = false) ∧ AOk l (d ||| m) r h

theorem AOk_sub {l : List Cb} : ∀ {ac : List Ev} {d h : Nat}, AOk l d ac h → ∀ i, d.testBit i = true → h.testBit i = true := by
  intro ac
  induction ac with
  | nil => intro d h hh i hi; rw [show h = d from hh]; exact hi
  | cons a r ih =>
    rintro d h ⟨m, K, _, _, _, _, _, _, _, _, h9⟩ i hi
    exact ih h9 i (by rw [Nat.testBit_or, hi]; rfl)

theorem AOk_lt {l : List Cb} : ∀ {ac : List Ev} {d h : Nat}, d < 16777216 → AOk l d ac h → h < 16777216 := by
  intro ac
  induction ac with
  | nil => intro d h hd hh; rw [show h = d from hh]; exact hd
  | cons a r ih =>
    rintro d h hd ⟨m, K, _, _, h3, _, _, _, _, _, h9⟩
    exact ih (or_lt24 hd h3) h9

theorem AOk_clr {l : List Cb} {k : Nat} : ∀ {ac : List Ev} {d h : Nat}, AOk l d ac h → d.testBit k = true → AOk l (clr d k) ac (clr h k) := by
  intro ac
  induction ac with
  | nil => intro d h hh _; show clr h k = clr d k; rw [show h = d from hh]
  | cons a r ih =>
    rintro d h ⟨m, K, h1, h2, h3, h4, h5, h6, h7, h8, h9⟩ hk
    refine ⟨m, K, h1, h2, h3, h4, h5, h6, h7, fun i hi => by rw [clr_bit, h8 i hi]; rfl, ?_⟩
    have hm : m.testBit k = false := by
      cases hmk : m.testBit k with
      | false => rfl
      | true => rw [h8 k hmk] at hk; cases hk
    have e : clr d k ||| m = clr (d ||| m) k := by
      apply Nat.eq_of_testBit_eq; intro i
      rw [Nat.testBit_or, clr_bit, clr_bit, Nat.testBit_or]
      by_cases hi : k = i
      · subst hi; rw [hm]; simp
      · simp [hi]
    rw [e]
    exact ih h9 (by rw [Nat.testBit_or, hk]; rfl)

theorem AOk_or {l : List Cb} {k : Nat} : ∀ {ac : List Ev} {d h : Nat}, AOk l d ac h → h.testBit k = false → AOk l (d ||| 2 ^ k) ac (h ||| 2 ^ k) := by
  intro ac
  induction ac with
  | nil => intro d h hh _; show h ||| 2 ^ k = d ||| 2 ^ k; rw [show h = d from hh]
  | cons a r ih =>
    rintro d h ⟨m, K, h1, h2, h3, h4, h5, h6, h7, h8, h9⟩ hk
    have hm : m.testBit k = false := by
      cases hmk : m.testBit k with
      | false => rfl
      | true =>
        have := AOk_sub h9 k (by rw [Nat.testBit_or, hmk, Bool.or_true])
        rw [this] at hk; cases hk
    refine ⟨m, K, h1, h2, h3, h4, h5, h6, h7, fun i hi => ?_, ?_⟩
    · rw [or_bit, h8 i hi]
      by_cases hki : k = i
      · subst hki; rw [hi] at hm; cases hm
      · simp [hki]
    · have e : d ||| 2 ^ k ||| m = d ||| m ||| 2 ^ k := by
        apply Nat.eq_of_testBit_eq; intro i
        simp only [Nat.testBit_or]
        cases d.testBit i <;> cases m.testBit i <;> cases (2 ^ k).testBit i <;> rfl
      rw [e]
      exact ih h9 hk

theorem AOk_add {l : List Cb} {S : Nat} {x : Int} (hS : S ≠ 0) (hS2 : S < 16777216) (hx : ((S : Int), x) ∈ l) : ∀ {ac : List Ev} {d h : Nat}, AOk l d ac h → (∀ i, S.testBit i = true → h.testBit i = false) → AOk l d (ac ++ [(x, ((S : Int), true))]) (h ||| S) := by
  intro ac
  induction ac with
  | nil =>
    intro d h hh hk
    have hh : h = d := hh
    subst hh
    refine ⟨S, S, rfl, hS, hS2, hS2, hx, fun i hi => hi, by simp, hk, rfl⟩
  | cons a r ih =>
    rintro d h ⟨m, K, h1, h2, h3, h4, h5, h6, h7, h8, h9⟩ hk
    exact ⟨m, K, h1, h2, h3, h4, h5, h6, h7, h8, ih h9 hk⟩

theorem AOk_mem {l : List Cb} : ∀ {ac : List Ev} {d h : Nat}, AOk l d ac h → ∀ a ∈ ac, ∃ m K : Nat, a.2.1 = (m : Int) ∧ m ≠ 0 ∧ m < 16777216 ∧ ((K : Int), a.1) ∈ l ∧ (∀ i, m.testBit i = true → K.testBit i = true) ∧ (∀ i, m.testBit i = true → h.testBit i = true) := by
  intro ac
  induction ac with
  | nil => intro d h _ a ha; cases ha
  | cons x r ih =>
    rintro d h ⟨m, K, h1, h2, h3, h4, h5, h6, h7, h8, h9⟩ a ha
    rcases List.mem_cons.1 ha with rfl | ha
    · exact ⟨m, K, h1, h2, h3, h5, h6, fun i hi => AOk_sub h9 i (by rw [Nat.testBit_or, hi, Bool.or_true])⟩
    · exact ih h9 a ha

/-! ### what has been handed out as down -/
def oH (d : Nat) (ac : List Ev) : Nat := ac.foldl (fun d a => bif a.2.2 then d ||| 2 ^ a.1.toNat else d) d

theorem oH_bit : ∀ (ac : List Ev) (d i : Nat), (∀ a ∈ ac, 0 ≤ a.1) → (oH d ac).testBit i = (d.testBit i || ac.any fun a => a.2.2 && decide (a.1 = (i : Int))) := by
  intro ac
  induction ac with
  | nil => intro d i _; simp [oH]
  | cons a r ih =>
    intro d i h
    have h0 := h a (by simp)
    have hr := fun x hx => h x (List.mem_cons_of_mem a hx)
    obtain ⟨p, hp⟩ := Int.eq_ofNat_of_zero_le h0
    show (oH (bif a.2.2 then d ||| 2 ^ a.1.toNat else d) r).testBit i = _
    rw [ih _ i hr, List.any_cons]
    cases a.2.2 with
    | false => simp
    | true =>
      simp only [cond_true, Bool.true_and]
      rw [or_bit, hp, Int.toNat_natCast]
      have : decide (p = i) = decide ((p : Int) = (i : Int)) := by
        by_cases hpi : p = i
        · rw [decide_eq_true hpi, decide_eq_true (by omega)]
        · rw [decide_eq_false hpi, decide_eq_false (by omega)]
      rw [this, Bool.or_assoc]

/-- a switch goes up -/
theorem up_ok {l : List Cb} (hl : okL l) {k : Nat} (hk : k < 24) (at_ : Int) : ∀ {ac : List Ev} {d h : Nat}, d < 16777216 → AOk l d ac h → (ac.map (·.1)).Nodup →
    match upGo (k : Int) at_ ac with
    | none => h.testBit k = d.testBit k
    | some (o, ac') => h.testBit k = true ∧ AOk l d ac' (clr h k) ∧ (ac'.map (·.1)).Sublist (ac.map (·.1)) ∧
        ((o = [] ∧ ∀ i : Nat, (ac'.any fun a => a.2.2 && decide (a.1 = (i : Int))) = ac.any fun a => a.2.2 && decide (a.1 = (i : Int))) ∨
         ∃ p : Nat, 24 ≤ p ∧ p ≤ 31 ∧ o = [(at_, ((p : Int), false))] ∧ (ac.any fun a => a.2.2 && decide (a.1 = (p : Int))) = true ∧
           ∀ i : Nat, (ac'.any fun a => a.2.2 && decide (a.1 = (i : Int))) = ((ac.any fun a => a.2.2 && decide (a.1 = (i : Int))) && !decide (p = i))) := by
  intro ac
  induction ac with
  | nil => intro d h _ hh _; simp only [upGo]; rw [show h = d from hh]
  | cons a r ih =>
    rintro d h hd ⟨m, K, h1, h2, h3, h4, h5, h6, h7, h8, h9⟩ hnd
    have hnd' : a.1 ∉ r.map (·.1) ∧ (r.map (·.1)).Nodup := by simpa using hnd
    have hbit := bitOf0 (m := m) (k := k) (by omega) (by omega)
    have hcl := clrI (h := m) (k := k) (by omega) (by omega)
    obtain ⟨_, _, _, _, hr1, hr2⟩ := hl.2.1 _ h5
    simp only [upGo, h1, hbit, hcl]
    cases hmk : m.testBit k with
    | false =>
      simp only [Bool.not_false, cond_true]
      have := ih (or_lt24 hd h3) h9 hnd'.2
      cases hu : upGo (k : Int) at_ r with
      | none =>
        rw [hu] at this
        simp only [] at this ⊢
        rw [this, Nat.testBit_or, hmk, Bool.or_false]
      | some p =>
        obtain ⟨o, q⟩ := p
        rw [hu] at this
        simp only [] at this ⊢
        obtain ⟨g1, g2, g3, g4⟩ := this
        refine ⟨g1, ⟨m, K, h1, h2, h3, h4, h5, h6, h7, h8, g2⟩, by simpa using g3.cons_cons a.1, ?_⟩
        rcases g4 with ⟨g5, g6⟩ | ⟨p, g5, g6, g7, g8, g9⟩
        · exact .inl ⟨g5, fun i => by rw [List.any_cons, List.any_cons, g6 i]⟩
        · refine .inr ⟨p, g5, g6, g7, by rw [List.any_cons, g8, Bool.or_true], fun i => ?_⟩
          rw [List.any_cons, List.any_cons, g9 i]
          by_cases hpi : p = i
          · subst hpi
            have hne : a.1 ≠ (p : Int) := by
              intro he
              rw [List.any_eq_true] at g8
              obtain ⟨y, hy, hy2⟩ := g8
              simp only [Bool.and_eq_true, decide_eq_true_eq] at hy2
              exact hnd'.1 (List.mem_map.2 ⟨y, hy, by rw [hy2.2, he]⟩)
            simp [hne]
          · simp [hpi]
    | true =>
      simp only [Bool.not_true, cond_false]
      have hcb : ∀ i, (clr m k).testBit i = true → m.testBit i = true := fun i hi => by rw [clr_bit] at hi; simp at hi; exact hi.1
      have hsub : ∀ i, m.testBit i = true → h.testBit i = true := fun i hi => AOk_sub h9 i (by rw [Nat.testBit_or, hi, Bool.or_true])
      have hdk := h8 k hmk
      have hacc : AOk l (d ||| clr m k) r (clr h k) := by
        have := AOk_clr (k := k) h9 (by rw [Nat.testBit_or, hmk, Bool.or_true])
        have e : clr (d ||| m) k = d ||| clr m k := by
          apply Nat.eq_of_testBit_eq; intro i
          rw [clr_bit, Nat.testBit_or, Nat.testBit_or, clr_bit]
          by_cases hi : k = i
          · subst hi; rw [hdk]; simp
          · simp [hi]
        rwa [e] at this
      have hlt : clr m k < 16777216 := Nat.lt_of_le_of_lt (clr_le m k) h3
      have hneK : clr m k ≠ K := by
        intro he
        have := h6 k hmk
        rw [← he, clr_bit] at this
        simp at this
      obtain ⟨p, hp⟩ := Int.eq_ofNat_of_zero_le (show 0 ≤ a.1 by omega)
      refine ⟨hsub k hmk, ?_, ?_, ?_⟩
      · by_cases hz : clr m k = 0
        · have hz' : (((clr m k : Nat) : Int) == 0) = true := by rw [beqI]; exact decide_eq_true (by omega)
          rw [hz', cond_true]
          rw [hz, Nat.or_zero] at hacc
          exact hacc
        · have hz' : (((clr m k : Nat) : Int) == 0) = false := by rw [beqI]; exact decide_eq_false (by omega)
          rw [hz', cond_false]
          exact ⟨clr m k, K, rfl, hz, hlt, h4, h5, fun i hi => h6 i (hcb i hi), by simp [hneK], fun i hi => h8 i (hcb i hi), hacc⟩
      · cases (((clr m k : Nat) : Int) == 0) with
        | true => simp only [cond_true, List.map_cons]; exact List.sublist_cons_self _ _
        | false => simp only [cond_false, List.map_cons]; exact List.Sublist.refl _
      · have hany : ∀ i : Nat, ((bif (((clr m k : Nat) : Int) == 0) then r else (a.1, (((clr m k : Nat) : Int), false)) :: r).any fun a => a.2.2 && decide (a.1 = (i : Int))) = r.any fun a => a.2.2 && decide (a.1 = (i : Int)) := by
          intro i
          cases (((clr m k : Nat) : Int) == 0) with
          | true => simp only [cond_true]
          | false => simp only [cond_false, List.any_cons, Bool.false_and, Bool.false_or]
        cases ho : a.2.2 with
        | false =>
          simp only [cond_false]
          refine .inl ⟨trivial, fun i => ?_⟩
          rw [hany i, List.any_cons, ho, Bool.false_and, Bool.false_or]
        | true =>
          simp only [cond_true]
          refine .inr ⟨p, by omega, by omega, by rw [hp], by rw [List.any_cons, ho, hp]; simp, fun i => ?_⟩
          rw [hany i, List.any_cons, ho, Bool.true_and, hp]
          by_cases hpi : p = i
          · subst hpi
            simp only [decide_true, Bool.not_true, Bool.and_false]
            rw [List.any_eq_false]
            intro y hy hc
            simp only [Bool.and_eq_true, decide_eq_true_eq] at hc
            exact hnd'.1 (List.mem_map.2 ⟨y, hy, by rw [hc.2, hp]⟩)
          · have : ¬ ((p : Int) = (i : Int)) := by omega
            simp only [this, hpi, decide_false, Bool.false_or, Bool.not_false, Bool.and_true]
end Go.Kb
