/- What is decided about a down; a step keeps the state right. -/
import Derived.Test.YtnoifcpgionjkaaCombinedP32
namespace Go.Kb

def setN (S : Nat) (L : List Ev) : Nat := L.foldl (fun s e => s ||| 2 ^ e.2.1.toNat) S

theorem setN_or : ∀ (L : List Ev) (S : Nat), setN S L = S ||| setN 0 L := by
  intro L
  induction L with
  | nil => intro S; simp [setN]
  | cons e r ih =>
    intro S
    have h1 : setN S (e :: r) = setN (S ||| 2 ^ e.2.1.toNat) r := rfl
    have h2 : setN 0 (e :: r) = setN (0 ||| 2 ^ e.2.1.toNat) r := rfl
    rw [h1, h2, ih (S ||| _), ih (0 ||| _), Nat.zero_or, Nat.or_assoc]

theorem setN_lt : ∀ (L : List Ev) (S : Nat), S < 16777216 → (∀ e ∈ L, isSw e = true) → setN S L < 16777216 := by
  intro L
  induction L with
  | nil => intro S h _; exact h
  | cons e r ih =>
    intro S h hs
    have := isSw_spec (hs e (by simp))
    exact ih (S ||| 2 ^ e.2.1.toNat) (or_lt24 h (pow_lt24 (by omega))) fun x hx => hs x (List.mem_cons_of_mem e hx)

theorem pick_out (l : List Cb) (s n at_ : Int) : (0 ≤ (whl l s).1 ∧ pickO l s n at_ = (n, (at_, (whl l s).1))) ∨ pickO l s n at_ = (1, (at_, -1)) := by
  unfold pickO
  by_cases h : (whl l s).1 ≥ 0
  · left; rw [decide_eq_true h]; exact ⟨by omega, rfl⟩
  · right; rw [decide_eq_false h]; rfl

theorem minI_le_right (x y : Int) : minI x y ≤ y := by unfold minI; split <;> omega

theorem mgo_spec (l : List Cb) (now tend : Int) : ∀ (r : List Ev) (S : Nat) (n : Int), S < 16777216 → (∀ e ∈ r, isSw e = true ∧ e.1 ≤ now) →
    ((mgo l now tend r (S : Int) n).1 = 0 ∧ now < tend ∧ ∀ e ∈ r, e.2.2 = true) ∨
    ((mgo l now tend r (S : Int) n).1 = 1 ∧ (mgo l now tend r (S : Int) n).2.2 = -1 ∧ (mgo l now tend r (S : Int) n).2.1 ≤ now) ∨
    (0 ≤ (mgo l now tend r (S : Int) n).2.2 ∧ (mgo l now tend r (S : Int) n).2.1 ≤ now ∧ ∃ j, j ≤ r.length ∧ (mgo l now tend r (S : Int) n).1 = n + j ∧ (∀ e ∈ r.take j, e.2.2 = true) ∧ (whl l (setN S (r.take j) : Int)).1 = (mgo l now tend r (S : Int) n).2.2) := by
  intro r
  induction r with
  | nil =>
    intro S n hS hr
    simp only [mgo]
    by_cases h : now < tend
    · left; rw [decide_eq_true h]; exact ⟨rfl, h, fun e he => by cases he⟩
    · right
      rw [decide_eq_false h, cond_false]
      rcases pick_out l (S : Int) n tend with ⟨h1, h2⟩ | h2
      · right; rw [h2]; exact ⟨h1, by simp only []; omega, 0, by simp, by simp, by simp, rfl⟩
      · left; rw [h2]; exact ⟨rfl, rfl, by simp only []; omega⟩
  | cons e r ih =>
    intro S n hS hr
    obtain ⟨he1, he2⟩ := hr e (by simp)
    obtain ⟨s1, s2, s3, s4⟩ := isSw_spec he1
    obtain ⟨k, hk⟩ := Int.eq_ofNat_of_zero_le s3
    have hk : e.2.1 = (k : Int) := hk
    have ho : bitOr .i64 (S : Int) (bitK e.2.1) = ((S ||| 2 ^ k : Nat) : Int) := by rw [hk]; exact orI (by omega) (by omega)
    have hS' : S ||| 2 ^ k < 16777216 := or_lt24 hS (pow_lt24 (by omega))
    have ihh := ih (S ||| 2 ^ k) (n + 1) hS' fun x hx => hr x (List.mem_cons_of_mem e hx)
    have pk : ∀ at_, at_ ≤ now → ((pickO l (S : Int) n at_).1 = 1 ∧ (pickO l (S : Int) n at_).2.2 = -1 ∧ (pickO l (S : Int) n at_).2.1 ≤ now) ∨ (0 ≤ (pickO l (S : Int) n at_).2.2 ∧ (pickO l (S : Int) n at_).2.1 ≤ now ∧ ∃ j, j ≤ (e :: r).length ∧ (pickO l (S : Int) n at_).1 = n + j ∧ (∀ x ∈ (e :: r).take j, x.2.2 = true) ∧ (whl l (setN S ((e :: r).take j) : Int)).1 = (pickO l (S : Int) n at_).2.2) := by
      intro at_ hat
      rcases pick_out l (S : Int) n at_ with ⟨h1, h2⟩ | h2
      · right; rw [h2]; exact ⟨h1, hat, 0, by simp, by simp, by simp, rfl⟩
      · left; rw [h2]; exact ⟨rfl, rfl, hat⟩
    have hmin : minI tend e.1 ≤ now := Int.le_trans (minI_le_right _ _) he2
    simp only [mgo, he1, Bool.not_true, cond_false, ho]
    by_cases h1 : e.1 ≥ tend
    · rw [decide_eq_true h1, cond_true]; exact .inr (pk _ hmin)
    rw [decide_eq_false h1, cond_false]
    cases hd : e.2.2 with
    | false => simp only [Bool.not_false, cond_true]; exact .inr (pk _ hmin)
    | true =>
      simp only [Bool.not_true, cond_false]
      cases hw : win l ((S ||| 2 ^ k : Nat) : Int) with
      | false => simp only [Bool.not_false, cond_true]; exact .inr (pk _ hmin)
      | true =>
        simp only [Bool.not_true, cond_false]
        have hset : ∀ j, setN S ((e :: r).take (j + 1)) = setN (S ||| 2 ^ k) (r.take j) := by
          intro j
          rw [List.take_succ_cons]
          show setN (S ||| 2 ^ e.2.1.toNat) _ = _
          rw [hk, Int.toNat_natCast]
        by_cases hc : decide ((whl l ((S ||| 2 ^ k : Nat) : Int)).1 ≥ 0) && !(whl l ((S ||| 2 ^ k : Nat) : Int)).2
        · rw [hc, cond_true]
          have h0 : (whl l ((S ||| 2 ^ k : Nat) : Int)).1 ≥ 0 := by
            simp only [Bool.and_eq_true, decide_eq_true_eq] at hc; exact hc.1
          right; right
          refine ⟨by simp only []; omega, he2, 1, by simp, rfl, ?_, ?_⟩
          · intro x hx; simp at hx; rw [hx]; exact hd
          · rw [hset 0]; rfl
        · have hc' : (decide ((whl l ((S ||| 2 ^ k : Nat) : Int)).1 ≥ 0) && !(whl l ((S ||| 2 ^ k : Nat) : Int)).2) = false := by simpa using hc
          rw [hc', cond_false]
          rcases ihh with ⟨i1, i2, i3⟩ | i1 | ⟨i1, i2, j, i3, i4, i5, i6⟩
          · left
            refine ⟨i1, i2, fun x hx => ?_⟩
            rcases List.mem_cons.1 hx with rfl | hx
            · exact hd
            · exact i3 x hx
          · right; left; exact i1
          · right; right
            refine ⟨i1, i2, j + 1, by simp; omega, by rw [i4]; omega, ?_, by rw [hset j]; exact i6⟩
            intro x hx
            rw [List.take_succ_cons] at hx
            rcases List.mem_cons.1 hx with rfl | hx
            · exact hd
            · exact i5 x hx

theorem whl_mem (l : List Cb) (s : Int) (x : Int) (h0 : 0 ≤ x) (h : (whl l s).1 = x) : ∃ c ∈ l, c.1 = s ∧ c.2 = x := by
  have key : ∀ (l : List Cb) (o : Int) (m : Bool), (l.foldl (whlStep s) (o, m)).1 = o ∨ ∃ c ∈ l, c.1 = s ∧ c.2 = (l.foldl (whlStep s) (o, m)).1 := by
    intro l
    induction l with
    | nil => intro o m; left; rfl
    | cons c r ih =>
      intro o m
      rw [List.foldl_cons]
      unfold whlStep
      by_cases hc : c.1 = s
      · have : (c.1 == s) = true := by rw [beqI]; exact decide_eq_true hc
        rw [this, cond_true]
        rcases ih c.2 m with h | ⟨y, hy, h1, h2⟩
        · right; exact ⟨c, by simp, hc, h.symm⟩
        · right; exact ⟨y, List.mem_cons_of_mem c hy, h1, h2⟩
      · have : (c.1 == s) = false := by rw [beqI]; exact decide_eq_false hc
        rw [this, cond_false]
        cases fitB s c.1 with
        | true =>
          simp only [cond_true]
          rcases ih o true with h | ⟨y, hy, h1, h2⟩
          · left; exact h
          · right; exact ⟨y, List.mem_cons_of_mem c hy, h1, h2⟩
        | false =>
          simp only [cond_false]
          rcases ih o m with h | ⟨y, hy, h1, h2⟩
          · left; exact h
          · right; exact ⟨y, List.mem_cons_of_mem c hy, h1, h2⟩
  rcases key l (-1) false with h1 | ⟨c, hc, h1, h2⟩
  · have h1 : (whl l s).1 = -1 := h1
    omega
  · exact ⟨c, hc, h1, by rw [h2]; exact h⟩

theorem keysOf_mem : ∀ {l : List Cb}, (l.Pairwise fun a b => a.2 ≠ b.2) → ∀ c ∈ l, keysOf l c.2 = c.1 := by
  intro l
  induction l with
  | nil => intro _ c hc; cases hc
  | cons x r ih =>
    intro hp c hc
    rw [List.pairwise_cons] at hp
    unfold keysOf
    rw [List.find?_cons]
    rcases List.mem_cons.1 hc with rfl | hc
    · have : (c.2 == c.2) = true := by rw [beqI]; simp
      rw [this]
    · have hne := hp.1 c hc
      have : (x.2 == c.2) = false := by rw [beqI]; exact decide_eq_false hne
      rw [this]
      exact ih hp.2 c hc

theorem fol_downs : ∀ (L : List Ev) (h : Nat) (t : Int), fol 24 h t L → (∀ e ∈ L, e.2.2 = true) → hA h L = h ||| setN 0 L ∧ ∀ i, (setN 0 L).testBit i = true → h.testBit i = false := by
  intro L
  induction L with
  | nil => intro h t _ _; simp [hA, setN]
  | cons e r ih =>
    rintro h t ⟨h1, h2, k, h3, h4, h5, h6⟩ hd
    have hde := hd e (by simp)
    rw [h5] at hde
    have hk : h.testBit k = false := by cases hh : h.testBit k with | false => rfl | true => rw [hh] at hde; cases hde
    rw [xor_or hk] at h6
    obtain ⟨g1, g2⟩ := ih _ _ h6 fun x hx => hd x (List.mem_cons_of_mem e hx)
    have e1 : hA h (e :: r) = hA (h ||| 2 ^ k) r := by simp only [hA, List.foldl_cons, h4, Int.toNat_natCast, xor_or hk]
    have e2 : setN 0 (e :: r) = 2 ^ k ||| setN 0 r := by
      show setN (0 ||| 2 ^ e.2.1.toNat) r = _
      rw [h4, Int.toNat_natCast, Nat.zero_or, setN_or]
    refine ⟨by rw [e1, g1, e2, Nat.or_assoc], fun i hi => ?_⟩
    rw [e2, Nat.testBit_or] at hi
    cases hr : (setN 0 r).testBit i with
    | true =>
      have := g2 i hr
      rw [or_bit] at this
      simp at this; exact this.1
    | false =>
      rw [hr, Bool.or_false, Nat.testBit_two_pow] at hi
      have := of_decide_eq_true hi
      subst this; exact hk

structure okS (l : List Cb) (s : Sc) (h : Nat) : Prop where
  d : ∃ d : Nat, s.dn = (d : Int) ∧ d < 16777216 ∧ AOk l d s.ac h
  nd : (s.ac.map (·.1)).Nodup

def oHs (s : Sc) : Nat := oH s.dn.toNat s.ac

/-- how an output moves what has been handed out -/
structure outS (s s' : Sc) (o : List Ev) : Prop where
  f : fol 32 (oHs s) s.ck o
  a : hA (oHs s) o = oHs s'
  t : ∀ e ∈ o, e.1 ≤ s'.ck

theorem act_pos {l : List Cb} (hl : okL l) {d h : Nat} {ac : List Ev} (ha : AOk l d ac h) : ∀ a ∈ ac, 24 ≤ a.1 ∧ a.1 ≤ 31 := by
  intro a hm
  obtain ⟨m, K, _, _, _, h5, _⟩ := AOk_mem ha a hm
  obtain ⟨_, _, _, _, h8, h9⟩ := hl.2.1 _ h5
  exact ⟨h8, h9⟩

theorem any_out {l : List Cb} (hl : okL l) {d h : Nat} {ac : List Ev} (ha : AOk l d ac h) {k : Nat} (hk : k < 24) : (ac.any fun a => a.2.2 && decide (a.1 = (k : Int))) = false := by
  rw [List.any_eq_false]
  intro a hm hc
  have := act_pos hl ha a hm
  simp only [Bool.and_eq_true, decide_eq_true_eq] at hc
  omega

theorem one_out {h h' : Nat} {t at_ : Int} {p : Nat} {b : Bool} (h1 : t ≤ at_) (h2 : at_ ≤ 1000000) (h3 : p < 32) (h4 : b = !(h.testBit p)) (h5 : h ^^^ 2 ^ p = h') : fol 32 h t [(at_, ((p : Int), b))] ∧ hA h [(at_, ((p : Int), b))] = h' :=
  ⟨⟨h1, h2, p, h3, rfl, h4, trivial⟩, by simp only [hA, List.foldl_cons, List.foldl_nil, Int.toNat_natCast]; exact h5⟩

theorem maxI_ge (x y : Int) : x ≤ maxI x y ∧ y ≤ maxI x y ∧ (maxI x y = x ∨ maxI x y = y) := by unfold maxI; split <;> omega
end Go.Kb
