/- Whatever pace the host has, it types what was pushed. -/
import Derived.Test.YtipjdpnpahhndaaDoorPipeP46
namespace Go.Kb
set_option maxRecDepth 100000

/-! ### the plain law -/
theorem okK_low : ∀ (l : List Int) (p : Int), okK p l = true → ∀ x ∈ l, p < x
  | [], _, _ => by intro x hx; cases hx
  | y :: r, p, h => by
    rw [okK_cons] at h
    simp only [Bool.and_eq_true, decide_eq_true_eq] at h
    intro x hx
    rcases List.mem_cons.1 hx with rfl | hx
    · exact h.2.1
    · have := okK_low r y h.2.2 x hx; omega
theorem okK_same : ∀ (l m : List Int) (p q : Int), okK p l = true → okK q m = true → (∀ x, x ∈ l ↔ x ∈ m) → l = m
  | [], [], _, _, _, _, _ => rfl
  | [], y :: m, _, _, _, _, h => by have := (h y).2 List.mem_cons_self; cases this
  | x :: l, [], _, _, _, _, h => by have := (h x).1 List.mem_cons_self; cases this
  | x :: l, y :: m, p, q, h1, h2, h => by
    have a1 := h1
    have a2 := h2
    rw [okK_cons] at a1 a2
    simp only [Bool.and_eq_true, decide_eq_true_eq] at a1 a2
    have l1 := okK_low l x a1.2.2
    have l2 := okK_low m y a2.2.2
    have e : x = y := by
      rcases List.mem_cons.1 ((h x).1 List.mem_cons_self) with e | e
      · exact e
      · rcases List.mem_cons.1 ((h y).2 List.mem_cons_self) with e' | e'
        · exact e'.symm
        · have := l1 y e'; have := l2 x e; omega
    subst e
    have : l = m := by
      refine okK_same l m x x a1.2.2 a2.2.2 fun z => ⟨fun hz => ?_, fun hz => ?_⟩
      · rcases List.mem_cons.1 ((h z).1 (List.mem_cons_of_mem _ hz)) with e | e
        · have := l1 z hz; omega
        · exact e
      · rcases List.mem_cons.1 ((h z).2 (List.mem_cons_of_mem _ hz)) with e | e
        · have := l2 z hz; omega
        · exact e
    rw [this]

theorem mods_same : ((List.range 4).all fun a => (List.range 4).all fun b => (bitAnd .i64 (bitXor .i64 (a : Int) (b : Int)) (bitXor .i64 (b : Int) (a : Int)) != 0) || Nat.beq a b) = true := by kernel_rfl
/-- a report that may be dropped does not stand between two that are the same, but as the same -/
theorem mdB_ne {a b : Rpt} (ga : goodR a) (gb : goodR b) (h : mdB a b a = true) : a = b := by
  obtain ⟨⟨m, hm, em⟩, _⟩ := ga
  obtain ⟨⟨k, hk, ek⟩, _⟩ := gb
  have h' := h
  unfold mdB at h
  simp only [Bool.and_eq_true] at h
  obtain ⟨ra, rb, _, hx, h1, h2⟩ := h
  have h1 : nk a b = [] := by simpa using h1
  have hmk : m = k := by
    have t := List.all_eq_true.1 mods_same m (List.mem_range.2 hm)
    have t := List.all_eq_true.1 t k (List.mem_range.2 hk)
    rw [em, ek] at hx
    simp only [beq_iff_eq] at hx
    rw [hx] at t
    simpa using t
  unfold nk at h1 h2
  rw [ra, rb] at h1
  rw [rb, ra] at h2
  simp only [Bool.and_self, condT] at h1 h2
  unfold newK at h1 h2
  rw [List.filter_eq_nil_iff] at h1
  rw [Bool.not_eq_true', List.any_eq_false] at h2
  unfold rpB at ra rb
  simp only [Bool.and_eq_true] at ra rb
  have hk2 : a.2 = b.2 := by
    refine okK_same _ _ 0 0 ra.2 rb.2 fun x => ⟨fun hx => ?_, fun hx => ?_⟩
    · by_cases hb : x ∈ b.2
      · exact hb
      · have := h2 x (List.mem_filter.2 ⟨hx, by simpa using hb⟩)
        exact absurd (by simpa using hx) this
    · simpa using h1 x hx
  obtain ⟨a1, a2⟩ := a
  obtain ⟨b1, b2⟩ := b
  simp only at em ek hk2
  rw [em, ek, hk2, hmk]

theorem goodR_rp {r : Rpt} (h : goodR r) : rpB r = true := by
  obtain ⟨⟨m, hm, em⟩, ⟨b0, b1, b2, b3, e⟩⟩ := h
  unfold rpB
  rw [em, e, decide_eq_true (by omega)]
  cases b0 <;> cases b1 <;> cases b2 <;> cases b3 <;> decide
theorem goodR_len {r : Rpt} (h : goodR r) : r.2.length ≤ 4 := sub4_len h.2
theorem goodR_small {r : Rpt} (h : goodR r) : smallR r := by
  have := goodR_len h
  unfold smallR; omega
theorem goodR_zero : goodR (0, []) := ⟨⟨0, by omega, rfl⟩, false, false, false, false, rfl⟩

theorem typed_app (a : Rpt) (l m : List Rpt) : typed a (l ++ m) = typed a l ++ typed (lastR a l) m := by
  induction l generalizing a with
  | nil => rfl
  | cons x l ih => rw [List.cons_append, typed, typed, lastR, ih, List.append_assoc]
theorem nk_self (a : Rpt) : nk a a = [] := by
  unfold nk
  cases rpB a && rpB a with
  | false => rfl
  | true =>
    rw [condT]
    unfold newK
    rw [List.filter_eq_nil_iff]
    intro x hx
    simpa using hx
theorem typed_same (a : Rpt) : typed a [a] = [] := by
  rw [typed, nk_self]; rfl

theorem dropF_law : ∀ (l : List Rpt) (a : Rpt) (t : List Rpt), goodR a → (∀ x ∈ l, goodR x) → chain a l = true → dropF a l = some t →
    typed a t = typed a l ∧ lastR a t = lastR a l ∧ chain a t = true ∧ (∀ x ∈ t, x ∈ l) ∧ t.length + 1 = l.length
  | [], a, t, _, _, _, h => by cases h
  | [_], a, t, _, _, _, h => by cases h
  | b :: c :: r, a, t, ga, gl, hc, h => by
    rw [dropF_two] at h
    have gb := gl b List.mem_cons_self
    have gc := gl c (List.mem_cons_of_mem _ List.mem_cons_self)
    have hc' := hc
    rw [chain, chain] at hc'
    simp only [Bool.and_eq_true, Bool.not_eq_true', decide_eq_false_iff_not] at hc'
    obtain ⟨rb, hab, rc, hbc, hr⟩ := hc'
    cases hmd : mdB a b c with
    | true =>
      rw [hmd, condT] at h
      have h := (Option.some.inj h).symm
      subst h
      obtain ⟨n1, n2⟩ := mdB_keys hmd
      refine ⟨?_, rfl, ?_, fun x hx => List.mem_cons_of_mem _ hx, by simp⟩
      · rw [typed, typed, typed, n1, n2]; rfl
      · rw [chain]
        simp only [Bool.and_eq_true, Bool.not_eq_true', decide_eq_false_iff_not]
        refine ⟨rc, fun e => ?_, hr⟩
        subst e
        exact hab (mdB_ne ga gb hmd)
    | false =>
      rw [hmd, condF] at h
      cases hq : dropF b (c :: r) with
      | none => rw [hq] at h; cases h
      | some u =>
        rw [hq] at h
        have h := (Option.some.inj h).symm
        subst h
        have hcb : chain b (c :: r) = true := by
          rw [chain]; simp only [Bool.and_eq_true, Bool.not_eq_true', decide_eq_false_iff_not]
          exact ⟨rc, hbc, hr⟩
        obtain ⟨t1, t2, t3, t4, t5⟩ := dropF_law (c :: r) b u gb (fun x hx => gl x (List.mem_cons_of_mem _ hx)) hcb hq
        refine ⟨?_, ?_, ?_, ?_, ?_⟩
        · rw [typed, t1]; exact (typed.eq_2 a b (c :: r)).symm
        · exact t2
        · rw [chain]; simp only [Bool.and_eq_true, Bool.not_eq_true', decide_eq_false_iff_not]
          exact ⟨rb, hab, t3⟩
        · intro x hx
          rcases List.mem_cons.1 hx with rfl | hx
          · exact List.mem_cons_self
          · exact List.mem_cons_of_mem _ (t4 x hx)
        · simp only [List.length_cons] at t5 ⊢; omega

theorem chain_app (a r : Rpt) (l : List Rpt) (h : chain a l = true) (hr : rpB r = true) (hn : lastR a l ≠ r) : chain a (l ++ [r]) = true := by
  induction l generalizing a with
  | nil =>
    simp only [List.nil_append, chain, Bool.and_true, hr, Bool.true_and, Bool.not_eq_true', decide_eq_false_iff_not]
    exact hn
  | cons x l ih =>
    rw [chain] at h
    rw [List.cons_append, chain]
    simp only [Bool.and_eq_true] at h ⊢
    exact ⟨h.1, h.2.1, ih x h.2.2 hn⟩

/-! ### the state on the way -/
structure InvP (l : List Rpt) (i : Nat) (a : Rpt) (w h : List Rpt) : Prop where
  ga : goodR a
  gw : ∀ x ∈ w, goodR x
  gh : ∀ x ∈ h, goodR x
  pipe : ipB (a, w) = true
  last : lastR (0, []) h = a
  ty : typed (0, []) (h ++ w) = typed (0, []) (l.take i)
  le : lastR (0, []) (h ++ w) = lastR (0, []) (l.take i)
  len : h.length + w.length ≤ i

theorem InvP.push {l : List Rpt} {i : Nat} {a : Rpt} {w h : List Rpt} (I : InvP l i a w h) (hi : i < l.length) (gl : ∀ x ∈ l, goodR x) {q : Rpt × List Rpt} (hq : pushV (a, w) (l.getD i (0, [])) = some q) :
    InvP l (i + 1) q.1 q.2 h ∧ q.1 = a := by
  have hm : l.getD i (0, []) ∈ l := nth_mem (0, []) l i hi
  have gr := gl _ hm
  have et : l.take (i + 1) = l.take i ++ [l.getD i (0, [])] := by
    rw [List.take_add_one, List.getD_eq_getElem?_getD, List.getElem?_eq_getElem hi]; rfl
  generalize l.getD i (0, []) = r at *
  have hp := I.pipe
  unfold ipB at hp
  simp only [Bool.and_eq_true, decide_eq_true_eq] at hp
  obtain ⟨pa, pl, pc⟩ := hp
  have hlast : lastR (0, []) (h ++ w) = lastR a w := by rw [lastR_app2, I.last]
  have hty : typed (0, []) (l.take (i + 1)) = typed (0, []) (h ++ w) ++ typed (lastR a w) [r] := by
    rw [et, typed_app, ← I.ty, ← I.le, hlast]
  have hle : lastR (0, []) (l.take (i + 1)) = r := by rw [et, lastR_append]
  have hlen := I.len
  unfold pushV at hq
  simp only at hq
  by_cases hs : lastR a w = r
  · rw [if_pos hs] at hq
    have hq := (Option.some.inj hq).symm
    subst hq
    refine ⟨⟨I.ga, I.gw, I.gh, I.pipe, I.last, ?_, ?_, by show h.length + w.length ≤ i + 1; omega⟩, rfl⟩
    · rw [hty, hs, typed_same, List.append_nil]
    · rw [hle, hlast, hs]
  · rw [if_neg hs] at hq
    have hch := chain_app a r w pc (goodR_rp gr) hs
    have gw2 : ∀ x ∈ w ++ [r], goodR x := by
      intro x hx
      rcases List.mem_append.1 hx with hx | hx
      · exact I.gw x hx
      · rw [List.mem_singleton.1 hx]; exact gr
    have ht2 : typed (0, []) (h ++ (w ++ [r])) = typed (0, []) (l.take (i + 1)) := by
      rw [hty, ← List.append_assoc, typed_app, hlast]
    by_cases h8 : w.length + 1 ≤ 8
    · rw [if_pos h8] at hq
      have hq := (Option.some.inj hq).symm
      subst hq
      refine ⟨⟨I.ga, gw2, I.gh, ?_, I.last, ht2, ?_, by simp; omega⟩, rfl⟩
      · unfold ipB
        simp only [Bool.and_eq_true, decide_eq_true_eq]
        exact ⟨pa, by simp; omega, hch⟩
      · rw [hle, ← List.append_assoc, lastR_append]
    · rw [if_neg h8] at hq
      cases hd : dropF a (w ++ [r]) with
      | none => rw [hd] at hq; cases hq
      | some t =>
        rw [hd] at hq
        have hq := (Option.some.inj hq).symm
        subst hq
        obtain ⟨t1, t2, t3, t4, t5⟩ := dropF_law _ a t I.ga gw2 hch hd
        simp only [List.length_append, List.length_cons, List.length_nil] at t5
        refine ⟨⟨I.ga, fun x hx => gw2 x (t4 x hx), I.gh, ?_, I.last, ?_, ?_, by show h.length + t.length ≤ i + 1; omega⟩, rfl⟩
        · unfold ipB
          simp only [Bool.and_eq_true, decide_eq_true_eq]
          exact ⟨pa, by omega, t3⟩
        · rw [← ht2, typed_app, typed_app, I.last, t1]
        · rw [hle, lastR_app2, I.last, t2, lastR_append]

theorem InvP.take {l : List Rpt} {i : Nat} {a x : Rpt} {w h : List Rpt} (I : InvP l i a (x :: w) h) : InvP l i x w (h ++ [x]) := by
  have hp := I.pipe
  unfold ipB at hp
  simp only [Bool.and_eq_true, decide_eq_true_eq] at hp
  obtain ⟨pa, pl, pc⟩ := hp
  rw [chain] at pc
  simp only [Bool.and_eq_true] at pc
  have hlen := I.len
  simp only [List.length_cons] at pl hlen
  refine ⟨I.gw x List.mem_cons_self, fun y hy => I.gw y (List.mem_cons_of_mem _ hy), ?_, ?_, lastR_append _ _ _, ?_, ?_, by simp; omega⟩
  · intro y hy
    rcases List.mem_append.1 hy with hy | hy
    · exact I.gh y hy
    · rw [List.mem_singleton.1 hy]; exact I.gw x List.mem_cons_self
  · unfold ipB
    simp only [Bool.and_eq_true, decide_eq_true_eq]
    exact ⟨pc.1, by omega, pc.2.2⟩
  · rw [List.append_assoc]; exact I.ty
  · rw [List.append_assoc]; exact I.le

theorem smallRS_good {w : List Rpt} (h : ∀ x ∈ w, goodR x) (hl : w.length ≤ 1048576) : smallRS w := ⟨hl, fun x hx => goodR_small (h x hx)⟩

/-- the end -/
theorem PipeEnd (N : Nat) (hN : 1048576 < N) {l : List Rpt} (gl : ∀ x ∈ l, goodR x) (hll : l.length ≤ 50) {i : Nat} (hi : i ≤ l.length) {a : Rpt} {h : List Rpt} (I : InvP l i a [] h) (m : Int) (ks : List Int) (ha : (m, ks) = a) :
    (bindO (impl_IsPipe.F N ((m, ks), [])) fun r10 =>
      bif r10 then
        bindO (impl_TypedText.F N (((0 : Int), ([] : List Int)), h)) fun r11 =>
        bif decide (0 ≤ (i : Int)) && decide ((i : Int) ≤ (List.length l : Int)) then
        bindO (impl_TypedText.F N (((0 : Int), ([] : List Int)), List.take (Int.toNat (i : Int)) l)) fun r12 =>
        bif r11 == r12 then
          bif (i : Int) == (0 : Int) then
            some true
          else
            bif inRange (IntKind.wrap .i64 ((i : Int) - (1 : Int))) (List.length l) then
            bindO (impl_SameReport.F N ((m, ks), (nth ((0 : Int), ([] : List Int)) l (IntKind.wrap .i64 ((i : Int) - (1 : Int)))))) fun r13 =>
            some r13
            else none
        else
          some false
        else none
      else
        some false) = some true := by
  have hlen := I.len
  have hty := I.ty
  have hle := I.le
  rw [List.append_nil] at hty hle
  rw [ha, IsPipe_eq N hN _ (goodR_small I.ga) ⟨by simp, by intro x hx; cases hx⟩, bindV, I.pipe, condT]
  rw [TypedText_eq N hN _ (goodR_small goodR_zero) h 4 (by omega) (fun r hr => goodR_len (I.gh r hr)) (by omega) (by omega), bindV,
    decide_eq_true (by omega : (0 : Int) ≤ (i : Int)), decide_eq_true (by omega : (i : Int) ≤ (l.length : Int)), Bool.and_self, condT, Int.toNat_natCast]
  have hlt : (l.take i).length ≤ 50 := by simp; omega
  rw [TypedText_eq N hN _ (goodR_small goodR_zero) (l.take i) 4 (by omega) (fun r hr => goodR_len (gl r (List.mem_of_mem_take hr))) (by omega) (by omega), bindV, hty, beq_self_eq_true, condT]
  by_cases h0 : i = 0
  · subst h0; rfl
  · have e : ((i : Int) == 0) = false := by rw [beqI, decide_eq_false (by omega)]
    have w : IntKind.wrap .i64 ((i : Int) - 1) = ((i - 1 : Nat) : Int) := by rw [wrap64 (by omega) (by omega)]; omega
    have hj : i - 1 < l.length := by omega
    have ht : l.take i = l.take (i - 1) ++ [l.getD (i - 1) (0, [])] := by
      have := List.take_add_one (l := l) (i := i - 1)
      rw [show i - 1 + 1 = i by omega] at this
      rw [this, List.getD_eq_getElem?_getD, List.getElem?_eq_getElem hj]; rfl
    have hlast : a = l.getD (i - 1) (0, []) := by
      rw [← I.last, hle, ht, lastR_append]
    rw [e, condF, w, inRange_nat, decide_eq_true hj, condT, nth_nat, SameR_eq N hN _ _ (goodR_small I.ga), bindV, decide_eq_true hlast]

theorem Pipe_L3 (N : Nat) (hN : 1048576 < N) {l : List Rpt} (gl : ∀ x ∈ l, goodR x) (hll : l.length ≤ 50) {i : Nat} (hi : i ≤ l.length) : ∀ (n : Nat) (a : Rpt) (w h : List Rpt), InvP l i a w h → w.length < n →
    laws_FnPipe.L3 N n l (i : Int) a.1 a.2 w h = some true := by
  intro n
  induction n with
  | zero => intro a w h _ hn; omega
  | succ n ih =>
    intro a w h I hn
    have hlen := I.len
    rw [laws_FnPipe.L3_eq]
    cases w with
    | nil =>
      rw [decide_eq_false (by simp), condF]
      exact PipeEnd N hN gl hll hi I a.1 a.2 rfl
    | cons x w =>
      simp only [List.length_cons] at hlen hn
      have hS : smallRS (x :: w) := smallRS_good I.gw (by simp; omega)
      have e : impl_TakeReport.F N ((a.1, a.2), x :: w) = some ((x, w), true) := Take_eq N hN a x w (goodR_small I.ga) hS I.pipe
      have hmx : decide (List.length h + List.length ([x] : List Rpt) ≤ maxN) = true := decide_eq_true (by unfold maxN; simp; omega)
      rw [decide_eq_true (by simp), condT, decide_eq_true (by omega), condT, e, bindV]
      simp only [notT, condF, hmx, condT]
      exact ih x w (h ++ [x]) I.take (by omega)

theorem Pipe_L2 (N : Nat) (hN : 1048576 < N) (code : List Int) (hm : code.length ≤ maxN) (hc : code.length < N) {l : List Rpt} (hll : l.length ≤ 50) {i : Nat} (hi : i < l.length) (n1 : Nat)
    (next : ∀ (a : Rpt) (w h : List Rpt), InvP l (i + 1) a w h → laws_FnPipe.L1 N n1 code l ((i + 1 : Nat) : Int) ((i + 1 : Nat) : Int) a.1 a.2 w h = some true) :
    ∀ (n : Nat) (a : Rpt) (w h : List Rpt), InvP l (i + 1) a w h → w.length < n → laws_FnPipe.L2 N n1 n code l ((i + 1 : Nat) : Int) (i : Int) a.1 a.2 w h = some true := by
  intro n
  induction n with
  | zero => intro a w h _ hn; omega
  | succ n ih =>
    intro a w h I hn
    have hlen := I.len
    have ws : IntKind.wrap .i64 ((i : Int) + 1) = ((i + 1 : Nat) : Int) := wrap_succ (by omega)
    obtain ⟨v, e0, _, _⟩ := MakeNumber_ok N code (IntKind.wrap .i64 ((90 : Int) + (i : Int))) 3 hm hc (by omega)
    rw [laws_FnPipe.L2_eq, e0, bindV, ws]
    cases v == 0 with
    | false => rw [condF]; exact next a w h I
    | true =>
      rw [condT]
      cases w with
      | nil => rw [decide_eq_false (by simp), condF]; exact next a [] h I
      | cons x w =>
        simp only [List.length_cons] at hlen hn
        have hS : smallRS (x :: w) := smallRS_good I.gw (by simp; omega)
        have e : impl_TakeReport.F N ((a.1, a.2), x :: w) = some ((x, w), true) := Take_eq N hN a x w (goodR_small I.ga) hS I.pipe
        have hmx : decide (List.length h + List.length ([x] : List Rpt) ≤ maxN) = true := decide_eq_true (by unfold maxN; simp; omega)
        rw [decide_eq_true (by simp), condT, decide_eq_true (by omega), condT, e, bindV]
        simp only [notT, condF, hmx, condT]
        cases Int.tmod (List.length (h ++ [x]) : Int) 2 == 0 with
        | true => rw [condT]; exact next x w (h ++ [x]) I.take
        | false => rw [condF]; exact ih x w (h ++ [x]) I.take (by omega)

theorem Pipe_L1 (N : Nat) (hN : 1048576 < N) (code : List Int) (hm : code.length ≤ maxN) (hc : code.length < N) {l : List Rpt} (gl : ∀ x ∈ l, goodR x) (hll : l.length ≤ 50) : ∀ (n i : Nat) (a : Rpt) (w h : List Rpt), i ≤ l.length → l.length < n + i → InvP l i a w h →
    laws_FnPipe.L1 N n code l (i : Int) (i : Int) a.1 a.2 w h = some true := by
  intro n
  induction n with
  | zero => intro i a w h h1 h2; omega
  | succ n ih =>
    intro i a w h h1 h2 I
    have hlen := I.len
    rw [laws_FnPipe.L1_eq]
    by_cases hi : i < l.length
    · have gr := gl _ (nth_mem (0, []) l i hi)
      have ws : IntKind.wrap .i64 ((i : Int) + 1) = ((i + 1 : Nat) : Int) := wrap_succ (by omega)
      have hsw : ∀ x ∈ w, smallR x := fun x hx => goodR_small (I.gw x hx)
      have e : impl_PushReport.F N (((a.1, a.2), w), l.getD i (0, [])) = _ := Push_eq N hN (a, w) _ (goodR_small I.ga) hsw (goodR_small gr) I.pipe (goodR_rp gr)
      rw [decide_eq_true (by omega : (i : Int) < (l.length : Int)), condT, inRange_nat, decide_eq_true hi, condT, nth_nat, e]
      cases hq : pushV (a, w) (l.getD i (0, [])) with
      | none =>
        obtain ⟨x, ex⟩ := PushS_none N hN (a, w) _ (goodR_small I.ga) hsw (goodR_small gr) I.pipe (goodR_rp gr) hq
        have ex' : spec_PushReport.F N (((a.1, a.2), w), l.getD i (0, [])) = some (x, false) := ex
        simp only [bindV, notF, condT, ex', condF]
        exact Pipe_L3 N hN gl hll h1 N a w h I (by omega)
      | some q =>
        obtain ⟨J, _⟩ := I.push hi gl hq
        have jlen := J.len
        simp only [bindV, notT, condF, ws]
        exact Pipe_L2 N hN code hm hc hll hi n (fun a' w' h' I' => ih (i + 1) a' w' h' (by omega) (by omega) I') N q.1 q.2 h J (by omega)
    · rw [decide_eq_false (by omega : ¬ (i : Int) < (l.length : Int)), condF]
      exact Pipe_L3 N hN gl hll h1 N a w h I (by omega)

theorem Pipe_F (code : List Int) : laws_FnPipe.F 2000000 code = some true := by
  rw [laws_FnPipe.F_eq, laws_big.F_eq, bindV]
  by_cases hb : (code.length : Int) > 1048576
  · rw [decide_eq_true hb]; rfl
  · rw [decide_eq_false hb, condF, spec_MakeReports.F_eq]
    have hm : code.length ≤ maxN := by unfold maxN; omega
    obtain ⟨c, e, k⟩ := l24New_ok 2000000 code 5 hm (by omega)
    obtain ⟨l, c', e2, _, hl, gl⟩ := ReportsD 2000000 (by omega) code hm c k 24 (by omega)
    have e2' : spec_l13Reports.F 2000000 (c, (24 : Int)) = some (l, c') := e2
    rw [e, bindV, e2', bindV, bindV]
    have I : InvP l 0 (0, []) [] [] := by
      refine ⟨goodR_zero, (fun x hx => nomatch hx), (fun x hx => nomatch hx), (by decide), rfl, ?_, ?_, by simp⟩
      · rw [List.take_zero]; rfl
      · rw [List.take_zero]; rfl
    exact Pipe_L1 2000000 (by omega) code hm (by omega) gl (by omega) 2000000 0 (0, []) [] [] (by omega) (by omega) I
end Go.Kb
