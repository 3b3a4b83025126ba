/- Reports and pipes by handles: copies, marks. -/
import Derived.Test.YticidpdbkjgebaaDoorExactTextReportsP69
import Derived.Test.YticidpdbkjgebaaDoorExactTextReportsP68
namespace Go.Kb
set_option maxRecDepth 100000

abbrev RH := Int × Hnd
/-- the reports by handles A show the reports V -/
def OwnR (D : List HRow) (lo hi : Nat) (A : List RH) (V : List Rpt) : Prop :=
  A.map Prod.fst = V.map Prod.fst ∧ Own (u := .int .i64) 2 D lo hi (A.map Prod.snd) (V.map Prod.snd)
section
variable {D D' : List HRow} {lo hi : Nat} {A : List RH} {V : List Rpt}
theorem OwnR.len (h : OwnR D lo hi A V) : A.length = V.length := by have := h.2.len; simpa using this
theorem map_getD {α β : Type} (f : α → β) (d : α) (l : List α) (i : Nat) : (l.map f).getD i (f d) = f (l.getD i d) := by
  simp only [List.getD_eq_getElem?_getD, List.getElem?_map]
  cases l[i]? <;> rfl
theorem OwnR.fst (h : OwnR D lo hi A V) (i : Nat) : (A.getD i (0, none)).1 = (V.getD i (0, [])).1 := by
  have e1 : (A.map Prod.fst).getD i 0 = (A.getD i (0, none)).1 := map_getD Prod.fst ((0, none) : RH) A i
  have e2 : (V.map Prod.fst).getD i 0 = (V.getD i (0, [])).1 := map_getD Prod.fst ((0, []) : Rpt) V i
  rw [← e1, ← e2, h.1]
theorem snd_getD (A : List RH) (i : Nat) : (A.map Prod.snd).getD i none = (A.getD i (0, none)).2 := map_getD Prod.snd ((0, none) : RH) A i
theorem snd_getD' (V : List Rpt) (i : Nat) : (V.map Prod.snd).getD i [] = (V.getD i (0, [])).2 := map_getD Prod.snd ((0, []) : Rpt) V i
theorem OwnR.cut (h : OwnR D lo hi A V) {i : Nat} (hi' : i < V.length) : hcut D (.int .i64) (A.getD i (0, none)).2 = (V.getD i (0, [])).2 := by
  have := h.2.cut (i := i) (by rw [List.length_map]; exact hi')
  rw [snd_getD, snd_getD'] at this
  exact this
theorem OwnR.ok (h : OwnR D lo hi A V) {i : Nat} (hi' : i < V.length) : hok D (.int .i64) (A.getD i (0, none)).2 = true := by
  have := h.2.okAt (i := i) (by rw [List.length_map]; exact hi')
  rw [snd_getD] at this
  exact this
theorem OwnR.full (h : OwnR D lo hi A V) {i : Nat} (hi' : i < V.length) : hfull D 2 (.int .i64) (A.getD i (0, none)).2 = true := by
  have := h.2.full (i := i) (by rw [List.length_map]; exact hi')
  rw [snd_getD] at this
  exact this
theorem OwnR.unok (h : OwnR D lo hi A V) : List.all A (Ty.unok D (.pair (.int .i64) (.hnd (.int .i64)))) = true := by
  rw [List.all_eq_true]
  intro x hx
  obtain ⟨i, hi', rfl⟩ := getD_of_mem (d := ((0, none) : RH)) hx
  have := h.ok (i := i) (by rw [← h.len]; exact hi')
  show (true && hok D _ _) = true
  rw [this]; rfl
theorem mapAt (f : RH → Rpt) (A : List RH) (V : List Rpt) (hl : A.length = V.length) (h : ∀ i, i < V.length → f (A.getD i (0, none)) = V.getD i (0, [])) : List.map f A = V := by
  refine List.ext_getElem (by rw [List.length_map]; exact hl) fun i h1 h2 => ?_
  have h3 : i < A.length := by omega
  have := h i h2
  rw [List.getD_eq_getElem?_getD, List.getD_eq_getElem?_getD, List.getElem?_eq_getElem (l := V) h2, List.getElem?_eq_getElem (l := A) h3] at this
  rw [List.getElem_map]
  exact this
theorem OwnR.un (h : OwnR D lo hi A V) : (List.map (Ty.unden D (.pair (.int .i64) (.hnd (.int .i64)))) A : List (Int × List Int)) = V :=
  mapAt (Ty.unden D (.pair (.int .i64) (.hnd (.int .i64)))) A V h.len fun i hi' => Prod.ext (h.fst i) (h.cut hi')
theorem OwnR.more (h : OwnR D lo hi A V) (hD : D <+: D') : OwnR D' lo hi A V := ⟨h.1, h.2.more hD⟩
theorem OwnR.mono (h : OwnR D lo hi A V) {lo' hi' : Nat} (h1 : lo' ≤ lo) (h2 : hi ≤ hi') : OwnR D lo' hi' A V := ⟨h.1, h.2.mono h1 h2⟩
theorem OwnR.apart (h : OwnR D lo hi A V) {a b : Nat} (hf : Fr a b D D') (hab : hi ≤ a ∨ b ≤ lo) : OwnR D' lo hi A V := ⟨h.1, h.2.apart hf hab⟩
theorem OwnR.shown {E : List HRow} (h : OwnR E lo hi A V) (hD : hhide D <+: E) (hlo : D.length ≤ lo) : OwnR (hmerge D E) lo hi A V := ⟨h.1, h.2.shown hD hlo⟩
theorem ownR_nil : OwnR D lo hi [] [] := ⟨rfl, own_nil⟩
theorem ownR_zero : OwnR D lo hi [(0, none)] [(0, [])] := ⟨rfl, own_one_nil⟩
theorem OwnR.push (h : OwnR D lo D.length A V) (hlo : lo ≤ D.length) (m : Int) (v : List Int) : OwnR (D ++ [HRow.row 2 (.int .i64) v]) lo (D.length + 1) (A ++ [(m, some (D.length, 0, v.length))]) (V ++ [(m, v)]) := by
  refine ⟨by simp [h.1], ?_⟩
  rw [List.map_append, List.map_append]
  exact h.2.push hlo v
theorem OwnR.append {mid : Nat} {B : List RH} {W : List Rpt} (h : OwnR D lo mid A V) (g : OwnR D mid hi B W) (h1 : lo ≤ mid) (h2 : mid ≤ hi) : OwnR D lo hi (A ++ B) (V ++ W) := by
  refine ⟨by simp [h.1, g.1], ?_⟩
  rw [List.map_append, List.map_append]
  exact h.2.append g.2 h1 h2
theorem OwnR.one {k : Nat} {m : Int} {v : List Int} (hk : D[k]? = some (.row 2 (.int .i64) v)) : OwnR D k (k + 1) [(m, some (k, 0, v.length))] [(m, v)] := ⟨rfl, Own.one hk⟩
theorem OwnR.sub (h : OwnR D lo hi A V) {A' : List RH} {V' : List Rpt} (φ : Nat → Nat) (hl : A'.length = V'.length)
    (hφ : ∀ i, i < V'.length → φ i < V.length ∧ A'.getD i (0, none) = A.getD (φ i) (0, none) ∧ V'.getD i (0, []) = V.getD (φ i) (0, [])) (inj : ∀ i j, i < V'.length → j < V'.length → φ i = φ j → i = j) : OwnR D lo hi A' V' := by
  refine ⟨?_, h.2.sub φ (by simpa using hl) (fun i hi' => ?_) (fun i j h1 h2 => inj i j (by simpa using h1) (by simpa using h2))⟩
  · refine List.ext_getElem (by simpa using hl) fun i h1 h2 => ?_
    have h3 : i < A'.length := by simpa using h1
    have h4 : i < V'.length := by omega
    obtain ⟨p, q, r⟩ := hφ i h4
    have := h.fst (φ i)
    rw [← q, ← r] at this
    rw [List.getD_eq_getElem?_getD, List.getD_eq_getElem?_getD, List.getElem?_eq_getElem (l := V') h4, List.getElem?_eq_getElem (l := A') h3] at this
    rw [List.getElem_map, List.getElem_map]
    exact this
  · rw [List.length_map] at hi'
    obtain ⟨p, q, r⟩ := hφ i hi'
    rw [snd_getD, snd_getD, snd_getD', snd_getD', q, r, List.length_map]
    exact ⟨p, rfl, rfl⟩
theorem OwnR.tail {a : RH} {v : Rpt} (o : OwnR D lo hi (a :: A) (v :: V)) : OwnR D lo hi A V := by
  obtain ⟨o1, o2⟩ := o
  rw [List.map_cons, List.map_cons] at o1 o2
  exact ⟨(List.cons.inj o1).2, o2.tail⟩
theorem OwnR.hd1 {a : RH} {v : Rpt} (o : OwnR D lo hi (a :: A) (v :: V)) : a.1 = v.1 := o.fst 0
theorem OwnR.hdok {a : RH} {v : Rpt} (o : OwnR D lo hi (a :: A) (v :: V)) : hok D (.int .i64) a.2 = true := o.ok (i := 0) (by simp)
theorem OwnR.hdcut {a : RH} {v : Rpt} (o : OwnR D lo hi (a :: A) (v :: V)) : hcut D (.int .i64) a.2 = v.2 := o.cut (i := 0) (by simp)
theorem OwnR.hdfull {a : RH} {v : Rpt} (o : OwnR D lo hi (a :: A) (v :: V)) : hfull D 2 (.int .i64) a.2 = true := o.full (i := 0) (by simp)
end

theorem getSet {α : Type} (l : List α) (i : Nat) (x d : α) (h : i < l.length) : (l.set i x).getD i d = x := by
  simp [List.getD_eq_getElem?_getD, h]
theorem getSet_ne {α : Type} (l : List α) (i j : Nat) (x d : α) (h : i ≠ j) : (l.set i x).getD j d = l.getD j d := by
  simp only [List.getD_eq_getElem?_getD, List.getElem?_set_ne h]
/-! ### copies -/
/-- a pipe comes out, by handles of rows that are new -/
def PpOut (r : Option ((RH × List RH) × List HRow)) (D : List HRow) (v : Pp) : Prop :=
  ∃ a A D', r = some ((a, A), D') ∧ D <+: D' ∧ OwnR D' D.length D'.length (a :: A) (v.1 :: v.2)
def PpOutB {β : Type} (r : Option (((RH × List RH) × β) × List HRow)) (D : List HRow) (v : Pp × β) : Prop :=
  ∃ a A D', r = some (((a, A), v.2), D') ∧ D <+: D' ∧ OwnR D' D.length D'.length (a :: A) (v.1.1 :: v.1.2)
theorem PpOut.call {r : Option ((RH × List RH) × List HRow)} {D : List HRow} {v : Pp} (h : PpOut r (hhide D) v) :
    ∃ a A D', r = some ((a, A), D') ∧ D <+: hmerge D D' ∧ OwnR (hmerge D D') D.length (hmerge D D').length (a :: A) (v.1 :: v.2) := by
  obtain ⟨a, A, D', e, p, o⟩ := h
  have o' := o.shown p (by rw [hide_len]; exact Nat.le_refl _)
  rw [hide_len] at o'
  exact ⟨a, A, D', e, (hide_more p).1, by rw [(hide_more p).2.1]; exact o'⟩
theorem PpOutB.call {β : Type} {r : Option (((RH × List RH) × β) × List HRow)} {D : List HRow} {v : Pp × β} (h : PpOutB r (hhide D) v) :
    ∃ a A D', r = some (((a, A), v.2), D') ∧ D <+: hmerge D D' ∧ OwnR (hmerge D D') D.length (hmerge D D').length (a :: A) (v.1.1 :: v.1.2) := by
  obtain ⟨a, A, D', e, p, o⟩ := h
  have o' := o.shown p (by rw [hide_len]; exact Nat.le_refl _)
  rw [hide_len] at o'
  exact ⟨a, A, D', e, (hide_more p).1, by rw [(hide_more p).2.1]; exact o'⟩

/-! ### marks -/
theorem markRS_L1 (N : Nat) (hN : 1048576 < N) (lo hi : Nat) : ∀ (n i : Nat) (c : Int) (A : List RH) (V : List Rpt) (D : List HRow), smallRS V → i ≤ V.length → V.length < n + i → 0 ≤ c →
    c + (V.length - i : Nat) * 1048577 ≤ 2305843009213693952 → OwnR D lo hi A V →
    ∃ c' A' V' D', laws_markReportS.L1 N n c (i : Int) A D = some ((c', A'), D') ∧ Fr lo hi D D' ∧ OwnR D' lo hi A' V' ∧ A'.map Prod.snd = A.map Prod.snd ∧ V'.length = V.length ∧ (∀ j, j < i → V'.getD j (0, []) = V.getD j (0, [])) ∧
      c ≤ c' ∧ c' ≤ c + (V.length - i : Nat) * 1048577 ∧ laws_heldReportS.L1 N n V' c (i : Int) = some c' := by
  intro n
  induction n with
  | zero => intro i c A V D h0 h1 h2; omega
  | succ n ih =>
    intro i c A V D h0 h1 h2 h3 h4 h5
    have hal := h0.1
    have hl := h5.len
    rw [laws_markReportS.L1_eq, hl]
    by_cases hi' : i < V.length
    · have hx := h0.2 _ (nth_mem (0, []) V i hi')
      have hA : i < A.length := by omega
      have hx : (V.getD i (0, [])).2.length ≤ 1048576 := hx
      obtain ⟨c1, o1, m1, m2, m3, m4, m5⟩ := marksI_eq N (V.getD i (0, [])).2 (c + 1) (by omega) (by unfold maxN; omega) (by omega) (by omega)
      have pe : (V.map Prod.snd).getD i [] = (V.getD i (0, [])).2 := snd_getD' V i
      obtain ⟨q1, q2⟩ := h5.2.put (i := i) (by rw [List.length_map]; exact hi') (v := o1) (by rw [pe]; exact m5)
      rw [snd_getD] at q1 q2
      have cutE := h5.cut hi'
      have w1 : IntKind.wrap .i64 (c + 1) = c + 1 := wrap64 (by omega) (by omega)
      rw [decide_eq_true (Int.ofNat_lt.mpr hi'), condT, inRange_nat, decide_eq_true hi', condT, Int.toNat_natCast, getSet _ _ _ _ hA, List.length_set, inRange_nat, decide_eq_true hA, condT]
      dsimp only
      rw [h5.full hi', condT, cutE, w1, m1, bindV, wrap_succ (by omega)]
      have small' : smallRS (V.set i (c, o1)) := by
        refine ⟨by rw [List.length_set]; exact hal, fun x hxm => ?_⟩
        rcases List.mem_or_eq_of_mem_set hxm with g | g
        · exact h0.2 x g
        · rw [g]; show o1.length ≤ 1048576; rw [m5]; exact hx
      have eS : (A.set i (c, (A.getD i (0, none)).2)).map Prod.snd = A.map Prod.snd := by
        rw [List.map_set]
        refine List.ext_getElem (by simp) fun j h1' h2' => ?_
        rw [List.getElem_set]
        split
        · next e => subst e; rw [List.getElem_map, List.getD_eq_getElem?_getD, List.getElem?_eq_getElem hA]; rfl
        · rfl
      have own' : OwnR (hput (hgone D (A.getD i (0, none)).2) (A.getD i (0, none)).2 2 (.int .i64) o1) lo hi (A.set i (c, (A.getD i (0, none)).2)) (V.set i (c, o1)) := by
        refine ⟨by rw [List.map_set, List.map_set, h5.1], ?_⟩
        rw [eS, List.map_set]
        exact q1
      obtain ⟨c', A', V', D', e1, e2, e3, e3b, e4, e5, e6, e7, e8⟩ := ih (i + 1) c1 (A.set i (c, (A.getD i (0, none)).2)) (V.set i (c, o1)) _ small' (by rw [List.length_set]; omega) (by rw [List.length_set]; omega) (by omega) (by rw [List.length_set]; omega) own'
      rw [List.length_set] at e4 e7
      refine ⟨c', A', V', D', e1, q2.trans e2, e3, e3b.trans eS, e4, fun j hj => ?_, by omega, by omega, ?_⟩
      · rw [e5 j (by omega), getSet_ne _ _ _ _ _ (by omega)]
      · have hk' : i < V'.length := by omega
        have hg : V'.getD i (0, []) = (c, o1) := by rw [e5 i (by omega), getSet _ _ _ _ hi']
        rw [laws_heldReportS.L1_eq, decide_eq_true (Int.ofNat_lt.mpr hk'), condT, inRange_nat, decide_eq_true hk', condT, nth_nat, hg, bneI, decide_eq_true rfl, notT, condF, condT]
        dsimp only
        rw [w1, m4, bindV, decide_eq_false (by omega), condF, wrap_succ (by omega)]
        exact e8
    · rw [decide_eq_false (by omega), condF]
      refine ⟨c, A, V, D, rfl, Fr.refl, h5, rfl, rfl, fun _ _ => rfl, Int.le_refl _, by omega, ?_⟩
      rw [laws_heldReportS.L1_eq, decide_eq_false (by omega), condF]
end Go.Kb
