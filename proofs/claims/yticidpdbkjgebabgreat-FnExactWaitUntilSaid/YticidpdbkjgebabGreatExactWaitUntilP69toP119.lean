/- Reports by handles: pairs of a number and a handle; pipes; copying and marking them. -/
import Derived.Test.YticidpdbkjgebabGreatExactWaitUntilP8toP75
import Derived.Test.YticidpdbkjgebabGreatExactWaitUntilP104toP61
import Derived.Test.YticidpdbkjgebabGreatExactWaitUntilP0toF3
import Derived.Test.YticidpdbkjgebabGreatExactWaitUntilF4
import Derived.Test.YticidpdbkjgebabGreatExactWaitUntilP15toP90
import Derived.Test.YticidpdbkjgebabGreatExactWaitUntilP93toF8
import Derived.Test.YticidpdbkjgebabGreatExactWaitUntilF30
import Derived.KernelRfl
namespace Go.Kb
set_option maxRecDepth 100000
section
variable {u : Ty} {e : Nat} {D D' : List HRow} {lo hi : Nat} {hs : List Hnd} {vs : List (List u.den)}
theorem Own.append {mid : Nat} {gs : List Hnd} {ws : List (List u.den)} (h : Own e D lo mid hs vs) (g : Own e D mid hi gs ws) (h1 : lo <= mid) (h2 : mid <= hi) : Own e D lo hi (hs ++ gs) (vs ++ ws) := by
 obtain ⟨a, κ, b, c⟩ := h
 obtain ⟨a', κ', b', c'⟩ := g
 have v1 : ∀ i, i < vs.length -> (vs ++ ws).getD i [] = vs.getD i [] /\ (hs ++ gs).getD i none = hs.getD i none := fun i hv => by
  constructor
  ·simp only [List.getD_eq_getElem?_getD, List.getElem?_append_left hv]
  ·simp only [List.getD_eq_getElem?_getD]; rw [List.getElem?_append_left (by omega)]
 have v2 : ∀ i, ¬ i < vs.length -> (vs ++ ws).getD i [] = ws.getD (i - vs.length) [] /\ (hs ++ gs).getD i none = gs.getD (i - vs.length) none := fun i hv => by
  constructor
  ·simp only [List.getD_eq_getElem?_getD]; rw [List.getElem?_append_right (by omega)]
  ·simp only [List.getD_eq_getElem?_getD]; rw [List.getElem?_append_right (by omega), a]
 refine ⟨by simp [a, a'], fun i => if i < vs.length then κ i else κ' (i - vs.length), fun i hi' => ?_, fun i j hi' hj ni nj he => ?_⟩
 ·rw [lA] at hi'
  by_cases hv : i < vs.length
  ·simp only [hv, if_true]
   rw [(v1 i hv).1, (v1 i hv).2]
   exact (b i hv).imp id fun ⟨x, y, z⟩ => ⟨x, by omega, z⟩
  ·simp only [hv, if_false]
   rw [(v2 i hv).1, (v2 i hv).2]
   exact (b' (i - vs.length) (by omega)).imp id fun ⟨x, y, z⟩ => ⟨by omega, y, z⟩
 ·rw [lA] at hi' hj
  have r1 : ∀ i, i < vs.length -> (hs ++ gs).getD i none ≠ none -> κ i < mid := fun i hv hn => by
   rcases b i hv with ⟨z, _⟩ | ⟨_, y, _⟩
   ·rw [(v1 i hv).2, z] at hn; exact absurd rfl hn
   ·exact y
  have r2 : ∀ i, ¬ i < vs.length -> i < vs.length + ws.length -> (hs ++ gs).getD i none ≠ none -> mid <= κ' (i - vs.length) := fun i hv hw hn => by
   rcases b' (i - vs.length) (by omega) with ⟨z, _⟩ | ⟨y, _⟩
   ·rw [(v2 i hv).2, z] at hn; exact absurd rfl hn
   ·exact y
  by_cases h1 : i < vs.length
  ·by_cases h2 : j < vs.length
   ·simp only [h1, h2, if_true] at he
    rw [(v1 i h1).2] at ni; rw [(v1 j h2).2] at nj
    exact c i j h1 h2 ni nj he
   ·simp only [h1, h2, if_true, if_false] at he
    have := r1 i h1 ni; have := r2 j h2 hj nj; omega
  ·by_cases h2 : j < vs.length
   ·simp only [h1, h2, if_true, if_false] at he
    have := r1 j h2 nj; have := r2 i h1 hi' ni; omega
   ·simp only [h1, h2, if_false] at he
    rw [(v2 i h1).2] at ni; rw [(v2 j h2).2] at nj
    have := c' _ _ (by omega) (by omega) ni nj he
    omega
theorem Own.tail {h : Hnd} {v : List u.den} (o : Own e D lo hi (h :: hs) (v :: vs)) : Own e D lo hi hs vs :=
 o.sub (fun i => i + 1) (by have := o.len; simpa using this) (fun i hi' => ⟨by simp only [List.length_cons]; omega, rfl, rfl⟩) (fun i j _ _ he => by omega)
theorem Own.one {k : Nat} {v : List u.den} (hk : D[k]? = some (.row e u v)) : Own e D k (k + 1) [some (k, 0, v.length)] [v] :=
 ⟨rfl, fun _ => k, fun i hi' => by
  obtain rfl : i = 0 := by simp only [List.length_cons, List.length_nil] at hi'; omega
  exact Or.inr ⟨nR _, Nat.lt_succ_self _, rfl, hk⟩, fun i j hi' hj => by simp only [List.length_cons, List.length_nil] at hi' hj; omega⟩
theorem Own.headGone {h : Hnd} {v : List u.den} (o : Own e D lo hi (h :: hs) (v :: vs)) : Own e (hgone D h) lo hi hs vs /\ Fr lo hi D (hgone D h) := by
 obtain ⟨a, κ, b, c⟩ := o
 have a' : hs.length = vs.length := by simpa using a
 rcases b 0 (by simp) with ⟨z, _⟩ | ⟨x, y, z, t⟩
 ·have z : h = none := z
  subst z
  exact ⟨Own.tail ⟨a, κ, b, c⟩, Fr.refl⟩
 ·have z : h = some (κ 0, 0, v.length) := z
  have hn : ∀ i, i < vs.length -> hs.getD i none ≠ none -> κ (i + 1) ≠ κ 0 := fun i hv hne he => by
   have := c (i + 1) 0 (by simp only [List.length_cons]; omega) (by simp) hne (by show h ≠ none; rw [z]; simp) he
   omega
  rw [z]
  show Own e (D.set (κ 0) .gone) lo hi hs vs /\ _
  refine ⟨⟨a', fun i => κ (i + 1), fun i hv => ?_, fun i j hv hj ni nj he => ?_⟩, by show (D.set _ _).length = _; rw [List.length_set], fun k hk => ?_⟩
  ·by_cases hne : hs.getD i none = none
   ·rcases b (i + 1) (by simp only [List.length_cons]; omega) with ⟨p, q⟩ | ⟨_, _, p, _⟩
    ·exact Or.inl ⟨p, q⟩
    ·have p : hs.getD i none = _ := p
     rw [p] at hne; cases hne
   ·rcases b (i + 1) (by simp only [List.length_cons]; omega) with ⟨p, q⟩ | ⟨p, q, r, s⟩
    ·exact Or.inl ⟨p, q⟩
    ·refine Or.inr ⟨p, q, r, ?_⟩
     rw [List.getElem?_set_ne (fun e => hn i hv hne e.symm)]
     exact s
  ·have := c (i + 1) (j + 1) (by simp only [List.length_cons]; omega) (by simp only [List.length_cons]; omega) ni nj he
   omega
  ·show (D.set _ _)[k]? = _
   rw [List.getElem?_set_ne (by omega)]
theorem Own.headPut {h : Hnd} {v v' : List u.den} {vs' : List (List u.den)} (o : Own e D lo hi (h :: hs) (v :: vs)) (o' : Own e D' lo hi hs vs') (hl : D'.length = D.length) (hv : v'.length = v.length) :
  Own e (hput D' h e u v') lo hi (h :: hs) (v' :: vs') /\ Fr lo hi D' (hput D' h e u v') := by
 obtain ⟨a, κ, b, c⟩ := o
 obtain ⟨a', κ', b', c'⟩ := o'
 have al : hs.length = vs.length := by simpa using a
 rcases b 0 (by simp) with ⟨z, z2⟩ | ⟨x, y, z, t⟩
 ·have z : h = none := z
  have z2 : v = [] := z2
  subst z
  have hv0 : v' = [] := by rw [z2] at hv; exact List.length_eq_zero_iff.mp hv
  subst hv0
  show Own e D' lo hi _ _ /\ Fr lo hi D' D'
  refine ⟨⟨by simp [a'], fun i => κ' (i - 1), fun i hi' => ?_, fun i j hi' hj ni nj he => ?_⟩, Fr.refl⟩
  ·cases i with
   | zero => exact Or.inl ⟨rfl, rfl⟩
   | succ i => exact b' i (by simp only [List.length_cons] at hi'; omega)
  ·cases i with
   | zero => exact absurd rfl ni
   | succ i =>
    cases j with
    | zero => exact absurd rfl nj
    | succ j =>
     have := c' i j (by simp only [List.length_cons] at hi'; omega) (by simp only [List.length_cons] at hj; omega) ni nj he
     omega
 ·have z : h = some (κ 0, 0, v.length) := z
  have hk : κ 0 < D'.length := by rw [hl]; exact hrow_lt t
  have same : ∀ i, i < vs.length -> hs.getD i none ≠ none -> κ' i = κ (i + 1) := fun i hi' hne => by
   rcases b (i + 1) (by simp only [List.length_cons]; omega) with ⟨p, _⟩ | ⟨_, _, p, _⟩
   ·exact absurd p hne
   ·rcases b' i (by omega) with ⟨q, _⟩ | ⟨_, _, q, _⟩
    ·exact absurd q hne
    ·have p : hs.getD i none = _ := p
     rw [q] at p
     injection p with p
     exact congrArg Prod.fst p
  rw [z]
  show Own e (D'.set (κ 0) (.row e u v')) lo hi _ _ /\ Fr lo hi D' (D'.set (κ 0) (.row e u v'))
  refine ⟨⟨by simp [a'], fun i => match i with | 0 => κ 0 | i + 1 => κ' i, fun i hi' => ?_, fun i j hi' hj ni nj he => ?_⟩, by rw [List.length_set], fun k hk => by rw [List.getElem?_set_ne (by omega)]⟩
  ·cases i with
   | zero => exact Or.inr ⟨x, y, by show some (κ 0, 0, v.length) = some (κ 0, 0, v'.length); rw [hv], List.getElem?_set_self hk⟩
   | succ i =>
    have hi2 : i < vs'.length := by simp only [List.length_cons] at hi'; omega
    rcases b' i hi2 with ⟨p, q⟩ | ⟨p, q, r, s⟩
    ·exact Or.inl ⟨p, q⟩
    ·refine Or.inr ⟨p, q, r, ?_⟩
     have hne : hs.getD i none ≠ none := by rw [r]; simp
     have hne2 : κ' i ≠ κ 0 := fun e2 => by
      rw [same i (by omega) hne] at e2
      have := c (i + 1) 0 (by simp only [List.length_cons]; omega) (by simp) hne (by show h ≠ none; rw [z]; simp) e2
      omega
     show (D'.set (κ 0) _)[κ' i]? = _
     rw [List.getElem?_set_ne (fun e => hne2 e.symm)]
     exact s
  ·have far : ∀ i, i < vs'.length -> hs.getD i none ≠ none -> κ' i ≠ κ 0 := fun i hi2 hne e2 => by
    rw [same i (by omega) hne] at e2
    have := c (i + 1) 0 (by simp only [List.length_cons]; omega) (by simp) hne (by show h ≠ none; rw [z]; simp) e2
    omega
   cases i with
   | zero =>
    cases j with
    | zero => rfl
    | succ j => exact absurd he.symm (far j (by simp only [List.length_cons] at hj; omega) nj)
   | succ i =>
    cases j with
    | zero => exact absurd he (far i (by simp only [List.length_cons] at hi'; omega) ni)
    | succ j =>
     have := c' i j (by simp only [List.length_cons] at hi'; omega) (by simp only [List.length_cons] at hj; omega) ni nj he
     omega
end
end Go.Kb
namespace Go.Kb
set_option maxRecDepth 100000
abbrev tA : Ty := .pair (.int .i64) (.pair (.int .i64) (.pair (.int .i64) (.int .i64)))
abbrev tS : Ty := .pair (.int .i64) (.pair (.int .i64) (.int .i64))
theorem Own.call {u : Ty} {e : Nat} {D E : List HRow} {hs : List Hnd} {vs : List (List u.den)} (h : Own e E D.length E.length hs vs) (p : hhide D <+: E) : D <+: yw D E /\ Own e (yw D E) D.length (yw D E).length hs vs := by
 have o' := h.shown p (nR _)
 exact ⟨(hide_more p).1, by rw [(hide_more p).2.1]; exact o'⟩
theorem Own.unA {D : List HRow} {lo hi : Nat} {hs : List Hnd} {vs : List (List Act)} (h : Own (u := tA) 8 D lo hi hs vs) : (List.map (Ty.unden D (.hnd (.pair (.int .i64) (.pair (.int .i64) (.pair (.int .i64) (.int .i64)))))) hs : List (List (Int × Int × Int × Int))) = vs := h.unden
theorem Own.unS {D : List HRow} {lo hi : Nat} {hs : List Hnd} {vs : List (List MSt)} (h : Own (u := tS) 10 D lo hi hs vs) : (List.map (Ty.unden D (.hnd (.pair (.int .i64) (.pair (.int .i64) (.int .i64))))) hs : List (List (Int × Int × Int))) = vs := h.unden
structure EOut (D D' : List HRow) (hs gs : List Hnd) (m : List (List Act)) (s : List (List MSt)) : Prop where
 pre : D <+: D'
 own : ∃ mid, D.length <= mid /\ mid <= D'.length /\ Own (u := tA) 8 D' D.length mid hs m /\ Own (u := tS) 10 D' mid D'.length gs s
theorem EOut.call {D E : List HRow} {hs gs : List Hnd} {m : List (List Act)} {s : List (List MSt)} (h : EOut (hhide D) E hs gs m s) : EOut D (yw D E) hs gs m s := by
 obtain ⟨p, mid, h1, h2, h3, h4⟩ := h
 rw [hide_len] at h1 h3
 obtain ⟨q1, q2, q3⟩ := hide_more p
 refine ⟨q1, mid, h1, by rw [q2]; exact h2, ?_, ?_⟩
 ·exact h3.shown p (nR _)
 ·rw [q2]; exact h4.shown p h1
theorem OkM.set0 {keys : Int} {ls : List (List Act)} (h : OkM (keys, ls)) {k : Nat} (hk : k < (ls.getD 0 []).length) {a : Act} (ha : okC2 ls.length a) : OkM (keys, ls.set 0 ((ls.getD 0 []).set k a)) := by
 obtain ⟨h1, h2, h3⟩ := h
 dsimp only at h1 h2 h3
 cases ls with
 | nil => simp at h2
 | cons x s =>
  refine ⟨h1, by dsimp only; simpa using h2, ?_⟩
  have e0 : (x :: s).getD 0 [] = x := rfl
  rw [e0] at hk ⊢
  simp only [List.set_cons_zero]
  simp only [laysB, layB, bA] at h3 ⊢
  have el : (List.set x k a :: s).length = (x :: s).length := rfl
  rw [el]
  refine ⟨⟨?_, ?_⟩, h3.2⟩
  ·rw [List.length_set]; exact h3.1.1
  ·rw [List.all_eq_true] at h3 ⊢
   intro y hy
   rcases List.mem_or_eq_of_mem_set hy with hy | hy
   ·exact h3.1.2 y hy
   ·rw [hy]; exact cell_of ha true
structure DrawnD (d : Dcd) : Prop where
 ok : OkD d
 now : d.2.2.2.1 <= 70
 q : d.2.2.1.length <= 6
 term : d.2.1.1 <= 9
 rest : stepD d = none
end Go.Kb
namespace Go.Kb
set_option maxRecDepth 100000
theorem okK_len : ∀ (l : List Int) (p : Int), 0 <= p /\ p <= 56 -> okK p l = true -> (l.length : Int) <= 56 - p := by
 intro l
 induction l with
 | nil => intro p hp _; show (0 : Int) <= _; omega
 | cons x r ih =>
  intro p hp h
  rw [okK_cons, bA, bA, decide_eq_true_iff, decide_eq_true_iff] at h
  have := ih x (by omega) h.2.2
  rw [List.length_cons]
  omega
theorem rpB_small {r : Rpt} (h : rpB r = true) : r.2.length <= 56 := by
 unfold rpB at h
 rw [bA] at h
 have := okK_len r.2 0 (by omega) h.2
 omega
theorem runQ_sent_len : ∀ (k : Nat) (d : Dcd), d.2.2.1.length <= k -> OkD d -> (runQ d).2.length <= 17 * d.2.2.1.length := by
 intro k
 induction k with
 | zero =>
  intro d h _
  rw [zCC (stepD_nil (d := d) (List.length_eq_zero_iff.1 (by omega)))]; exact Nat.zero_le _
 | succ k ih =>
  intro d h hd
  cases hs : stepD d with
  | none => rw [zCC hs]; exact Nat.zero_le _
  | some p =>
   obtain ⟨o, d'⟩ := p
   obtain ⟨g1, _, _, _, _, ⟨f, hf⟩, _⟩ := stepD_ok hd hs
   have hl : d.2.2.1.length = d'.2.2.1.length + 1 := by rw [hf]; rfl
   have ho := step_len hd hs
   have := ih d' (by omega) g1
   rw [runQ_some hs]
   dsimp only
   rw [lA, sentB_len]
   omega
end Go.Kb
namespace Go.Kb
end Go.Kb
namespace Go.Kb
set_option maxRecDepth 100000
theorem OkP.cut {d : Dcd} {l1 l2 : List Ev} {en : Int} (h : OkP d (l1 ++ l2) en) {n : Int} (h1 : d.2.2.2.1 <= n) (h2 : lT 0 l1 <= n) (h4 : n <= en) : OkP d l1 n := by
 have hf := h.f
 rw [<- List.append_assoc, fol_append] at hf
 have hlen := h.len
 rw [<- List.append_assoc, lA] at hlen
 have hen := h.en_
 refine ⟨h.dk, ⟨h1, by omega⟩, ?_, h2, by omega, hf.1⟩
 have := h.hd
 cases l1 with
 | nil => rfl
 | cons x r => exact this
theorem OkP.order {d : Dcd} {l1 l2 : List Ev} {en : Int} (h : OkP d (l1 ++ l2) en) : (∀ e ∈ l1 ++ l2, d.2.2.2.1 <= e.1 /\ e.1 <= en) /\ (l1 ≠ [] -> d.2.2.2.1 <= lT 0 l1 /\ lT 0 l1 <= en /\ ∀ e ∈ l2, lT 0 l1 <= e.1) := by
 have hlat := h.later
 have hf := h.f
 rw [fol_append] at hf
 have hf2 := hf.2
 have hft := fol_time _ _ _ _ hf2
 have htm := h.tm
 have hall : ∀ e ∈ l1 ++ l2, d.2.2.2.1 <= e.1 /\ e.1 <= en := by
  intro e he
  refine ⟨(hlat e he).1, ?_⟩
  have h1 := (hft e he).2.1
  have hne : l1 ++ l2 ≠ [] := fun hn => by rw [hn] at he; cases he
  rw [lT_app_ne hne _ 0] at h1
  omega
 refine ⟨hall, fun hne => ?_⟩
 rw [fol_append] at hf2
 have e1 : lT (lT 0 d.2.2.1) l1 = lT 0 l1 := lT_app_ne hne _ _
 rw [e1] at hf2
 have hlast : ∃ e ∈ l1, e.1 = lT 0 l1 := by
  have hp : 0 < l1.length := List.length_pos_iff.2 hne
  exact ⟨_, zBT dE l1 (l1.length - 1) (by omega), lT_last l1 0 hp⟩
 obtain ⟨e, he, ee⟩ := hlast
 have h3 := hall e (List.mem_append_left _ he)
 exact ⟨by omega, by omega, fun x hx => (fol_time _ _ _ _ hf2.2 x hx).1⟩
def upTo (d : Dcd) (l : List Ev) (n : Int) : Dcd × List Snt := runQ (ext l n d)
structure UpTo (d : Dcd) (l : List Ev) (n : Int) : Prop where
 ok : OkD (upTo d l n).1
 now : (upTo d l n).1.2.2.2.1 = n
 sm : smallD (upTo d l n).1
 len : (upTo d l n).2.length <= 1088
 rep : ∀ s ∈ (upTo d l n).2, s.2.2.length <= 56
theorem OkP.upTo {d : Dcd} {l : List Ev} {n : Int} (h : OkP d l n) : UpTo d l n := by
 have hx := h.ext
 have hq := hx.len
 obtain ⟨r1, r2, r3, r4, r5, r6, r7⟩ := run_sent _ (Kb.ext l n d) (nR _) hx
 have hsl := runQ_sent_len _ (Kb.ext l n d) (nR _) hx
 exact ⟨r1, r5, ⟨r1.eng.small, by have := r1.len; unfold Kb.upTo; omega⟩, by unfold Kb.upTo; omega, fun s hs => rpB_small (r3 s hs).2.2⟩
end Go.Kb
namespace Go.Kb
set_option maxRecDepth 100000
abbrev RH := Int × Hnd
def OwnR (D : List HRow) (lo hi : Nat) (A : List RH) (V : List Rpt) : Prop :=
 A.map Prod.fst = V.map Prod.fst /\ Own (u := .int .i64) 2 D lo hi (A.map Prod.snd) (V.map Prod.snd)
section
variable {D D' : List HRow} {lo hi : Nat} {A : List RH} {V : List Rpt}
theorem OwnR.len (h : OwnR D lo hi A V) : A.length = V.length := by have := h.2.len; simpa using this
theorem map_getD {α β : Type} (f : α -> β) (d : α) (l : List α) (i : Nat) : (l.map f).getD i (f d) = f (l.getD i d) := by
 simp only [List.getD_eq_getElem?_getD, List.getElem?_map]
 cases l[i]? <;> rfl
theorem OwnR.fst (h : OwnR D lo hi A V) (i : Nat) : (A.getD i (0, none)).1 = (V.getD i (0, [])).1 := by
 have e1 : (A.map Prod.fst).getD i 0 = (A.getD i (0, none)).1 := map_getD Prod.fst ((0, none) : RH) A i
 have e2 : (V.map Prod.fst).getD i 0 = (V.getD i (0, [])).1 := map_getD Prod.fst ((0, []) : Rpt) V i
 rw [<- e1, <- e2, h.1]
theorem snd_getD (A : List RH) (i : Nat) : (A.map Prod.snd).getD i none = (A.getD i (0, none)).2 := map_getD Prod.snd ((0, none) : RH) A i
theorem snd_getD' (V : List Rpt) (i : Nat) : (V.map Prod.snd).getD i [] = (V.getD i (0, [])).2 := map_getD Prod.snd ((0, []) : Rpt) V i
theorem OwnR.cut (h : OwnR D lo hi A V) {i : Nat} (hi' : i < V.length) : hcut D (.int .i64) (A.getD i (0, none)).2 = (V.getD i (0, [])).2 := by
 have := h.2.cut (i := i) (by rw [List.length_map]; exact hi')
 rw [snd_getD, snd_getD'] at this
 exact this
theorem OwnR.ok (h : OwnR D lo hi A V) {i : Nat} (hi' : i < V.length) : hok D (.int .i64) (A.getD i (0, none)).2 = true := by
 have := h.2.okAt (i := i) (by rw [List.length_map]; exact hi')
 rw [snd_getD] at this
 exact this
theorem OwnR.full (h : OwnR D lo hi A V) {i : Nat} (hi' : i < V.length) : hfull D 2 (.int .i64) (A.getD i (0, none)).2 = true := by
 have := h.2.full (i := i) (by rw [List.length_map]; exact hi')
 rw [snd_getD] at this
 exact this
theorem OwnR.unok (h : OwnR D lo hi A V) : List.all A (Ty.unok D (.pair (.int .i64) (.hnd (.int .i64)))) = true := by
 rw [List.all_eq_true]
 intro x hx
 obtain ⟨i, hi', rfl⟩ := getD_of_mem (d := ((0, none) : RH)) hx
 have := h.ok (i := i) (by rw [<- h.len]; exact hi')
 show (true && hok D _ _) = true
 rw [this]; rfl
theorem mapAt (f : RH -> Rpt) (A : List RH) (V : List Rpt) (hl : A.length = V.length) (h : ∀ i, i < V.length -> f (A.getD i (0, none)) = V.getD i (0, [])) : List.map f A = V := by
 refine List.ext_getElem (by rw [List.length_map]; exact hl) fun i h1 h2 => ?_
 have h3 : i < A.length := by omega
 have := h i h2
 rw [List.getD_eq_getElem?_getD, List.getD_eq_getElem?_getD, List.getElem?_eq_getElem (l := V) h2, List.getElem?_eq_getElem (l := A) h3] at this
 rw [List.getElem_map]
 exact this
theorem OwnR.un (h : OwnR D lo hi A V) : (List.map (Ty.unden D (.pair (.int .i64) (.hnd (.int .i64)))) A : List (Int × List Int)) = V :=
 mapAt (Ty.unden D (.pair (.int .i64) (.hnd (.int .i64)))) A V h.len fun i hi' => Prod.ext (h.fst i) (h.cut hi')
theorem OwnR.more (h : OwnR D lo hi A V) (hD : D <+: D') : OwnR D' lo hi A V := ⟨h.1, h.2.more hD⟩
theorem OwnR.mono (h : OwnR D lo hi A V) {lo' hi' : Nat} (h1 : lo' <= lo) (h2 : hi <= hi') : OwnR D lo' hi' A V := ⟨h.1, h.2.mono h1 h2⟩
theorem OwnR.apart (h : OwnR D lo hi A V) {a b : Nat} (hf : Fr a b D D') (hab : hi <= a \/ b <= lo) : OwnR D' lo hi A V := ⟨h.1, h.2.apart hf hab⟩
theorem OwnR.shown {E : List HRow} (h : OwnR E lo hi A V) (hD : hhide D <+: E) (hlo : D.length <= lo) : OwnR (yw D E) lo hi A V := ⟨h.1, h.2.shown hD hlo⟩
theorem ownR_nil : OwnR D lo hi [] [] := ⟨rfl, own_nil⟩
theorem OwnR.push (h : OwnR D lo D.length A V) (hlo : lo <= D.length) (m : Int) (v : List Int) : OwnR (D ++ [HRow.row 2 (.int .i64) v]) lo (D.length + 1) (A ++ [(m, some (D.length, 0, v.length))]) (V ++ [(m, v)]) := by
 refine ⟨by simp [h.1], ?_⟩
 rw [List.map_append, List.map_append]
 exact h.2.push hlo v
theorem OwnR.append {mid : Nat} {B : List RH} {W : List Rpt} (h : OwnR D lo mid A V) (g : OwnR D mid hi B W) (h1 : lo <= mid) (h2 : mid <= hi) : OwnR D lo hi (A ++ B) (V ++ W) := by
 refine ⟨by simp [h.1, g.1], ?_⟩
 rw [List.map_append, List.map_append]
 exact h.2.append g.2 h1 h2
theorem OwnR.one {k : Nat} {m : Int} {v : List Int} (hk : D[k]? = some (.row 2 (.int .i64) v)) : OwnR D k (k + 1) [(m, some (k, 0, v.length))] [(m, v)] := ⟨rfl, Own.one hk⟩
theorem OwnR.sub (h : OwnR D lo hi A V) {A' : List RH} {V' : List Rpt} (φ : Nat -> Nat) (hl : A'.length = V'.length)
  (hφ : ∀ i, i < V'.length -> φ i < V.length /\ A'.getD i (0, none) = A.getD (φ i) (0, none) /\ V'.getD i (0, []) = V.getD (φ i) (0, [])) (inj : ∀ i j, i < V'.length -> j < V'.length -> φ i = φ j -> i = j) : OwnR D lo hi A' V' := by
 refine ⟨?_, h.2.sub φ (by simpa using hl) (fun i hi' => ?_) (fun i j h1 h2 => inj i j (by simpa using h1) (by simpa using h2))⟩
 ·refine List.ext_getElem (by simpa using hl) fun i h1 h2 => ?_
  have h3 : i < A'.length := by simpa using h1
  have h4 : i < V'.length := by omega
  obtain ⟨p, q, r⟩ := hφ i h4
  have := h.fst (φ i)
  rw [<- q, <- r] at this
  rw [List.getD_eq_getElem?_getD, List.getD_eq_getElem?_getD, List.getElem?_eq_getElem (l := V') h4, List.getElem?_eq_getElem (l := A') h3] at this
  rw [List.getElem_map, List.getElem_map]
  exact this
 ·rw [List.length_map] at hi'
  obtain ⟨p, q, r⟩ := hφ i hi'
  rw [snd_getD, snd_getD, snd_getD', snd_getD', q, r, List.length_map]
  exact ⟨p, rfl, rfl⟩
theorem OwnR.tail {a : RH} {v : Rpt} (o : OwnR D lo hi (a :: A) (v :: V)) : OwnR D lo hi A V := by
 obtain ⟨o1, o2⟩ := o
 rw [List.map_cons, List.map_cons] at o1 o2
 exact ⟨(List.cons.inj o1).2, o2.tail⟩
theorem OwnR.hd1 {a : RH} {v : Rpt} (o : OwnR D lo hi (a :: A) (v :: V)) : a.1 = v.1 := o.fst 0
theorem OwnR.hdok {a : RH} {v : Rpt} (o : OwnR D lo hi (a :: A) (v :: V)) : hok D (.int .i64) a.2 = true := o.ok (i := 0) (by simp)
theorem OwnR.hdcut {a : RH} {v : Rpt} (o : OwnR D lo hi (a :: A) (v :: V)) : hcut D (.int .i64) a.2 = v.2 := o.cut (i := 0) (by simp)
theorem OwnR.hdfull {a : RH} {v : Rpt} (o : OwnR D lo hi (a :: A) (v :: V)) : hfull D 2 (.int .i64) a.2 = true := o.full (i := 0) (by simp)
end
theorem getSet {α : Type} (l : List α) (i : Nat) (x d : α) (h : i < l.length) : (l.set i x).getD i d = x := by
 simp [List.getD_eq_getElem?_getD, h]
theorem getSet_ne {α : Type} (l : List α) (i j : Nat) (x d : α) (h : i ≠ j) : (l.set i x).getD j d = l.getD j d := by
 simp only [List.getD_eq_getElem?_getD, List.getElem?_set_ne h]
theorem takeOne {α : Type} (d : α) (l : List α) (i : Nat) (h : i < l.length) : l.take (i + 1) = l.take i ++ [l.getD i d] := by
 rw [List.take_add_one, List.getElem?_eq_getElem h, List.getD_eq_getElem?_getD, List.getElem?_eq_getElem h]; rfl
end Go.Kb
