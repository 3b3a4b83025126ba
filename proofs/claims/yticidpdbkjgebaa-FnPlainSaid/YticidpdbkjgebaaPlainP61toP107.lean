/- Lists of handles over a heap of rows: which rows they own; what writing one row, adding rows and other people's rows leave as it was. -/
import Derived.Test.YticidpdbkjgebaaPlainP0toP75
import Derived.Test.YticidpdbkjgebaaPlainP105
namespace Go.Kb
set_option maxRecDepth 100000
theorem tyBeq_refl : ∀ t : Ty, Ty.beq t t = true := by
 intro t
 induction t with
 | int k => cases k <;> rfl
 | pair a b ha hb => simp only [Ty.beq, ha, hb, Bool.and_self]
 | list t h => exact h
 | hnd t h => exact h
 | bool => rfl
 | str => rfl
 | unit => rfl
theorem hrowAt_row {D : List HRow} {e k : Nat} {u : Ty} {xs : List u.den} (h : D[k]? = some (.row e u xs)) : hrowAt D u k = xs := by
 unfold hrowAt
 rw [h]
 simp only
 split
 ·rfl
 ·next hb => exact absurd hb (by rw [tyBeq_refl]; simp)
theorem hisAt_row {D : List HRow} {e k : Nat} {u : Ty} {xs : List u.den} (h : D[k]? = some (.row e u xs)) : hisAt D u k = true := by
 unfold hisAt
 rw [h]
 exact tyBeq_refl u
theorem hcut_row {D : List HRow} {e k : Nat} {u : Ty} {xs : List u.den} (h : D[k]? = some (.row e u xs)) : hcut D u (some (k, 0, xs.length)) = xs := by
 show ((hrowAt D u k).drop 0).take xs.length = xs
 rw [hrowAt_row h]
 simp
theorem hok_row {D : List HRow} {e k : Nat} {u : Ty} {xs : List u.den} (h : D[k]? = some (.row e u xs)) : hok D u (some (k, 0, xs.length)) = true := by
 show (hisAt D u k && Nat.ble (0 + xs.length) (hrowAt D u k).length) = true
 rw [hisAt_row h, hrowAt_row h]
 simp
theorem hfull_row {D : List HRow} {e k : Nat} {u : Ty} {xs : List u.den} (h : D[k]? = some (.row e u xs)) : hfull D e u (some (k, 0, xs.length)) = true := by
 show (hisAt D u k && (hcodeAt D e k && (Nat.beq 0 0 && Nat.beq xs.length (hrowAt D u k).length))) = true
 rw [hisAt_row h, hrowAt_row h]
 unfold hcodeAt
 rw [h]
 simp
theorem hput_eq {D : List HRow} {k a b a' b' e : Nat} {u : Ty} {xs : List u.den} : hput (hgone D (some (k, a, b))) (some (k, a', b')) e u xs = D.set k (.row e u xs) := by
 show (D.set k HRow.gone).set k _ = _
 rw [List.set_set]
def Own {u : Ty} (e : Nat) (D : List HRow) (lo hi : Nat) (hs : List Hnd) (vs : List (List u.den)) : Prop :=
 hs.length = vs.length /\ ∃ κ : Nat -> Nat, (∀ i, i < vs.length -> (hs.getD i none = none /\ vs.getD i [] = []) \/ (lo <= κ i /\ κ i < hi /\ hs.getD i none = some (κ i, 0, (vs.getD i []).length) /\ D[κ i]? = some (.row e u (vs.getD i [])))) /\
  ∀ i j, i < vs.length -> j < vs.length -> hs.getD i none ≠ none -> hs.getD j none ≠ none -> κ i = κ j -> i = j
section
variable {u : Ty} {e : Nat} {D D' : List HRow} {lo hi : Nat} {hs : List Hnd} {vs : List (List u.den)}
theorem own_nil : Own (u := u) e D lo hi [] [] := ⟨rfl, fun _ => 0, fun i h => absurd h (Nat.not_lt_zero i), fun i _ h => absurd h (Nat.not_lt_zero i)⟩
theorem Own.len (h : Own e D lo hi hs vs) : hs.length = vs.length := h.1
theorem Own.cut (h : Own e D lo hi hs vs) {i : Nat} (hi' : i < vs.length) : hcut D u (hs.getD i none) = vs.getD i [] := by
 obtain ⟨_, κ, h2, _⟩ := h
 rcases h2 i hi' with ⟨e1, e2⟩ | ⟨_, _, e1, e2⟩
 ·rw [e1, e2]; rfl
 ·rw [e1, hcut_row e2]
theorem Own.full (h : Own e D lo hi hs vs) {i : Nat} (hi' : i < vs.length) : hfull D e u (hs.getD i none) = true := by
 obtain ⟨_, κ, h2, _⟩ := h
 rcases h2 i hi' with ⟨e1, e2⟩ | ⟨_, _, e1, e2⟩
 ·rw [e1]; rfl
 ·rw [e1, hfull_row e2]
theorem Own.okAt (h : Own e D lo hi hs vs) {i : Nat} (hi' : i < vs.length) : hok D u (hs.getD i none) = true := by
 obtain ⟨_, κ, h2, _⟩ := h
 rcases h2 i hi' with ⟨e1, e2⟩ | ⟨_, _, e1, e2⟩
 ·rw [e1]; rfl
 ·rw [e1, hok_row e2]
theorem getD_of_mem {α : Type} {d x : α} {l : List α} (h : x ∈ l) : ∃ i, i < l.length /\ l.getD i d = x := by
 obtain ⟨i, hi, e⟩ := List.getElem_of_mem h
 exact ⟨i, hi, by rw [List.getD_eq_getElem?_getD, List.getElem?_eq_getElem hi]; exact e⟩
theorem Own.unok (h : Own e D lo hi hs vs) : List.all hs (Ty.unok D (.hnd u)) = true := by
 rw [List.all_eq_true]
 intro x hx
 obtain ⟨i, hi', rfl⟩ := getD_of_mem (d := none) hx
 exact h.okAt (by rw [<- h.1]; exact hi')
theorem Own.unden (h : Own e D lo hi hs vs) : List.map (Ty.unden D (.hnd u)) hs = vs := by
 refine List.ext_getElem (by rw [List.length_map]; exact h.1) fun i h1 h2 => ?_
 have := h.cut h2
 have h3 : i < hs.length := by rw [h.1]; exact h2
 rw [List.getD_eq_getElem?_getD, List.getD_eq_getElem?_getD, List.getElem?_eq_getElem (l := vs) h2, List.getElem?_eq_getElem (l := hs) h3] at this
 rw [List.getElem_map]
 exact this
theorem Own.mono (h : Own e D lo hi hs vs) {lo' hi' : Nat} (h1 : lo' <= lo) (h2 : hi <= hi') : Own e D lo' hi' hs vs := by
 obtain ⟨a, κ, b, c⟩ := h
 exact ⟨a, κ, fun i hi => (b i hi).imp id fun ⟨x, y, z⟩ => ⟨by omega, by omega, z⟩, c⟩
theorem Own.same (h : Own e D lo hi hs vs) (hD : ∀ k, lo <= k -> k < hi -> D'[k]? = D[k]?) : Own e D' lo hi hs vs := by
 obtain ⟨a, κ, b, c⟩ := h
 exact ⟨a, κ, fun i hi => (b i hi).imp id fun ⟨x, y, z, t⟩ => ⟨x, y, z, by rw [hD _ x y]; exact t⟩, c⟩
theorem hrow_lt {k e : Nat} {xs : List u.den} (t : D[k]? = some (.row e u xs)) : k < D.length := by
 rcases Nat.lt_or_ge k D.length with g | g
 ·exact g
 ·rw [List.getElem?_eq_none g] at t; cases t
theorem Own.more (h : Own e D lo hi hs vs) (hD : D <+: D') : Own e D' lo hi hs vs := by
 obtain ⟨a, κ, b, c⟩ := h
 obtain ⟨E, rfl⟩ := hD
 refine ⟨a, κ, fun i hi => (b i hi).imp id fun ⟨x, y, z, t⟩ => ⟨x, y, z, ?_⟩, c⟩
 rw [List.getElem?_append_left (hrow_lt t)]; exact t
theorem Own.push (h : Own e D lo D.length hs vs) (hlo : lo <= D.length) (v : List u.den) : Own e (D ++ [HRow.row e u v]) lo (D.length + 1) (hs ++ [some (D.length, 0, v.length)]) (vs ++ [v]) := by
 have h' := h.more (D' := D ++ [HRow.row e u v]) ⟨_, rfl⟩
 obtain ⟨a, κ, b, c⟩ := h'
 have l1 : ∀ i, i < vs.length -> (vs ++ [v]).getD i [] = vs.getD i [] := fun i hv => by simp only [List.getD_eq_getElem?_getD, List.getElem?_append_left hv]
 have l2 : ∀ i, i < vs.length -> (hs ++ [some (D.length, 0, v.length)]).getD i none = hs.getD i none := fun i hv => by simp only [List.getD_eq_getElem?_getD]; rw [List.getElem?_append_left (by omega)]
 refine ⟨by simp [a], fun i => if i < vs.length then κ i else D.length, fun i hi => ?_, fun i j hi hj ni nj he => ?_⟩
 ·by_cases hv : i < vs.length
  ·simp only [hv, if_true]
   rw [l1 i hv, l2 i hv]
   exact (b i hv).imp id fun ⟨x, y, z, t⟩ => ⟨x, by omega, z, t⟩
  ·have hv' : i = vs.length := by simp only [lA, List.length_cons, List.length_nil] at hi; omega
   simp only [hv, if_false]
   have e1 : (vs ++ [v]).getD i [] = v := by simp [List.getD_eq_getElem?_getD, hv']
   have e2 : (hs ++ [some (D.length, 0, v.length)]).getD i none = some (D.length, 0, v.length) := by simp [List.getD_eq_getElem?_getD, hv', <- a]
   rw [e1, e2]
   exact Or.inr ⟨hlo, by omega, rfl, by simp⟩
 ·simp only [lA, List.length_cons, List.length_nil] at hi hj
  have far : ∀ i, i < vs.length -> (hs ++ [some (D.length, 0, v.length)]).getD i none ≠ none -> κ i < D.length := fun i hv hn => by
   rcases b i hv with ⟨z, _⟩ | ⟨_, y, _⟩
   ·rw [l2 i hv, z] at hn; exact absurd rfl hn
   ·exact y
  by_cases h1 : i < vs.length
  ·by_cases h2 : j < vs.length
   ·simp only [h1, h2, if_true] at he
    rw [l2 i h1] at ni; rw [l2 j h2] at nj
    exact c i j h1 h2 ni nj he
   ·simp only [h1, h2, if_true, if_false] at he; have := far i h1 ni; omega
  ·by_cases h2 : j < vs.length
   ·simp only [h1, h2, if_true, if_false] at he; have := far j h2 nj; omega
   ·omega
theorem Own.sub (h : Own e D lo hi hs vs) {hs' : List Hnd} {vs' : List (List u.den)} (φ : Nat -> Nat) (hl : hs'.length = vs'.length)
  (hφ : ∀ i, i < vs'.length -> φ i < vs.length /\ hs'.getD i none = hs.getD (φ i) none /\ vs'.getD i [] = vs.getD (φ i) []) (inj : ∀ i j, i < vs'.length -> j < vs'.length -> φ i = φ j -> i = j) : Own e D lo hi hs' vs' := by
 obtain ⟨a, κ, b, c⟩ := h
 refine ⟨hl, fun i => κ (φ i), fun i hi => ?_, fun i j hi hj ni nj he => ?_⟩
 ·obtain ⟨p, q, r⟩ := hφ i hi
  rw [q, r]
  exact b (φ i) p
 ·obtain ⟨p, q, _⟩ := hφ i hi
  obtain ⟨p', q', _⟩ := hφ j hj
  rw [q] at ni; rw [q'] at nj
  exact inj i j hi hj (c _ _ p p' ni nj he)
def Fr (lo hi : Nat) (D D' : List HRow) : Prop := D'.length = D.length /\ ∀ k, ¬ (lo <= k /\ k < hi) -> D'[k]? = D[k]?
theorem Fr.refl : Fr lo hi D D := ⟨rfl, fun _ _ => rfl⟩
theorem Fr.trans {D'' : List HRow} (h : Fr lo hi D D') (g : Fr lo hi D' D'') : Fr lo hi D D'' := ⟨g.1.trans h.1, fun k hk => (g.2 k hk).trans (h.2 k hk)⟩
theorem Own.apart (h : Own e D lo hi hs vs) {a b : Nat} (hf : Fr a b D D') (hab : hi <= a \/ b <= lo) : Own e D' lo hi hs vs := h.same fun k h1 h2 => hf.2 k (by omega)
theorem Own.put (h : Own e D lo hi hs vs) {i : Nat} (hi' : i < vs.length) {v : List u.den} (hv : v.length = (vs.getD i []).length) :
  Own e (hput (hgone D (hs.getD i none)) (hs.getD i none) e u v) lo hi hs (vs.set i v) /\ Fr lo hi D (hput (hgone D (hs.getD i none)) (hs.getD i none) e u v) := by
 obtain ⟨a, κ, b, c⟩ := h
 rcases b i hi' with ⟨z, z2⟩ | ⟨x, y, z, t⟩
 ·rw [z]
  have hv0 : v = [] := by rw [z2] at hv; exact List.length_eq_zero_iff.mp hv
  have : vs.set i v = vs := by
   refine List.ext_getElem (by simp) fun j h1 h2 => ?_
   rw [List.getElem_set]
   split
   ·next e => subst e; rw [hv0, <- z2, List.getD_eq_getElem?_getD, List.getElem?_eq_getElem h2]; rfl
   ·rfl
  rw [this]
  exact ⟨⟨a, κ, b, c⟩, Fr.refl⟩
 have hl : κ i < D.length := hrow_lt t
 have hn : hs.getD i none ≠ none := by rw [z]; simp
 rw [z, hput_eq]
 refine ⟨⟨by rw [List.length_set]; exact a, κ, fun j hj => ?_, fun j l hj hl => c j l (by simpa using hj) (by simpa using hl)⟩, by rw [List.length_set], fun k hk => ?_⟩
 ·rw [List.length_set] at hj
  by_cases hij : i = j
  ·subst hij
   have e1 : (vs.set i v).getD i [] = v := by simp [List.getD_eq_getElem?_getD, hj]
   rw [e1]
   exact Or.inr ⟨x, y, by rw [z, hv], List.getElem?_set_self hl⟩
  ·have e1 : (vs.set i v).getD j [] = vs.getD j [] := by simp only [List.getD_eq_getElem?_getD, List.getElem?_set_ne hij]
   rw [e1]
   by_cases hj0 : hs.getD j none = none
   ·rcases b j hj with ⟨q1, q2⟩ | ⟨_, _, q, _⟩
    ·exact Or.inl ⟨q1, q2⟩
    ·rw [q] at hj0; cases hj0
   ·rcases b j hj with ⟨q1, q2⟩ | ⟨x', y', z', t'⟩
    ·exact Or.inl ⟨q1, q2⟩
    ·exact Or.inr ⟨x', y', z', by rw [List.getElem?_set_ne (fun e => hij (c i j hi' hj hn hj0 e)), t']⟩
 ·rw [List.getElem?_set_ne (by omega)]
end
theorem hide_more {D E : List HRow} (h : hhide D <+: E) : D <+: zBf D E /\ (zBf D E).length = E.length /\ ∀ k, D.length <= k -> (zBf D E)[k]? = E[k]? := by
 obtain ⟨T, rfl⟩ := h
 have hl : (hhide D).length = D.length := by unfold hhide; rw [List.length_replicate]
 have : zBf D (hhide D ++ T) = D ++ T := by
  unfold zBf
  rw [<- hl, List.drop_left]
 rw [this]
 refine ⟨⟨T, rfl⟩, by rw [lA, lA, hl], fun k hk => ?_⟩
 rw [List.getElem?_append_right hk, List.getElem?_append_right (by omega), hl]
theorem hide_len (D : List HRow) : (hhide D).length = D.length := by unfold hhide; rw [List.length_replicate]
theorem Own.shown {u : Ty} {e : Nat} {D E : List HRow} {lo hi : Nat} {hs : List Hnd} {vs : List (List u.den)} (h : Own e E lo hi hs vs) (hD : hhide D <+: E) (hlo : D.length <= lo) : Own e (zBf D E) lo hi hs vs :=
 h.same fun k h1 _ => (hide_more hD).2.2 k (by omega)
end Go.Kb
namespace Go.Kb
set_option maxRecDepth 100000
section
variable {u : Ty} {e : Nat} {D D' : List HRow} {lo hi : Nat} {hs : List Hnd} {vs : List (List u.den)}
theorem Own.append {mid : Nat} {gs : List Hnd} {ws : List (List u.den)} (h : Own e D lo mid hs vs) (g : Own e D mid hi gs ws) (h1 : lo <= mid) (h2 : mid <= hi) : Own e D lo hi (hs ++ gs) (vs ++ ws) := by
 obtain ⟨a, κ, b, c⟩ := h
 obtain ⟨a', κ', b', c'⟩ := g
 have v1 : ∀ i, i < vs.length -> (vs ++ ws).getD i [] = vs.getD i [] /\ (hs ++ gs).getD i none = hs.getD i none := fun i hv => by
  constructor
  ·simp only [List.getD_eq_getElem?_getD, List.getElem?_append_left hv]
  ·simp only [List.getD_eq_getElem?_getD]; rw [List.getElem?_append_left (by omega)]
 have v2 : ∀ i, ¬ i < vs.length -> (vs ++ ws).getD i [] = ws.getD (i - vs.length) [] /\ (hs ++ gs).getD i none = gs.getD (i - vs.length) none := fun i hv => by
  constructor
  ·simp only [List.getD_eq_getElem?_getD]; rw [List.getElem?_append_right (by omega)]
  ·simp only [List.getD_eq_getElem?_getD]; rw [List.getElem?_append_right (by omega), a]
 refine ⟨by simp [a, a'], fun i => if i < vs.length then κ i else κ' (i - vs.length), fun i hi' => ?_, fun i j hi' hj ni nj he => ?_⟩
 ·rw [lA] at hi'
  by_cases hv : i < vs.length
  ·simp only [hv, if_true]
   rw [(v1 i hv).1, (v1 i hv).2]
   exact (b i hv).imp id fun ⟨x, y, z⟩ => ⟨x, by omega, z⟩
  ·simp only [hv, if_false]
   rw [(v2 i hv).1, (v2 i hv).2]
   exact (b' (i - vs.length) (by omega)).imp id fun ⟨x, y, z⟩ => ⟨by omega, y, z⟩
 ·rw [lA] at hi' hj
  have r1 : ∀ i, i < vs.length -> (hs ++ gs).getD i none ≠ none -> κ i < mid := fun i hv hn => by
   rcases b i hv with ⟨z, _⟩ | ⟨_, y, _⟩
   ·rw [(v1 i hv).2, z] at hn; exact absurd rfl hn
   ·exact y
  have r2 : ∀ i, ¬ i < vs.length -> i < vs.length + ws.length -> (hs ++ gs).getD i none ≠ none -> mid <= κ' (i - vs.length) := fun i hv hw hn => by
   rcases b' (i - vs.length) (by omega) with ⟨z, _⟩ | ⟨y, _⟩
   ·rw [(v2 i hv).2, z] at hn; exact absurd rfl hn
   ·exact y
  by_cases h1 : i < vs.length
  ·by_cases h2 : j < vs.length
   ·simp only [h1, h2, if_true] at he
    rw [(v1 i h1).2] at ni; rw [(v1 j h2).2] at nj
    exact c i j h1 h2 ni nj he
   ·simp only [h1, h2, if_true, if_false] at he
    have := r1 i h1 ni; have := r2 j h2 hj nj; omega
  ·by_cases h2 : j < vs.length
   ·simp only [h1, h2, if_true, if_false] at he
    have := r1 j h2 nj; have := r2 i h1 hi' ni; omega
   ·simp only [h1, h2, if_false] at he
    rw [(v2 i h1).2] at ni; rw [(v2 j h2).2] at nj
    have := c' _ _ (by omega) (by omega) ni nj he
    omega
theorem Own.tail {h : Hnd} {v : List u.den} (o : Own e D lo hi (h :: hs) (v :: vs)) : Own e D lo hi hs vs :=
 o.sub (fun i => i + 1) (by have := o.len; simpa using this) (fun i hi' => ⟨by simp only [List.length_cons]; omega, rfl, rfl⟩) (fun i j _ _ he => by omega)
theorem Own.one {k : Nat} {v : List u.den} (hk : D[k]? = some (.row e u v)) : Own e D k (k + 1) [some (k, 0, v.length)] [v] :=
 ⟨rfl, fun _ => k, fun i hi' => by
  obtain rfl : i = 0 := by simp only [List.length_cons, List.length_nil] at hi'; omega
  exact Or.inr ⟨nR _, Nat.lt_succ_self _, rfl, hk⟩, fun i j hi' hj => by simp only [List.length_cons, List.length_nil] at hi' hj; omega⟩
theorem Own.headGone {h : Hnd} {v : List u.den} (o : Own e D lo hi (h :: hs) (v :: vs)) : Own e (hgone D h) lo hi hs vs /\ Fr lo hi D (hgone D h) := by
 obtain ⟨a, κ, b, c⟩ := o
 have a' : hs.length = vs.length := by simpa using a
 rcases b 0 (by simp) with ⟨z, _⟩ | ⟨x, y, z, t⟩
 ·have z : h = none := z
  subst z
  exact ⟨Own.tail ⟨a, κ, b, c⟩, Fr.refl⟩
 ·have z : h = some (κ 0, 0, v.length) := z
  have hn : ∀ i, i < vs.length -> hs.getD i none ≠ none -> κ (i + 1) ≠ κ 0 := fun i hv hne he => by
   have := c (i + 1) 0 (by simp only [List.length_cons]; omega) (by simp) hne (by show h ≠ none; rw [z]; simp) he
   omega
  rw [z]
  show Own e (D.set (κ 0) .gone) lo hi hs vs /\ _
  refine ⟨⟨a', fun i => κ (i + 1), fun i hv => ?_, fun i j hv hj ni nj he => ?_⟩, by show (D.set _ _).length = _; rw [List.length_set], fun k hk => ?_⟩
  ·by_cases hne : hs.getD i none = none
   ·rcases b (i + 1) (by simp only [List.length_cons]; omega) with ⟨p, q⟩ | ⟨_, _, p, _⟩
    ·exact Or.inl ⟨p, q⟩
    ·have p : hs.getD i none = _ := p
     rw [p] at hne; cases hne
   ·rcases b (i + 1) (by simp only [List.length_cons]; omega) with ⟨p, q⟩ | ⟨p, q, r, s⟩
    ·exact Or.inl ⟨p, q⟩
    ·refine Or.inr ⟨p, q, r, ?_⟩
     rw [List.getElem?_set_ne (fun e => hn i hv hne e.symm)]
     exact s
  ·have := c (i + 1) (j + 1) (by simp only [List.length_cons]; omega) (by simp only [List.length_cons]; omega) ni nj he
   omega
  ·show (D.set _ _)[k]? = _
   rw [List.getElem?_set_ne (by omega)]
theorem Own.headPut {h : Hnd} {v v' : List u.den} {vs' : List (List u.den)} (o : Own e D lo hi (h :: hs) (v :: vs)) (o' : Own e D' lo hi hs vs') (hl : D'.length = D.length) (hv : v'.length = v.length) :
  Own e (hput D' h e u v') lo hi (h :: hs) (v' :: vs') /\ Fr lo hi D' (hput D' h e u v') := by
 obtain ⟨a, κ, b, c⟩ := o
 obtain ⟨a', κ', b', c'⟩ := o'
 have al : hs.length = vs.length := by simpa using a
 rcases b 0 (by simp) with ⟨z, z2⟩ | ⟨x, y, z, t⟩
 ·have z : h = none := z
  have z2 : v = [] := z2
  subst z
  have hv0 : v' = [] := by rw [z2] at hv; exact List.length_eq_zero_iff.mp hv
  subst hv0
  show Own e D' lo hi _ _ /\ Fr lo hi D' D'
  refine ⟨⟨by simp [a'], fun i => κ' (i - 1), fun i hi' => ?_, fun i j hi' hj ni nj he => ?_⟩, Fr.refl⟩
  ·cases i with
   | zero => exact Or.inl ⟨rfl, rfl⟩
   | succ i => exact b' i (by simp only [List.length_cons] at hi'; omega)
  ·cases i with
   | zero => exact absurd rfl ni
   | succ i =>
    cases j with
    | zero => exact absurd rfl nj
    | succ j =>
     have := c' i j (by simp only [List.length_cons] at hi'; omega) (by simp only [List.length_cons] at hj; omega) ni nj he
     omega
 ·have z : h = some (κ 0, 0, v.length) := z
  have hk : κ 0 < D'.length := by rw [hl]; exact hrow_lt t
  have same : ∀ i, i < vs.length -> hs.getD i none ≠ none -> κ' i = κ (i + 1) := fun i hi' hne => by
   rcases b (i + 1) (by simp only [List.length_cons]; omega) with ⟨p, _⟩ | ⟨_, _, p, _⟩
   ·exact absurd p hne
   ·rcases b' i (by omega) with ⟨q, _⟩ | ⟨_, _, q, _⟩
    ·exact absurd q hne
    ·have p : hs.getD i none = _ := p
     rw [q] at p
     injection p with p
     exact congrArg Prod.fst p
  rw [z]
  show Own e (D'.set (κ 0) (.row e u v')) lo hi _ _ /\ Fr lo hi D' (D'.set (κ 0) (.row e u v'))
  refine ⟨⟨by simp [a'], fun i => match i with | 0 => κ 0 | i + 1 => κ' i, fun i hi' => ?_, fun i j hi' hj ni nj he => ?_⟩, by rw [List.length_set], fun k hk => by rw [List.getElem?_set_ne (by omega)]⟩
  ·cases i with
   | zero => exact Or.inr ⟨x, y, by show some (κ 0, 0, v.length) = some (κ 0, 0, v'.length); rw [hv], List.getElem?_set_self hk⟩
   | succ i =>
    have hi2 : i < vs'.length := by simp only [List.length_cons] at hi'; omega
    rcases b' i hi2 with ⟨p, q⟩ | ⟨p, q, r, s⟩
    ·exact Or.inl ⟨p, q⟩
    ·refine Or.inr ⟨p, q, r, ?_⟩
     have hne : hs.getD i none ≠ none := by rw [r]; simp
     have hne2 : κ' i ≠ κ 0 := fun e2 => by
      rw [same i (by omega) hne] at e2
      have := c (i + 1) 0 (by simp only [List.length_cons]; omega) (by simp) hne (by show h ≠ none; rw [z]; simp) e2
      omega
     show (D'.set (κ 0) _)[κ' i]? = _
     rw [List.getElem?_set_ne (fun e => hne2 e.symm)]
     exact s
  ·have far : ∀ i, i < vs'.length -> hs.getD i none ≠ none -> κ' i ≠ κ 0 := fun i hi2 hne e2 => by
    rw [same i (by omega) hne] at e2
    have := c (i + 1) 0 (by simp only [List.length_cons]; omega) (by simp) hne (by show h ≠ none; rw [z]; simp) e2
    omega
   cases i with
   | zero =>
    cases j with
    | zero => rfl
    | succ j => exact absurd he.symm (far j (by simp only [List.length_cons] at hj; omega) nj)
   | succ i =>
    cases j with
    | zero => exact absurd he (far i (by simp only [List.length_cons] at hi'; omega) ni)
    | succ j =>
     have := c' i j (by simp only [List.length_cons] at hi'; omega) (by simp only [List.length_cons] at hj; omega) ni nj he
     omega
end
end Go.Kb
namespace Go.Kb
set_option maxRecDepth 100000
abbrev tA : Ty := .pair (.int .i64) (.pair (.int .i64) (.pair (.int .i64) (.int .i64)))
abbrev tS : Ty := .pair (.int .i64) (.pair (.int .i64) (.int .i64))
theorem Own.call {u : Ty} {e : Nat} {D E : List HRow} {hs : List Hnd} {vs : List (List u.den)} (h : Own e E D.length E.length hs vs) (p : hhide D <+: E) : D <+: zBf D E /\ Own e (zBf D E) D.length (zBf D E).length hs vs := by
 have o' := h.shown p (nR _)
 exact ⟨(hide_more p).1, by rw [(hide_more p).2.1]; exact o'⟩
theorem Own.unA {D : List HRow} {lo hi : Nat} {hs : List Hnd} {vs : List (List Act)} (h : Own (u := tA) 8 D lo hi hs vs) : (List.map (Ty.unden D (.hnd (.pair (.int .i64) (.pair (.int .i64) (.pair (.int .i64) (.int .i64)))))) hs : List (List (Int × Int × Int × Int))) = vs := h.unden
theorem Own.unS {D : List HRow} {lo hi : Nat} {hs : List Hnd} {vs : List (List MSt)} (h : Own (u := tS) 10 D lo hi hs vs) : (List.map (Ty.unden D (.hnd (.pair (.int .i64) (.pair (.int .i64) (.int .i64))))) hs : List (List (Int × Int × Int))) = vs := h.unden
structure EOut (D D' : List HRow) (hs gs : List Hnd) (m : List (List Act)) (s : List (List MSt)) : Prop where
 pre : D <+: D'
 own : ∃ mid, D.length <= mid /\ mid <= D'.length /\ Own (u := tA) 8 D' D.length mid hs m /\ Own (u := tS) 10 D' mid D'.length gs s
theorem EOut.call {D E : List HRow} {hs gs : List Hnd} {m : List (List Act)} {s : List (List MSt)} (h : EOut (hhide D) E hs gs m s) : EOut D (zBf D E) hs gs m s := by
 obtain ⟨p, mid, h1, h2, h3, h4⟩ := h
 rw [hide_len] at h1 h3
 obtain ⟨q1, q2, q3⟩ := hide_more p
 refine ⟨q1, mid, h1, by rw [q2]; exact h2, ?_, ?_⟩
 ·exact h3.shown p (nR _)
 ·rw [q2]; exact h4.shown p h1
theorem OkE_new {m : Mp} (hm : OkM m) {s : List (List MSt)} (hs : s.length <= 4) (h : s.all isMc = true) : OkE (m, s, 0, [], 0, false) := by
 refine ⟨hm, hs, ⟨by simp, by simp⟩, by dsimp only; omega, h, by simp, ?_⟩
 dsimp only
 have hp : (0 : Int) < 2 ^ m.2.length := by
  have : ((2 : Int) ^ m.2.length) = ((2 ^ m.2.length : Nat) : Int) := by simp
  rw [this]
  exact Int.ofNat_lt.2 (Nat.two_pow_pos _)
 exact ⟨by omega, rfl, hp⟩
def newD (e : Eng) (t : Tmg) : Dcd := (e, t, [], 0, 0, 0, 0)
theorem OkD_new {e : Eng} (he : OkE e) {t : Tmg} (ht : isT t = true) : OkD (newD e t) := by
 have hk := he.map.keys
 exact ⟨he, ht, by dsimp only [newD]; omega, by dsimp only [newD]; omega, Nat.zero_le _, trivial, by show (0 : Int) <= 0; omega, by dsimp only [newD]; omega⟩
theorem OkM.set0 {keys : Int} {ls : List (List Act)} (h : OkM (keys, ls)) {k : Nat} (hk : k < (ls.getD 0 []).length) {a : Act} (ha : okC2 ls.length a) : OkM (keys, ls.set 0 ((ls.getD 0 []).set k a)) := by
 obtain ⟨h1, h2, h3⟩ := h
 dsimp only at h1 h2 h3
 cases ls with
 | nil => simp at h2
 | cons x s =>
  refine ⟨h1, by dsimp only; simpa using h2, ?_⟩
  have e0 : (x :: s).getD 0 [] = x := rfl
  rw [e0] at hk ⊢
  simp only [List.set_cons_zero]
  simp only [laysB, layB, bA] at h3 ⊢
  have el : (List.set x k a :: s).length = (x :: s).length := rfl
  rw [el]
  refine ⟨⟨?_, ?_⟩, h3.2⟩
  ·rw [List.length_set]; exact h3.1.1
  ·rw [List.all_eq_true] at h3 ⊢
   intro y hy
   rcases List.mem_or_eq_of_mem_set hy with hy | hy
   ·exact h3.1.2 y hy
   ·rw [hy]; exact cell_of ha true
structure DrawnD (d : Dcd) : Prop where
 ok : OkD d
 now : d.2.2.2.1 <= 70
 q : d.2.2.1.length <= 6
 term : d.2.1.1 <= 9
 rest : stepD d = none
end Go.Kb
namespace Go.Kb
set_option maxRecDepth 100000
theorem okK_len : ∀ (l : List Int) (p : Int), 0 <= p /\ p <= 56 -> okK p l = true -> (l.length : Int) <= 56 - p := by
 intro l
 induction l with
 | nil => intro p hp _; show (0 : Int) <= _; omega
 | cons x r ih =>
  intro p hp h
  rw [okK_cons, bA, bA, decide_eq_true_iff, decide_eq_true_iff] at h
  have := ih x (by omega) h.2.2
  rw [List.length_cons]
  omega
theorem rpB_small {r : Rpt} (h : rpB r = true) : r.2.length <= 56 := by
 unfold rpB at h
 rw [bA] at h
 have := okK_len r.2 0 (by omega) h.2
 omega
theorem runQ_sent_len : ∀ (k : Nat) (d : Dcd), d.2.2.1.length <= k -> OkD d -> (runQ d).2.length <= 17 * d.2.2.1.length := by
 intro k
 induction k with
 | zero =>
  intro d h _
  rw [runQ_none (stepD_nil (d := d) (List.length_eq_zero_iff.1 (by omega)))]; exact Nat.zero_le _
 | succ k ih =>
  intro d h hd
  cases hs : stepD d with
  | none => rw [runQ_none hs]; exact Nat.zero_le _
  | some p =>
   obtain ⟨o, d'⟩ := p
   obtain ⟨g1, _, _, _, _, ⟨f, hf⟩, _⟩ := stepD_ok hd hs
   have hl : d.2.2.1.length = d'.2.2.1.length + 1 := by rw [hf]; rfl
   have ho := step_len hd hs
   have := ih d' (by omega) g1
   rw [runQ_some hs]
   dsimp only
   rw [lA, sentB_len]
   omega
end Go.Kb
