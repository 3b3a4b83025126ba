/- Reports by handles: pairs of a number and a handle; pipes; copying and marking them. -/
import Derived.Test.YticidpdbkjgebaaDoorExactTextReportsP8
import Derived.Test.YticidpdbkjgebaaDoorExactTextReportsP61
namespace Go.Kb
set_option maxRecDepth 100000

section
variable {u : Ty} {e : Nat} {D D' : List HRow} {lo hi : Nat} {hs : List Hnd} {vs : List (List u.den)}
/-- two owners side by side -/
theorem Own.append {mid : Nat} {gs : List Hnd} {ws : List (List u.den)} (h : Own e D lo mid hs vs) (g : Own e D mid hi gs ws) (h1 : lo ≤ mid) (h2 : mid ≤ hi) : Own e D lo hi (hs ++ gs) (vs ++ ws) := by
  obtain ⟨a, κ, b, c⟩ := h
  obtain ⟨a', κ', b', c'⟩ := g
  have v1 : ∀ i, i < vs.length → (vs ++ ws).getD i [] = vs.getD i [] ∧ (hs ++ gs).getD i none = hs.getD i none := fun i hv => by
    constructor
    · simp only [List.getD_eq_getElem?_getD, List.getElem?_append_left hv]
    · simp only [List.getD_eq_getElem?_getD]; rw [List.getElem?_append_left (by omega)]
  have v2 : ∀ i, ¬ i < vs.length → (vs ++ ws).getD i [] = ws.getD (i - vs.length) [] ∧ (hs ++ gs).getD i none = gs.getD (i - vs.length) none := fun i hv => by
    constructor
    · simp only [List.getD_eq_getElem?_getD]; rw [List.getElem?_append_right (by omega)]
    · simp only [List.getD_eq_getElem?_getD]; rw [List.getElem?_append_right (by omega), a]
  refine ⟨by simp [a, a'], fun i => if i < vs.length then κ i else κ' (i - vs.length), fun i hi' => ?_, fun i j hi' hj ni nj he => ?_⟩
  · rw [List.length_append] at hi'
    by_cases hv : i < vs.length
    · simp only [hv, if_true]
      rw [(v1 i hv).1, (v1 i hv).2]
      exact (b i hv).imp id fun ⟨x, y, z⟩ => ⟨x, by omega, z⟩
    · simp only [hv, if_false]
      rw [(v2 i hv).1, (v2 i hv).2]
      exact (b' (i - vs.length) (by omega)).imp id fun ⟨x, y, z⟩ => ⟨by omega, y, z⟩
  · rw [List.length_append] at hi' hj
    have r1 : ∀ i, i < vs.length → (hs ++ gs).getD i none ≠ none → κ i < mid := fun i hv hn => by
      rcases b i hv with ⟨z, _⟩ | ⟨_, y, _⟩
      · rw [(v1 i hv).2, z] at hn; exact absurd rfl hn
      · exact y
    have r2 : ∀ i, ¬ i < vs.length → i < vs.length + ws.length → (hs ++ gs).getD i none ≠ none → mid ≤ κ' (i - vs.length) := fun i hv hw hn => by
      rcases b' (i - vs.length) (by omega) with ⟨z, _⟩ | ⟨y, _⟩
      · rw [(v2 i hv).2, z] at hn; exact absurd rfl hn
      · exact y
    by_cases h1 : i < vs.length
    · by_cases h2 : j < vs.length
      · simp only [h1, h2, if_true] at he
        rw [(v1 i h1).2] at ni; rw [(v1 j h2).2] at nj
        exact c i j h1 h2 ni nj he
      · simp only [h1, h2, if_true, if_false] at he
        have := r1 i h1 ni; have := r2 j h2 hj nj; omega
    · by_cases h2 : j < vs.length
      · simp only [h1, h2, if_true, if_false] at he
        have := r1 j h2 nj; have := r2 i h1 hi' ni; omega
      · simp only [h1, h2, if_false] at he
        rw [(v2 i h1).2] at ni; rw [(v2 j h2).2] at nj
        have := c' _ _ (by omega) (by omega) ni nj he
        omega
theorem Own.tail {h : Hnd} {v : List u.den} (o : Own e D lo hi (h :: hs) (v :: vs)) : Own e D lo hi hs vs :=
  o.sub (fun i => i + 1) (by have := o.len; simpa using this) (fun i hi' => ⟨by simp only [List.length_cons]; omega, rfl, rfl⟩) (fun i j _ _ he => by omega)
theorem Own.one {k : Nat} {v : List u.den} (hk : D[k]? = some (.row e u v)) : Own e D k (k + 1) [some (k, 0, v.length)] [v] :=
  ⟨rfl, fun _ => k, fun i hi' => by
    obtain rfl : i = 0 := by simp only [List.length_cons, List.length_nil] at hi'; omega
    exact Or.inr ⟨Nat.le_refl _, Nat.lt_succ_self _, rfl, hk⟩, fun i j hi' hj => by simp only [List.length_cons, List.length_nil] at hi' hj; omega⟩
/-- the first row is taken out … -/
theorem Own.headGone {h : Hnd} {v : List u.den} (o : Own e D lo hi (h :: hs) (v :: vs)) : Own e (hgone D h) lo hi hs vs ∧ Fr lo hi D (hgone D h) := by
  obtain ⟨a, κ, b, c⟩ := o
  have a' : hs.length = vs.length := by simpa using a
  rcases b 0 (by simp) with ⟨z, _⟩ | ⟨x, y, z, t⟩
  · have z : h = none := z
    subst z
    exact ⟨Own.tail ⟨a, κ, b, c⟩, Fr.refl⟩
  · have z : h = some (κ 0, 0, v.length) := z
    have hn : ∀ i, i < vs.length → hs.getD i none ≠ none → κ (i + 1) ≠ κ 0 := fun i hv hne he => by
      have := c (i + 1) 0 (by simp only [List.length_cons]; omega) (by simp) hne (by show h ≠ none; rw [z]; simp) he
      omega
    rw [z]
    show Own e (D.set (κ 0) .gone) lo hi hs vs ∧ _
    refine ⟨⟨a', fun i => κ (i + 1), fun i hv => ?_, fun i j hv hj ni nj he => ?_⟩, by show (D.set _ _).length = _; rw [List.length_set], fun k hk => ?_⟩
    · by_cases hne : hs.getD i none = none
      · rcases b (i + 1) (by simp only [List.length_cons]; omega) with ⟨p, q⟩ | ⟨_, _, p, _⟩
        · exact Or.inl ⟨p, q⟩
        · have p : hs.getD i none = _ := p
          rw [p] at hne; cases hne
      · rcases b (i + 1) (by simp only [List.length_cons]; omega) with ⟨p, q⟩ | ⟨p, q, r, s⟩
        · exact Or.inl ⟨p, q⟩
        · refine Or.inr ⟨p, q, r, ?_⟩
          rw [List.getElem?_set_ne (fun e => hn i hv hne e.symm)]
          exact s
    · have := c (i + 1) (j + 1) (by simp only [List.length_cons]; omega) (by simp only [List.length_cons]; omega) ni nj he
      omega
    · show (D.set _ _)[k]? = _
      rw [List.getElem?_set_ne (by omega)]
/-- … and put back, changed -/
theorem Own.headPut {h : Hnd} {v v' : List u.den} {vs' : List (List u.den)} (o : Own e D lo hi (h :: hs) (v :: vs)) (o' : Own e D' lo hi hs vs') (hl : D'.length = D.length) (hv : v'.length = v.length) :
    Own e (hput D' h e u v') lo hi (h :: hs) (v' :: vs') ∧ Fr lo hi D' (hput D' h e u v') := by
  obtain ⟨a, κ, b, c⟩ := o
  obtain ⟨a', κ', b', c'⟩ := o'
  have al : hs.length = vs.length := by simpa using a
  rcases b 0 (by simp) with ⟨z, z2⟩ | ⟨x, y, z, t⟩
  · have z : h = none := z
    have z2 : v = [] := z2
    subst z
    have hv0 : v' = [] := by rw [z2] at hv; exact List.length_eq_zero_iff.mp hv
    subst hv0
    show Own e D' lo hi _ _ ∧ Fr lo hi D' D'
    refine ⟨⟨by simp [a'], fun i => κ' (i - 1), fun i hi' => ?_, fun i j hi' hj ni nj he => ?_⟩, Fr.refl⟩
    · cases i with
      | zero => exact Or.inl ⟨rfl, rfl⟩
      | succ i => exact b' i (by simp only [List.length_cons] at hi'; omega)
    · cases i with
      | zero => exact absurd rfl ni
      | succ i =>
        cases j with
        | zero => exact absurd rfl nj
        | succ j =>
          have := c' i j (by simp only [List.length_cons] at hi'; omega) (by simp only [List.length_cons] at hj; omega) ni nj he
          omega
  · have z : h = some (κ 0, 0, v.length) := z
    have hk : κ 0 < D'.length := by rw [hl]; exact hrow_lt t
    have same : ∀ i, i < vs.length → hs.getD i none ≠ none → κ' i = κ (i + 1) := fun i hi' hne => by
      rcases b (i + 1) (by simp only [List.length_cons]; omega) with ⟨p, _⟩ | ⟨_, _, p, _⟩
      · exact absurd p hne
      · rcases b' i (by omega) with ⟨q, _⟩ | ⟨_, _, q, _⟩
        · exact absurd q hne
        · have p : hs.getD i none = _ := p
          rw [q] at p
          injection p with p
          exact congrArg Prod.fst p
    rw [z]
    show Own e (D'.set (κ 0) (.row e u v')) lo hi _ _ ∧ Fr lo hi D' (D'.set (κ 0) (.row e u v'))
    refine ⟨⟨by simp [a'], fun i => match i with | 0 => κ 0 | i + 1 => κ' i, fun i hi' => ?_, fun i j hi' hj ni nj he => ?_⟩, by rw [List.length_set], fun k hk => by rw [List.getElem?_set_ne (by omega)]⟩
    · cases i with
      | zero => exact Or.inr ⟨x, y, by show some (κ 0, 0, v.length) = some (κ 0, 0, v'.length); rw [hv], List.getElem?_set_self hk⟩
      | succ i =>
        have hi2 : i < vs'.length := by simp only [List.length_cons] at hi'; omega
        rcases b' i hi2 with ⟨p, q⟩ | ⟨p, q, r, s⟩
        · exact Or.inl ⟨p, q⟩
        · refine Or.inr ⟨p, q, r, ?_⟩
          have hne : hs.getD i none ≠ none := by rw [r]; simp
          have hne2 : κ' i ≠ κ 0 := fun e2 => by
            rw [same i (by omega) hne] at e2
            have := c (i + 1) 0 (by simp only [List.length_cons]; omega) (by simp) hne (by show h ≠ none; rw [z]; simp) e2
            omega
          show (D'.set (κ 0) _)[κ' i]? = _
          rw [List.getElem?_set_ne (fun e => hne2 e.symm)]
          exact s
    · have far : ∀ i, i < vs'.length → hs.getD i none ≠ none → κ' i ≠ κ 0 := fun i hi2 hne e2 => by
        rw [same i (by omega) hne] at e2
        have := c (i + 1) 0 (by simp only [List.length_cons]; omega) (by simp) hne (by show h ≠ none; rw [z]; simp) e2
        omega
      cases i with
      | zero =>
        cases j with
        | zero => rfl
        | succ j => exact absurd he.symm (far j (by simp only [List.length_cons] at hj; omega) nj)
      | succ i =>
        cases j with
        | zero => exact absurd he (far i (by simp only [List.length_cons] at hi'; omega) ni)
        | succ j =>
          have := c' i j (by simp only [List.length_cons] at hi'; omega) (by simp only [List.length_cons] at hj; omega) ni nj he
          omega
end
end Go.Kb
