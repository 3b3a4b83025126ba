/- Texts: what is typed by reports or by a macro is the text. -/
import Derived.Test.YtipjdpnpahhndaaDoorCharactersP43
import Derived.Test.YtipjdpnpahhndaaDoorCharactersP45
import Derived.Test.YtipjdpnpahhndaaDoorCharactersF12
namespace Go.Kb
set_option maxRecDepth 100000

theorem KeyOf_nL2 (N n1 : Nat) (char m t8 t9 : Int) (o : List Int) : ∀ (j c n2 : Nat), c + j = 57 → j < n2 →
    impl_KeyOf.L2 N n1 n2 char m (c : Int) t8 t9 o = match fk char m j c with | some r => some r | none => impl_KeyOf.L1 N n1 char t8 (IntKind.wrap .i64 (t9 + 1)) o := by
  intro j
  induction j with
  | zero =>
    intro c n2 h1 h2
    obtain ⟨n2, rfl⟩ : ∃ k, n2 = k + 1 := ⟨n2 - 1, by omega⟩
    rw [impl_KeyOf.L2_eq, decide_eq_false (by omega)]
    rfl
  | succ j ih =>
    intro c n2 h1 h2
    obtain ⟨n2, rfl⟩ : ∃ k, n2 = k + 1 := ⟨n2 - 1, by omega⟩
    rw [impl_KeyOf.L2_eq, decide_eq_true (by omega), condT, CharOf_i, bindV, wrap_succ (by omega), ih (c + 1) n2 (by omega) (by omega), fk_succ]
    cases ch (c : Int) m == bytesOf [char] <;> rfl

theorem KeyOf_n' (N : Nat) (hN : 60 < N) (char : Int) (n : Nat) : impl_KeyOf.L1 N (n + 1 + 1 + 1) char 2 0 [0, 2] = some (ky char) := by
  have i0 : inRange 0 (List.length [(0 : Int), 2]) = true := by decide
  have i1 : inRange 1 (List.length [(0 : Int), 2]) = true := by decide
  have g0 : List.getD [(0 : Int), 2] (Int.toNat 0) 0 = 0 := by decide
  have g1 : List.getD [(0 : Int), 2] (Int.toNat 1) 0 = 2 := by decide
  rw [impl_KeyOf.L1_eq, decide_eq_true (by omega), condT, i0, condT, g0]
  have h := KeyOf_nL2 N (n + 1 + 1) char 0 2 0 [0, 2] 56 1 N (by omega) (by omega)
  refine h.trans ?_
  unfold ky
  cases fk char 0 56 1 with
  | some r => rfl
  | none =>
    simp only []
    have w : IntKind.wrap .i64 ((0 : Int) + 1) = 1 := wrap64 (by omega) (by omega)
    rw [w, impl_KeyOf.L1_eq, decide_eq_true (by omega), condT, i1, condT, g1]
    have h := KeyOf_nL2 N (n + 1) char 2 2 1 [0, 2] 56 1 N (by omega) (by omega)
    refine h.trans ?_
    cases fk char 2 56 1 with
    | some r => rfl
    | none =>
      simp only []
      have w : IntKind.wrap .i64 ((1 : Int) + 1) = 2 := wrap64 (by omega) (by omega)
      rw [w, impl_KeyOf.L1_eq, decide_eq_false (by omega), condF]
theorem KeyOf_n (N : Nat) (hN : 60 < N) (char : Int) : impl_KeyOf.F N char = some (ky char) := by
  rw [impl_KeyOf.F_eq]
  obtain ⟨n, rfl⟩ : ∃ n, N = n + 1 + 1 + 1 := ⟨N - 3, by omega⟩
  exact KeyOf_n' (n + 1 + 1 + 1) hN char n

/-! ### the letters that are drawn -/
def okB : List UInt8 := [97, 98, 90, 122, 49, 48, 33, 41, 32, 45, 95, 61, 43, 10, 9, 113, 81]
def kb (b : UInt8) : Int × Int := ky (b.toNat : Int)
theorem okB_tbl : (okB.all fun b => decide (1 ≤ (kb b).1 ∧ (kb b).1 ≤ 56) && (((kb b).2 == 0 || (kb b).2 == 2) && ch (kb b).1 (kb b).2 == [b])) = true := by kernel_rfl
theorem okB_fact {b : UInt8} (h : b ∈ okB) : (1 ≤ (kb b).1 ∧ (kb b).1 ≤ 56) ∧ ((kb b).2 = 0 ∨ (kb b).2 = 2) ∧ ch (kb b).1 (kb b).2 = [b] := by
  have := List.all_eq_true.1 okB_tbl b h
  simpa using this

theorem TextD_L1 (N : Nat) (code : List Int) (hm : code.length ≤ maxN) : ∀ (n m : Nat) (c : List Int × Int × Int) (s : List UInt8), m < n → okC code c → s.length + m ≤ 100 → (∀ b ∈ s, b ∈ okB) →
    ∃ s' c', spec_l12Text.L1 N n s (m : Int) c.1 c.2.1 c.2.2 = some (s', c') ∧ s'.length = s.length + m ∧ ∀ b ∈ s', b ∈ okB := by
  intro n
  induction n with
  | zero => intro m c s h1; omega
  | succ n ih =>
    intro m c s h1 h2 h3 h4
    rw [spec_l12Text.L1_eq]
    cases m with
    | zero =>
      rw [decide_eq_false (by omega), condF]
      exact ⟨s, c, rfl, by omega, h4⟩
    | succ m =>
      have w3 : IntKind.wrap .i64 (((m + 1 : Nat) : Int) - 1) = (m : Int) := by rw [wrap64 (by omega) (by omega)]; omega
      rw [decide_eq_true (by omega), condT, spec_l1Pick.F_eq, w3]
      obtain ⟨v, c2, e2, v0, v1, k2⟩ := l1Below_ok N code (c.1, (c.2.1, c.2.2)) (17 : Int) h2 hm (by omega)
      obtain ⟨j, rfl⟩ : ∃ j : Nat, v = (j : Int) := ⟨v.toNat, by omega⟩
      have hj : j < 17 := by omega
      generalize hL : ([([97] : List UInt8), [98], [90], [122], [49], [48], [33], [41], [32], [45], [95], [61], [43], [10], [9], [113], [81]] : List (List UInt8)) = L
      have hlen : L.length = 17 := by rw [← hL]; rfl
      have hpick : ∃ b, b ∈ okB ∧ L.getD j [] = [b] := by
        have ht : ((List.range 17).all fun j => okB.any fun b => ([([97] : List UInt8), [98], [90], [122], [49], [48], [33], [41], [32], [45], [95], [61], [43], [10], [9], [113], [81]] : List (List UInt8)).getD j [] == [b]) = true := by decide
        have := List.all_eq_true.1 ht j (List.mem_range.2 hj)
        rw [hL] at this
        obtain ⟨b, hb, e⟩ := List.any_eq_true.1 this
        exact ⟨b, hb, by simpa using e⟩
      obtain ⟨b, hb, eb⟩ := hpick
      have e2' : spec_l1Below.F N ((c.1, (c.2.1, c.2.2)), ((17 : Nat) : Int)) = some ((j : Int), c2) := e2
      rw [hlen, e2', bindV, inRange_nat, decide_eq_true hj, condT, bindV, nth_nat, eb]
      have hmx : decide (List.length s + List.length ([b] : List UInt8) ≤ maxN) = true := decide_eq_true (by unfold maxN; simp; omega)
      rw [hmx, condT]
      obtain ⟨s', c', e, hl, hs⟩ := ih m c2 (s ++ [b]) (by omega) k2 (by simp; omega) (by
        intro x hx
        rcases List.mem_append.1 hx with hx | hx
        · exact h4 x hx
        · rw [List.mem_singleton.1 hx]; exact hb)
      exact ⟨s', c', e, by simp at hl; omega, hs⟩

theorem TextD (N : Nat) (hN : 100 < N) (code : List Int) (hm : code.length ≤ maxN) (hc : code.length < N) : ∃ s, spec_MakeText.F N (code, 8) = some s ∧ s.length ≤ 8 ∧ ∀ b ∈ s, b ∈ okB := by
  rw [spec_MakeText.F_eq]
  obtain ⟨c, e, k⟩ := l24New_ok N code 12 hm hc
  rw [e, bindV, spec_l12Text.F_eq]
  have w : IntKind.wrap .i64 ((8 : Int) + 1) = 9 := wrap64 (by omega) (by omega)
  obtain ⟨v, c2, e2, v0, v1, k2⟩ := l1Below_ok N code c 9 k hm (by omega)
  obtain ⟨j, rfl⟩ : ∃ j : Nat, v = (j : Int) := ⟨v.toNat, by omega⟩
  rw [w, e2, bindV]
  obtain ⟨s', c', e3, hl, hs⟩ := TextD_L1 N code hm N j c2 [] (by omega) k2 (by simp; omega) (by intro x hx; cases hx)
  simp only [List.length_nil] at hl
  refine ⟨s', ?_, by omega, hs⟩
  simp only [e3, bindV]

/-! ### reports and macro of a text -/
def rB (b : UInt8) : List Rpt := [((kb b).2, [(kb b).1]), (0, [])]
def repsOf (s : List UInt8) : List Rpt := s.flatMap rB
def stepsOf (s : List UInt8) : List Step3 := s.map fun b => (0, kb b)
theorem repsOf_len (s : List UInt8) : (repsOf s).length = 2 * s.length := by
  induction s with
  | nil => rfl
  | cons b s ih => unfold repsOf at ih ⊢; rw [List.flatMap_cons, List.length_append, ih]; simp [rB]; omega

theorem okB_ne {b : UInt8} (h : b ∈ okB) : ((kb b).1 == 0) = false := by
  have := (okB_fact h).1
  rw [beqI, decide_eq_false (by omega)]

theorem getD_okB {s : List UInt8} (hs : ∀ b ∈ s, b ∈ okB) {i : Nat} (hi : i < s.length) : s.getD i 0 ∈ okB := hs _ (nth_mem 0 s i hi)

theorem TextR_L1 (N : Nat) (hN : 60 < N) (s : List UInt8) (hs : ∀ b ∈ s, b ∈ okB) (hl : s.length ≤ 60) : ∀ (n i : Nat) (o : List Rpt), i ≤ s.length → s.length < n + i → o.length = 2 * i →
    impl_TextReports.L1 N n s (i : Int) o = some (o ++ repsOf (s.drop i), true) := by
  intro n
  induction n with
  | zero => intro i o h1 h2; omega
  | succ n ih =>
    intro i o h1 h2 h3
    rw [impl_TextReports.L1_eq]
    by_cases hi : i < s.length
    · have hb := getD_okB hs hi
      have ws : IntKind.wrap .i64 ((i : Int) + 1) = ((i + 1 : Nat) : Int) := wrap_succ (by omega)
      rw [decide_eq_true (by omega : (i : Int) < (s.length : Int)), condT, inRange_nat, decide_eq_true hi, condT, nth_nat, KeyOf_n N hN, bindV, ws, drop_cons 0 s i hi]
      have h0 := okB_ne hb
      unfold kb at h0
      have hmx : ∀ q : List Rpt, q.length = 2 → decide (List.length o + List.length q ≤ maxN) = true := fun q hq => decide_eq_true (by unfold maxN; omega)
      rw [h0, condF, hmx _ rfl, condT, ih (i + 1) _ (by omega) (by omega) (by simp; omega)]
      unfold repsOf
      rw [List.flatMap_cons, List.append_assoc]
      rfl
    · rw [decide_eq_false (by omega : ¬ (i : Int) < (s.length : Int)), condF, List.drop_eq_nil_of_le (by omega)]
      simp [repsOf]
theorem TextR_eq (N : Nat) (hN : 60 < N) (s : List UInt8) (hs : ∀ b ∈ s, b ∈ okB) (hl : s.length ≤ 8) : impl_TextReports.F N s = some (repsOf s, true) := by
  have e := TextR_L1 N hN s hs (by omega) N 0 [] (by omega) (by omega) rfl
  rw [Int.natCast_zero, List.drop_zero, List.nil_append] at e
  rw [impl_TextReports.F_eq, decide_eq_false (by omega), condF, e]

theorem TextM_L1 (N : Nat) (hN : 60 < N) (s : List UInt8) (hs : ∀ b ∈ s, b ∈ okB) (hl : s.length ≤ 60) : ∀ (n i : Nat) (o : List Step3), i ≤ s.length → s.length < n + i → o.length = i →
    impl_TextMacro.L1 N n s (i : Int) o = some (o ++ stepsOf (s.drop i), true) := by
  intro n
  induction n with
  | zero => intro i o h1 h2; omega
  | succ n ih =>
    intro i o h1 h2 h3
    rw [impl_TextMacro.L1_eq]
    by_cases hi : i < s.length
    · have hb := getD_okB hs hi
      have ws : IntKind.wrap .i64 ((i : Int) + 1) = ((i + 1 : Nat) : Int) := wrap_succ (by omega)
      rw [decide_eq_true (by omega : (i : Int) < (s.length : Int)), condT, inRange_nat, decide_eq_true hi, condT, nth_nat, KeyOf_n N hN, bindV, ws, drop_cons 0 s i hi]
      have h0 := okB_ne hb
      unfold kb at h0
      have hmx : ∀ q : List Step3, q.length = 1 → decide (List.length o + List.length q ≤ maxN) = true := fun q hq => decide_eq_true (by unfold maxN; omega)
      rw [h0, condF, hmx _ rfl, condT, ih (i + 1) _ (by omega) (by omega) (by simp; omega)]
      unfold stepsOf
      rw [List.map_cons, List.append_assoc]
      rfl
    · rw [decide_eq_false (by omega : ¬ (i : Int) < (s.length : Int)), condF, List.drop_eq_nil_of_le (by omega)]
      simp [stepsOf]
theorem TextM_eq (N : Nat) (hN : 60 < N) (s : List UInt8) (hs : ∀ b ∈ s, b ∈ okB) (hl : s.length ≤ 8) : impl_TextMacro.F N s = some (stepsOf s, true) := by
  have e := TextM_L1 N hN s hs (by omega) N 0 [] (by omega) (by omega) rfl
  rw [Int.natCast_zero, List.drop_zero, List.nil_append] at e
  rw [impl_TextMacro.F_eq, decide_eq_false (by omega), condF, e]

theorem IsAction_key (N : Nat) (c m : Int) (hc : 1 ≤ c ∧ c ≤ 56) (hm : m = 0 ∨ m = 2) : impl_IsAction.F N (2, (c, (m, 0))) = some true := by
  have c0 : (c == 0) = false := by rw [beqI, decide_eq_false (by omega)]
  have c1 : (c != 0) = true := by rw [bneI, decide_eq_false (by omega)]; rfl
  have t0 : ((2 : Int) == 0) = false := rfl
  have t1 : ((2 : Int) == 1) = false := rfl
  have t2 : ((2 : Int) == 2) = true := rfl
  have z0 : ((0 : Int) == 0) = true := rfl
  have t10 : ((2 : Int) == 10) = false := rfl
  have hm2 : impl_isMods.F N 2 = some true := by rw [impl_isMods.F_eq]; rfl
  rw [impl_IsAction.F_eq]
  rcases hm with rfl | rfl
  · simp only [t0, t1, t2, t10, z0, c0, c1, condT, condF, isCode_eq, bindV, decide_eq_true hc]
  · simp only [t0, t1, t2, t10, z0, c0, c1, condT, condF, isCode_eq, bindV, decide_eq_true hc, hm2]

theorem pairAt_nil (N : Nat) (hN : 0 < N) (p : Int × Int) : impl_pairAt.F N ([], p) = some (-1) := by
  rw [impl_pairAt.F_eq]
  obtain ⟨n, rfl⟩ : ∃ n, N = n + 1 := ⟨N - 1, by omega⟩
  rw [impl_pairAt.L1_eq, decide_eq_false (by simp), condF]

theorem stepsOf_getD {s : List UInt8} {i : Nat} (hi : i < s.length) : (stepsOf s).getD i (0, (0, 0)) = (0, kb (s.getD i 0)) := by
  unfold stepsOf
  rw [List.getD_eq_getElem?_getD, List.getElem?_map, List.getD_eq_getElem?_getD, List.getElem?_eq_getElem hi]; rfl

theorem IsMacro_L1 (N : Nat) (hN : 60 < N) (s : List UInt8) (hs : ∀ b ∈ s, b ∈ okB) (hl : s.length ≤ 60) : ∀ (n i : Nat), i ≤ s.length → s.length < n + i →
    impl_IsMacro.L1 N n (stepsOf s) ((stepsOf s).length : Int) (i : Int) [] = some true := by
  intro n
  induction n with
  | zero => intro i h1 h2; omega
  | succ n ih =>
    intro i h1 h2
    have hsl : (stepsOf s).length = s.length := by simp [stepsOf]
    rw [impl_IsMacro.L1_eq]
    by_cases hi : i < s.length
    · have hb := getD_okB hs hi
      obtain ⟨f1, f2, f3⟩ := okB_fact hb
      have ws : IntKind.wrap .i64 ((i : Int) + 1) = ((i + 1 : Nat) : Int) := wrap_succ (by omega)
      have hi' : i < (stepsOf s).length := by omega
      rw [decide_eq_true (by omega : (i : Int) < ((stepsOf s).length : Int)), condT, inRange_nat, decide_eq_true hi', condT, nth_nat, stepsOf_getD hi, ws]
      have z0 : ((0 : Int) == 0) = true := rfl
      have z1 : ((0 : Int) == 1) = false := rfl
      have m1 : decide ((-1 : Int) ≥ 0) = false := by decide
      simp only [pairAt_nil N (by omega), bindV, IsAction_key N _ _ f1 f2, notT, condF, z0, z1, condT, m1]
      exact ih (i + 1) (by omega) (by omega)
    · rw [decide_eq_false (by omega : ¬ (i : Int) < ((stepsOf s).length : Int)), condF]; rfl
theorem IsMacro_eq (N : Nat) (hN : 60 < N) (s : List UInt8) (hs : ∀ b ∈ s, b ∈ okB) (hl : s.length ≤ 8) : impl_IsMacro.F N (stepsOf s) = some true := by
  have e := IsMacro_L1 N hN s hs (by omega) N 0 (by omega) (by omega)
  have hsl : (stepsOf s).length = s.length := by simp [stepsOf]
  rw [Int.natCast_zero] at e
  rw [impl_IsMacro.F_eq, decide_eq_false (by omega), condF, e]

theorem codesOf_nil (N : Nat) (hN : 60 < N) : impl_codesOf.F N [] = some [] := by
  obtain ⟨n, rfl⟩ : ∃ n, N = n + 1 := ⟨N - 1, by omega⟩
  have e : ext_sort_Ints.F (n + 1) [] = some [] := rfl
  rw [impl_codesOf.F_eq, impl_copyInts.F_eq, decide_eq_true (by simp), condT, bindV, e, bindV, impl_codesOf.L1_eq, decide_eq_false (by simp), condF]
theorem codesOf_one (N : Nat) (hN : 1048576 < N) (c : Int) (hc : 1 ≤ c) : impl_codesOf.F N [c] = some [c] := by
  have e : ext_sort_Ints.F N [c] = some [c] := rfl
  rw [impl_codesOf.F_eq, impl_copyInts.F_eq, decide_eq_true (by unfold maxN; simp), condT, bindV, e, bindV]
  have L : ∀ n, impl_codesOf.L1 N (n + 1 + 1) (List.length [c] : Int) 0 [c] [] = some [c] := by
    intro n
    have i0 : inRange 0 (List.length [c]) = true := by simp [inRange]
    have g0 : List.getD [c] (Int.toNat 0) 0 = c := rfl
    have c1 : (c != 0) = true := by rw [bneI, decide_eq_false (by omega)]; rfl
    have w : IntKind.wrap .i64 ((0 : Int) + 1) = 1 := wrap64 (by omega) (by omega)
    have hh : impl_hasInt.F N ([], c) = some false := hasInt_eq N hN [] c (by simp)
    have hmx : decide (List.length ([] : List Int) + List.length ([c] : List Int) ≤ maxN) = true := decide_eq_true (by unfold maxN; simp)
    rw [impl_codesOf.L1_eq, decide_eq_true (by simp), condT, i0, condT, g0, c1, condT, hh, bindV, notF, condT, hmx, condT, w, impl_codesOf.L1_eq, decide_eq_false (by simp), condF]
    rfl
  obtain ⟨n, rfl⟩ : ∃ n, N = n + 1 + 1 := ⟨N - 2, by omega⟩
  exact L n

theorem withP_nil (N : Nat) (hN : 60 < N) : impl_withPairs.F N ((0, []), []) = some (0, []) := by
  rw [impl_withPairs.F_eq, impl_copyInts.F_eq, decide_eq_true (by simp), condT, bindV]
  have L : ∀ n, impl_withPairs.L1 N (n + 1) [] (List.length ([] : List (Int × Int)) : Int) 0 0 [] = some (0, []) := by
    intro n
    rw [impl_withPairs.L1_eq, decide_eq_false (by simp), condF, codesOf_nil N hN, bindV]
  obtain ⟨n, hn⟩ : ∃ n, N = n + 1 := ⟨N - 1, by omega⟩
  have := L n
  rw [← hn] at this
  exact this
theorem or0 : bitOr .i64 0 0 = 0 ∧ bitOr .i64 0 2 = 2 := by
  constructor <;> kernel_rfl
theorem withP_one (N : Nat) (hN : 1048576 < N) (c m : Int) (hc : 1 ≤ c) (hm : m = 0 ∨ m = 2) : impl_withPairs.F N ((0, []), [(c, m)]) = some (m, [c]) := by
  rw [impl_withPairs.F_eq, impl_copyInts.F_eq, decide_eq_true (by simp), condT, bindV]
  have ho : bitOr .i64 0 m = m := by rcases hm with rfl | rfl; exact or0.1; exact or0.2
  have L : ∀ n, impl_withPairs.L1 N (n + 1 + 1) [(c, m)] (List.length [(c, m)] : Int) 0 0 [] = some (m, [c]) := by
    intro n
    have i0 : inRange 0 (List.length [(c, m)]) = true := by simp [inRange]
    have g0 : nth ((0 : Int), (0 : Int)) [(c, m)] 0 = (c, m) := rfl
    have w : IntKind.wrap .i64 ((0 : Int) + 1) = 1 := wrap64 (by omega) (by omega)
    have hmx : decide (List.length ([] : List Int) + List.length ([c] : List Int) ≤ maxN) = true := decide_eq_true (by unfold maxN; simp)
    rw [impl_withPairs.L1_eq, decide_eq_true (by simp), condT, i0, condT, g0]
    simp only []
    rw [hmx, condT, w, ho, impl_withPairs.L1_eq, decide_eq_false (by simp), condF, List.nil_append, codesOf_one N hN c hc, bindV]
  obtain ⟨n, hn⟩ : ∃ n, N = n + 1 + 1 := ⟨N - 2, by omega⟩
  have := L n
  rw [← hn] at this
  exact this

theorem Macro_L1 (N : Nat) (hN : 1048576 < N) (s : List UInt8) (hs : ∀ b ∈ s, b ∈ okB) (hl : s.length ≤ 60) : ∀ (n i : Nat) (o : List Rpt), i ≤ s.length → s.length < n + i → o.length = 2 * i →
    impl_MacroReports.L1 N n (stepsOf s) ((stepsOf s).length : Int) (i : Int) 0 [] o [] = some (o ++ repsOf (s.drop i)) := by
  intro n
  induction n with
  | zero => intro i o h1 h2; omega
  | succ n ih =>
    intro i o h1 h2 h3
    have hsl : (stepsOf s).length = s.length := by simp [stepsOf]
    rw [impl_MacroReports.L1_eq]
    by_cases hi : i < s.length
    · have hb := getD_okB hs hi
      obtain ⟨f1, f2, f3⟩ := okB_fact hb
      have ws : IntKind.wrap .i64 ((i : Int) + 1) = ((i + 1 : Nat) : Int) := wrap_succ (by omega)
      have hi' : i < (stepsOf s).length := by omega
      rw [decide_eq_true (by omega : (i : Int) < ((stepsOf s).length : Int)), condT, inRange_nat, decide_eq_true hi', condT, nth_nat, stepsOf_getD hi, ws, drop_cons 0 s i hi]
      have z0 : ((0 : Int) == 0) = true := rfl
      have x1 : decide (List.length ([] : List (Int × Int)) ≤ maxN) = true := decide_eq_true (by simp)
      have x2 : ∀ p : Int × Int, decide (List.length ([] : List (Int × Int)) + List.length ([p] : List (Int × Int)) ≤ maxN) = true := fun p => decide_eq_true (by unfold maxN; simp)
      have x3 : ∀ r : Rpt, decide (List.length o + List.length ([r] : List Rpt) ≤ maxN) = true := fun r => decide_eq_true (by unfold maxN; simp; omega)
      have x4 : ∀ r q : Rpt, decide (List.length (o ++ [r]) + List.length ([q] : List Rpt) ≤ maxN) = true := fun r q => decide_eq_true (by unfold maxN; simp; omega)
      have hw : impl_withPairs.F N ((0, []), [] ++ [kb (s.getD i 0)]) = some ((kb (s.getD i 0)).2, [(kb (s.getD i 0)).1]) := withP_one N hN _ _ f1.1 f2
      simp only [z0, condT, x1, x2, x3, x4, hw, withP_nil N (by omega), bindV]
      rw [ih (i + 1) _ (by omega) (by omega) (by simp; omega)]
      unfold repsOf
      rw [List.flatMap_cons]
      simp [rB]
    · rw [decide_eq_false (by omega : ¬ (i : Int) < ((stepsOf s).length : Int)), condF, List.drop_eq_nil_of_le (by omega)]
      simp [repsOf]
theorem Held_nil (N : Nat) (hN : 0 < N) : impl_IsHeld.F N [] = some true := by
  obtain ⟨n, rfl⟩ : ∃ n, N = n + 1 := ⟨N - 1, by omega⟩
  rw [impl_IsHeld.F_eq, impl_IsHeld.L1_eq, decide_eq_false (by simp), condF]
theorem Report_nil (N : Nat) (hN : 60 < N) : impl_ReportOf.F N [] = some (0, []) := by
  rw [impl_ReportOf.F_eq, Held_nil N (by omega), bindV, notT, condF]
  have L : ∀ n, impl_ReportOf.L1 N (n + 1) [] (List.length ([] : List (Int × Int × Int × Int × Int)) : Int) 0 0 [] = some (0, []) := by
    intro n
    rw [impl_ReportOf.L1_eq, decide_eq_false (by simp), condF, codesOf_nil N hN, bindV]
  obtain ⟨n, hn⟩ : ∃ n, N = n + 1 := ⟨N - 1, by omega⟩
  have := L n
  rw [← hn] at this
  exact this
theorem Macro_eq (N : Nat) (hN : 1048576 < N) (s : List UInt8) (hs : ∀ b ∈ s, b ∈ okB) (hl : s.length ≤ 8) : impl_MacroReports.F N ([], stepsOf s) = some (repsOf s) := by
  have e := Macro_L1 N hN s hs (by omega) N 0 [] (by omega) (by omega) rfl
  rw [Int.natCast_zero, List.drop_zero, List.nil_append] at e
  rw [impl_MacroReports.F_eq, Held_nil N (by omega), bindV, notT, condF, IsMacro_eq N (by omega) s hs hl, bindV, notT, condF, Report_nil N (by omega), bindV]
  exact e

theorem typed_reps (s : List UInt8) (hs : ∀ b ∈ s, b ∈ okB) : typed (0, []) (repsOf s) = s := by
  induction s with
  | nil => rfl
  | cons b s ih =>
    have ih := ih fun x hx => hs x (List.mem_cons_of_mem _ hx)
    obtain ⟨f1, f2, f3⟩ := okB_fact (hs b List.mem_cons_self)
    have e : repsOf (b :: s) = ((kb b).2, [(kb b).1]) :: (0, []) :: repsOf s := rfl
    have r0 : rpB (0, []) = true := by decide
    have r1 : rpB ((kb b).2, [(kb b).1]) = true := by
      unfold rpB okK okK
      simp only [Bool.and_eq_true, decide_eq_true_eq, Bool.and_true]
      omega
    have n1 : nk (0, []) ((kb b).2, [(kb b).1]) = [(kb b).1] := by
      unfold nk
      rw [r0, r1]; rfl
    have n2 : nk ((kb b).2, [(kb b).1]) (0, []) = [] := by
      unfold nk
      rw [r0, r1]; rfl
    rw [e, typed, typed, n1, n2, ih]
    unfold tx
    simp only [List.flatMap_cons, List.flatMap_nil, List.append_nil, f3, List.nil_append, List.singleton_append]

theorem Chars_L1 (N : Nat) (hN : 60 < N) (s : List UInt8) (hs : ∀ b ∈ s, b ∈ okB) (hl : s.length ≤ 60) : ∀ (n i : Nat), i ≤ s.length → s.length < n + i →
    laws_FnCharacters.L1 N n s (i : Int) = some true := by
  intro n
  induction n with
  | zero => intro i h1 h2; omega
  | succ n ih =>
    intro i h1 h2
    rw [laws_FnCharacters.L1_eq]
    by_cases hi : i < s.length
    · have hb := getD_okB hs hi
      obtain ⟨f1, f2, f3⟩ := okB_fact hb
      have ws : IntKind.wrap .i64 ((i : Int) + 1) = ((i + 1 : Nat) : Int) := wrap_succ (by omega)
      have hbd : bounds (i : Int) ((i + 1 : Nat) : Int) s.length = true := by
        unfold bounds
        simp only [Bool.and_eq_true, decide_eq_true_eq]
        omega
      have hk : impl_CharOf.F N (ky ((s.getD i 0).toNat : Int)) = some [s.getD i 0] := by
        have := CharOf_i N (kb (s.getD i 0)).1 (kb (s.getD i 0)).2
        rw [f3] at this
        exact this
      have hd : List.drop i (List.take (i + 1) s) = [s.getD i 0] := by
        rw [List.drop_take, drop_cons 0 s i hi, show i + 1 - i = 1 by omega]; rfl
      rw [decide_eq_true (by omega : (i : Int) < (s.length : Int)), condT, inRange_nat, decide_eq_true hi, condT, nth_nat, KeyOf_n N hN, bindV, ws, hk, bindV, hbd, condT, Int.toNat_natCast, Int.toNat_natCast, hd, beq_self_eq_true, notT, condF]
      exact ih (i + 1) (by omega) (by omega)
    · rw [decide_eq_false (by omega : ¬ (i : Int) < (s.length : Int)), condF]

theorem Characters_F (code : List Int) : laws_FnCharacters.F 2000000 code = some true := by
  rw [laws_FnCharacters.F_eq, laws_big.F_eq, bindV]
  by_cases hb : (code.length : Int) > 1048576
  · rw [decide_eq_true hb]; rfl
  · rw [decide_eq_false hb, condF]
    have hm : code.length ≤ maxN := by unfold maxN; omega
    obtain ⟨s, e, hl, hs⟩ := TextD 2000000 (by omega) code hm (by omega)
    have hrl := repsOf_len s
    have hrk : ∀ r ∈ repsOf s, r.2.length ≤ 1 := by
      intro r hr
      unfold repsOf at hr
      obtain ⟨b, _, hr⟩ := List.mem_flatMap.1 hr
      simp only [rB, List.mem_cons, List.not_mem_nil, or_false] at hr
      rcases hr with rfl | rfl <;> simp
    have ht := TypedText_eq 2000000 (by omega) (0, []) (by unfold smallR; simp) (repsOf s) 1 (by omega) hrk (by omega) (by omega)
    rw [typed_reps s hs] at ht
    have hc := Chars_L1 2000000 (by omega) s hs (by omega) 2000000 0 (by omega) (by omega)
    rw [Int.natCast_zero] at hc
    rw [e, bindV, TextR_eq 2000000 (by omega) s hs hl, bindV, TextM_eq 2000000 (by omega) s hs hl, bindV]
    simp only [Macro_eq 2000000 (by omega) s hs hl, bindV, notT, condF, IsMacro_eq 2000000 (by omega) s hs hl, ht, beq_self_eq_true]
    exact hc
end Go.Kb
