/- Reports of a text: what both sides compute; the exact row of TextReports. -/
import Derived.Test.YticidpdbkjgebaaDoorExactTextReportsP43
import Derived.Test.YticidpdbkjgebaaDoorExactTextReportsP71
import Derived.Test.YticidpdbkjgebaaDoorExactTextReportsF23
namespace Go.Kb
set_option maxRecDepth 100000

/-! ### the characters at any bound on the steps -/
theorem bif_up {α : Type} {b : Bool} {x x' y y' : Option α} {r : α} (h1 : x = some r → x' = some r) (h2 : y = some r → y' = some r) (h : (bif b then x else y) = some r) : (bif b then x' else y') = some r := by
  cases b
  · exact h2 h
  · exact h1 h
theorem sp_up (s : List UInt8) (by_ : Int) (r : List (List UInt8)) : ∀ (n : Nat) (f i : Int) (o : List (List UInt8)), sp s by_ n f i o = some r → sp s by_ (n + 1) f i o = some r := by
  intro n
  induction n with
  | zero => intro f i o h; cases h
  | succ n ih =>
    intro f i o h
    rw [sp] at h ⊢
    revert h
    refine bif_up (bif_up (bif_up (bif_up (ih _ _ _) id) id) (bif_up (bif_up (bif_up (bif_up (ih _ _ _) id) id) (ih _ _ _)) id)) id
theorem sp_ups (s : List UInt8) (by_ : Int) (r : List (List UInt8)) (f i : Int) (o : List (List UInt8)) (n : Nat) : ∀ k : Nat, sp s by_ n f i o = some r → sp s by_ (n + k) f i o = some r
  | 0, h => h
  | k + 1, h => sp_up s by_ r (n + k) f i o (sp_ups s by_ r f i o n k h)
theorem l5Names_up (N : Nat) (hN : 200 ≤ N) : spec_l5Names.F N () = some tblNames := by
  have h : spec_SplitText.F N (codeNames, 32) = some tblNames := by
    rw [spec_SplitText.F_eq, sp_eq]
    obtain ⟨k, rfl⟩ : ∃ k, N = 200 + k := ⟨N - 200, by omega⟩
    exact sp_ups _ _ _ _ _ _ 200 k spNames
  rw [spec_l5Names.F_eq]
  exact (congrArg (fun z => bindO z fun r1 => some r1) h)
theorem CodeName_up (N : Nat) (hN : 200 ≤ N) (c : Int) : spec_CodeName.F N c = some (cn c) := by
  rw [spec_CodeName.F_eq, l1In_eq, bindO_val, l5Names_up N hN]
  unfold cn inn
  by_cases h : 1 ≤ c ∧ c ≤ 56
  · obtain ⟨k, rfl⟩ : ∃ k : Nat, c = (k : Int) + 1 := ⟨(c - 1).toNat, by omega⟩
    have hk : k < 56 := by omega
    have e : (k : Int) + 1 - 1 = (k : Int) := by omega
    have w : IntKind.wrap .i64 ((k : Int)) = (k : Int) := wrap64 (by omega) (by omega)
    have hl : tblNames.length = 56 := rfl
    have d1 : decide (1 ≤ (k : Int) + 1 ∧ (k : Int) + 1 ≤ 56) = true := decide_eq_true h
    have d2 : (decide (1 ≤ (k : Int) + 1) && decide ((k : Int) + 1 ≤ 56)) = true := by rw [decide_eq_true h.1, decide_eq_true h.2]; rfl
    rw [d1, d2, bindO_val, e, w, hl, inRange_nat, decide_eq_true hk]
    rfl
  · have d1 : decide (1 ≤ c ∧ c ≤ 56) = false := decide_eq_false h
    have d2 : (decide (1 ≤ c) && decide (c ≤ 56)) = false := by
      rw [Bool.and_eq_false_iff, decide_eq_false_iff_not, decide_eq_false_iff_not]; omega
    rw [d1, d2]
    rfl
theorem CharOf_up (N : Nat) (hN : 200 ≤ N) (c m : Int) : spec_CharOf.F N (c, m) = some (ch c m) := by
  refine Eq.trans ?_ (char_same c m).1
  rw [spec_CharOf.F_eq]
  simp only [l1In_eq, CodeName_up N hN]
  rfl
theorem KeyS_L2 (N n1 : Nat) (hN : 200 ≤ N) (char m : Int) : ∀ (j c n2 : Nat), c + j = 57 → j < n2 →
    spec_KeyOf.L2 N n1 n2 char m (c : Int) = match fk char m j c with | some r => some r | none => spec_KeyOf.L1 N n1 char (IntKind.wrap .i64 (m + 2)) := by
  intro j
  induction j with
  | zero =>
    intro c n2 h1 h2
    obtain ⟨n2, rfl⟩ : ∃ k, n2 = k + 1 := ⟨n2 - 1, by omega⟩
    rw [spec_KeyOf.L2_eq, decide_eq_false (by omega)]
    rfl
  | succ j ih =>
    intro c n2 h1 h2
    obtain ⟨n2, rfl⟩ : ∃ k, n2 = k + 1 := ⟨n2 - 1, by omega⟩
    rw [spec_KeyOf.L2_eq, decide_eq_true (by omega), condT, CharOf_up N hN, bindV, wrap_succ (by omega), ih (c + 1) n2 (by omega) (by omega), fk_succ]
    cases ch (c : Int) m == bytesOf [char] <;> rfl
theorem KeyS_up' (N : Nat) (hN : 200 ≤ N) (char : Int) (n : Nat) : spec_KeyOf.L1 N (n + 1 + 1 + 1) char 0 = some (ky char) := by
  rw [spec_KeyOf.L1_eq, decide_eq_true (by omega), condT]
  have h := KeyS_L2 N (n + 1 + 1) hN char 0 56 1 N (by omega) (by omega)
  refine h.trans ?_
  unfold ky
  cases fk char 0 56 1 with
  | some r => rfl
  | none =>
    simp only []
    have w : IntKind.wrap .i64 ((0 : Int) + 2) = 2 := wrap64 (by omega) (by omega)
    rw [w, spec_KeyOf.L1_eq, decide_eq_true (by omega), condT]
    have h := KeyS_L2 N (n + 1) hN char 2 56 1 N (by omega) (by omega)
    refine h.trans ?_
    cases fk char 2 56 1 with
    | some r => rfl
    | none =>
      simp only []
      have w : IntKind.wrap .i64 ((2 : Int) + 2) = 4 := wrap64 (by omega) (by omega)
      rw [w, spec_KeyOf.L1_eq, decide_eq_false (by omega), condF]
theorem KeyS_up (N : Nat) (hN : 200 ≤ N) (char : Int) : spec_KeyOf.F N char = some (ky char) := by
  rw [spec_KeyOf.F_eq]
  obtain ⟨n, rfl⟩ : ∃ n, N = n + 1 + 1 + 1 := ⟨N - 3, by omega⟩
  exact KeyS_up' (n + 1 + 1 + 1) hN char n
theorem KeyI_L2 (N n1 : Nat) (char m t8 t9 : Int) (o : List Int) : ∀ (j c n2 : Nat), c + j = 57 → j < n2 →
    impl_KeyOf.L2 N n1 n2 char m (c : Int) t8 t9 o = match fk char m j c with | some r => some r | none => impl_KeyOf.L1 N n1 char t8 (IntKind.wrap .i64 (t9 + 1)) o := by
  intro j
  induction j with
  | zero =>
    intro c n2 h1 h2
    obtain ⟨n2, rfl⟩ : ∃ k, n2 = k + 1 := ⟨n2 - 1, by omega⟩
    rw [impl_KeyOf.L2_eq, decide_eq_false (by omega)]
    rfl
  | succ j ih =>
    intro c n2 h1 h2
    obtain ⟨n2, rfl⟩ : ∃ k, n2 = k + 1 := ⟨n2 - 1, by omega⟩
    rw [impl_KeyOf.L2_eq, decide_eq_true (by omega), condT, CharOf_i, bindV, wrap_succ (by omega), ih (c + 1) n2 (by omega) (by omega), fk_succ]
    cases ch (c : Int) m == bytesOf [char] <;> rfl
theorem KeyI_up' (N : Nat) (hN : 60 < N) (char : Int) (n : Nat) : impl_KeyOf.L1 N (n + 1 + 1 + 1) char 2 0 [0, 2] = some (ky char) := by
  have i0 : inRange 0 (List.length [(0 : Int), 2]) = true := by decide
  have i1 : inRange 1 (List.length [(0 : Int), 2]) = true := by decide
  have g0 : List.getD [(0 : Int), 2] (Int.toNat 0) 0 = 0 := by decide
  have g1 : List.getD [(0 : Int), 2] (Int.toNat 1) 0 = 2 := by decide
  rw [impl_KeyOf.L1_eq, decide_eq_true (by omega), condT, i0, condT, g0]
  have h := KeyI_L2 N (n + 1 + 1) char 0 2 0 [0, 2] 56 1 N (by omega) (by omega)
  refine h.trans ?_
  unfold ky
  cases fk char 0 56 1 with
  | some r => rfl
  | none =>
    simp only []
    have w : IntKind.wrap .i64 ((0 : Int) + 1) = 1 := wrap64 (by omega) (by omega)
    rw [w, impl_KeyOf.L1_eq, decide_eq_true (by omega), condT, i1, condT, g1]
    have h := KeyI_L2 N (n + 1) char 2 2 1 [0, 2] 56 1 N (by omega) (by omega)
    refine h.trans ?_
    cases fk char 2 56 1 with
    | some r => rfl
    | none =>
      simp only []
      have w : IntKind.wrap .i64 ((1 : Int) + 1) = 2 := wrap64 (by omega) (by omega)
      rw [w, impl_KeyOf.L1_eq, decide_eq_false (by omega), condF]
theorem KeyI_up (N : Nat) (hN : 60 < N) (char : Int) : impl_KeyOf.F N char = some (ky char) := by
  rw [impl_KeyOf.F_eq]
  obtain ⟨n, rfl⟩ : ∃ n, N = n + 1 + 1 + 1 := ⟨N - 3, by omega⟩
  exact KeyI_up' (n + 1 + 1 + 1) hN char n

/-! ### the reports of a text -/
def kyB (b : UInt8) : Int × Int := ky (b.toNat : Int)
def rpV : List UInt8 → List Rpt → List Rpt × Bool
  | [], o => (o, true)
  | b :: t, o => bif (kyB b).1 == 0 then ([], false) else rpV t (o ++ [((kyB b).2, [(kyB b).1]), (0, [])])
def txV (s : List UInt8) : List Rpt × Bool := bif decide ((s.length : Int) > 60) then ([], false) else rpV s []
theorem rpV_small : ∀ (s : List UInt8) (o : List Rpt), s.length ≤ 60 → smallRS o → o.length + 2 * s.length ≤ 1000 → smallRS (rpV s o).1
  | [], o, _, h, _ => h
  | b :: t, o, hs, h, hl => by
    unfold rpV
    cases (kyB b).1 == 0
    · rw [condF]
      simp only [List.length_cons] at hs hl
      refine rpV_small t _ (by omega) ⟨by simp; omega, fun x hx => ?_⟩ (by simp; omega)
      rcases List.mem_append.1 hx with g | g
      · exact h.2 x g
      · simp only [List.mem_cons, List.not_mem_nil, or_false] at g
        rcases g with rfl | rfl
        · show [_].length ≤ 1048576; simp
        · show ([] : List Int).length ≤ 1048576; simp
    · rw [condT]; exact ⟨by simp, fun x hx => by cases hx⟩
theorem txV_small (s : List UInt8) : smallRS (txV s).1 := by
  unfold txV
  by_cases h : (s.length : Int) > 60
  · rw [decide_eq_true h, condT]; exact ⟨by simp, fun x hx => by cases hx⟩
  · rw [decide_eq_false h, condF]; exact rpV_small s [] (by omega) ⟨by simp, fun x hx => by cases hx⟩ (by simp; omega)
theorem TextS_L1 (N : Nat) (hN : 1048576 < N) (s : List UInt8) (hs : s.length ≤ 60) : ∀ (n i : Nat) (o : List Rpt), i ≤ s.length → s.length < n + i → o.length ≤ 2 * i →
    spec_TextReports.L1 N n s (i : Int) o = some (rpV (s.drop i) o) := by
  intro n
  induction n with
  | zero => intro i o h1 h2; omega
  | succ n ih =>
    intro i o h1 h2 h3
    rw [spec_TextReports.L1_eq]
    by_cases hi : i < s.length
    · have hm : ∀ a b : Rpt, decide (o.length + List.length [a, b] ≤ maxN) = true := fun a b => decide_eq_true (by unfold maxN; show o.length + 2 ≤ _; omega)
      rw [decide_eq_true (Int.ofNat_lt.mpr hi), condT, decide_eq_true (show (s.length : Int) ≤ 60 by omega), condT, inRange_nat, decide_eq_true hi, condT, nth_nat, KeyS_up N (by omega), bindV, hm, condT, wrap_succ (by omega), drop_cons 0 s i hi]
      show (bif (kyB (s.getD i 0)).1 == 0 then some ([], false) else _) = some (bif (kyB (s.getD i 0)).1 == 0 then ([], false) else rpV (s.drop (i + 1)) _)
      cases (kyB (s.getD i 0)).1 == 0
      · rw [condF, condF]; exact ih (i + 1) _ (by omega) (by omega) (by simp; omega)
      · rw [condT, condT]
    · rw [decide_eq_false (by omega), condF, decide_eq_false (by omega), condF, List.drop_eq_nil_of_le (by omega)]; rfl
theorem TextS (N : Nat) (hN : 1048576 < N) (s : List UInt8) : spec_TextReports.F N s = some (txV s) := by
  rw [spec_TextReports.F_eq]
  unfold txV
  by_cases h : (s.length : Int) > 60
  · obtain ⟨n, rfl⟩ : ∃ n, N = n + 1 := ⟨N - 1, by omega⟩
    rw [spec_TextReports.L1_eq, decide_eq_true (by omega), condT, decide_eq_false (by omega), condF, decide_eq_true h, condT, condT]
  · rw [decide_eq_false h, condF]
    exact TextS_L1 N hN s (by omega) N 0 [] (by omega) (by omega) (by simp)

theorem TextI_L1 (N : Nat) (hN : 1048576 < N) (s : List UInt8) (hs : s.length ≤ 60) (lo : Nat) : ∀ (n i : Nat) (A : List RH) (o : List Rpt) (D : List HRow), i ≤ s.length → s.length < n + i → o.length ≤ 2 * i → lo ≤ D.length → OwnR D lo D.length A o →
    ∃ A' D', impl_TextReportsh.L1 N n s (i : Int) A D = some ((A', (rpV (s.drop i) o).2), D') ∧ D <+: D' ∧ OwnR D' lo D'.length A' (rpV (s.drop i) o).1 := by
  intro n
  induction n with
  | zero => intro i A o D h1 h2; omega
  | succ n ih =>
    intro i A o D h1 h2 h3 h4 h5
    have hl := h5.len
    rw [impl_TextReportsh.L1_eq]
    by_cases hi : i < s.length
    · have hm : ∀ a b : RH, decide (A.length + List.length [a, b] ≤ maxN) = true := fun a b => decide_eq_true (by unfold maxN; show A.length + 2 ≤ _; omega)
      rw [decide_eq_true (Int.ofNat_lt.mpr hi), condT, inRange_nat, decide_eq_true hi, condT, nth_nat, KeyI_up N (by omega), bindV, hm, condT, wrap_succ (by omega), drop_cons 0 s i hi]
      have e : rpV (s.getD i 0 :: s.drop (i + 1)) o = bif (kyB (s.getD i 0)).1 == 0 then ([], false) else rpV (s.drop (i + 1)) (o ++ [((kyB (s.getD i 0)).2, [(kyB (s.getD i 0)).1]), (0, [])]) := rfl
      rw [e]
      show ∃ A' D', (bif (kyB (s.getD i 0)).1 == 0 then some (([], false), D) else _) = _ ∧ _
      cases (kyB (s.getD i 0)).1 == 0
      · rw [condF, condF]
        have p1 := h5.push h4 (kyB (s.getD i 0)).2 [(kyB (s.getD i 0)).1]
        have p2 : OwnR (D ++ [HRow.row 2 (.int .i64) [(kyB (s.getD i 0)).1]]) (D.length + 1) (D.length + 1) [(0, none)] [(0, [])] := ownR_zero
        have p3 := p1.append p2 (by omega) (by omega)
        rw [List.append_assoc, List.append_assoc] at p3
        obtain ⟨A', D', e1, e2, e3⟩ := ih (i + 1) (A ++ [((kyB (s.getD i 0)).2, some (D.length, 0, List.length [(kyB (s.getD i 0)).1])), (0, none)]) (o ++ [((kyB (s.getD i 0)).2, [(kyB (s.getD i 0)).1]), (0, [])]) (D ++ [HRow.row 2 (.int .i64) [(kyB (s.getD i 0)).1]]) (by omega) (by omega) (by rw [List.length_append]; show _ + 2 ≤ _; omega) (by rw [List.length_append]; omega) (by rw [List.length_append]; exact p3)
        exact ⟨A', D', e1, (List.prefix_append _ _).trans e2, e3⟩
      · rw [condT, condT]; exact ⟨[], D, rfl, List.prefix_refl _, ownR_nil⟩
    · rw [decide_eq_false (by omega), condF, List.drop_eq_nil_of_le (by omega)]
      exact ⟨A, D, rfl, List.prefix_refl _, h5⟩
/-- reports by handles come out -/
def RsOut {β : Type} (r : Option ((List RH × β) × List HRow)) (D : List HRow) (v : List Rpt × β) : Prop :=
  ∃ A D', r = some ((A, v.2), D') ∧ D <+: D' ∧ OwnR D' D.length D'.length A v.1
theorem RsOut.call {β : Type} {r : Option ((List RH × β) × List HRow)} {D : List HRow} {v : List Rpt × β} (h : RsOut r (hhide D) v) :
    ∃ A D', r = some ((A, v.2), D') ∧ D <+: hmerge D D' ∧ OwnR (hmerge D D') D.length (hmerge D D').length A v.1 := by
  obtain ⟨A, D', e, p, o⟩ := h
  have o' := o.shown p (by rw [hide_len]; exact Nat.le_refl _)
  rw [hide_len] at o'
  exact ⟨A, D', e, (hide_more p).1, by rw [(hide_more p).2.1]; exact o'⟩
theorem TextI (N : Nat) (hN : 1048576 < N) (s : List UInt8) (D : List HRow) : RsOut (impl_TextReportsh.H N s D) D (txV s) := by
  rw [impl_TextReportsh.H_eq]
  unfold txV
  by_cases h : (s.length : Int) > 60
  · rw [decide_eq_true h, condT, condT]; exact ⟨[], D, rfl, List.prefix_refl _, ownR_nil⟩
  · rw [decide_eq_false h, condF, condF]
    exact TextI_L1 N hN s (by omega) D.length N 0 [] [] D (by omega) (by omega) (by simp) (by omega) ownR_nil

theorem markRS_eq (N : Nat) (hN : 1048576 < N) {A : List RH} {V : List Rpt} {lo hi : Nat} {D : List HRow} (o : OwnR D lo hi A V) (h : smallRS V) :
    ∃ k A' V' D', laws_markReportS.H N (A, 1) D = some ((k, A'), D') ∧ 0 ≤ k ∧ Fr lo hi D D' ∧ OwnR D' lo hi A' V' ∧ laws_heldReportS.F N (V', 1) = some k := by
  have hal := h.1
  obtain ⟨c', A', V', D', e1, e2, e3, _, _, _, e6, _, e8⟩ := markRS_L1 N hN lo hi N 0 1 A V D h (by omega) (by omega) (by omega) (by omega) o
  exact ⟨c', A', V', D', by rw [laws_markReportS.H_eq]; exact e1, by omega, e2, e3, by rw [laws_heldReportS.F_eq]; exact e8⟩

theorem ExactText (N : Nat) (hN : 1048576 < N) (s : List UInt8) (V : List Rpt × Bool) (hV : smallRS V.1)
    (G : List UInt8 → List HRow → Option ((List RH × Bool) × List HRow)) (hG : ∀ D, RsOut (G s D) D V) :
      (bindO (G s (hhide ([] : List HRow))) fun r2 =>
      bif List.all r2.1.1 (Ty.unok (hmerge ([] : List HRow) r2.2) (.pair (.int .i64) (.hnd (.int .i64)))) then
      bindO (laws_eqReportS.F N (List.map (Ty.unden (hmerge ([] : List HRow) r2.2) (.pair (.int .i64) (.hnd (.int .i64)))) r2.1.1, V.1)) fun r3 =>
      bif !r3 then
        some false
      else
        bif r2.1.2 != V.2 then
          some false
        else
          bindO (laws_markReportS.H N (r2.1.1, (1 : Int)) (hmerge ([] : List HRow) r2.2)) fun r4 =>
          bif List.all r4.1.2 (Ty.unok r4.2 (.pair (.int .i64) (.hnd (.int .i64)))) then
          bindO (laws_heldReportS.F N (List.map (Ty.unden r4.2 (.pair (.int .i64) (.hnd (.int .i64)))) r4.1.2, (1 : Int))) fun r5 =>
          bif decide (r5 < (0 : Int)) then
            some false
          else
            bif r5 != r4.1.1 then
              some false
            else
              bindO (G s (hhide r4.2)) fun r6 =>
              bif List.all r6.1.1 (Ty.unok (hmerge r4.2 r6.2) (.pair (.int .i64) (.hnd (.int .i64)))) then
              bindO (laws_eqReportS.F N (List.map (Ty.unden (hmerge r4.2 r6.2) (.pair (.int .i64) (.hnd (.int .i64)))) r6.1.1, V.1)) fun r7 =>
              bif !r7 then
                some false
              else
                bif r6.1.2 != V.2 then
                  some false
                else
                  bif List.all r4.1.2 (Ty.unok (hmerge r4.2 r6.2) (.pair (.int .i64) (.hnd (.int .i64)))) then
                  bindO (laws_heldReportS.F N (List.map (Ty.unden (hmerge r4.2 r6.2) (.pair (.int .i64) (.hnd (.int .i64)))) r4.1.2, (1 : Int))) fun r8 =>
                  bif decide (r8 < (0 : Int)) then
                    some false
                  else
                    bif r8 != r4.1.1 then
                      some false
                    else
                      some true
                  else none
              else none
          else none
      else none) = some true := by
  have bF : ∀ x : Bool, (x != x) = false := by decide
  have bI : ∀ x : Int, (x != x) = false := fun x => by simp
  obtain ⟨A, E, e, pre, o⟩ := (hG (hhide [])).call
  rw [e, bindV]
  dsimp only
  generalize hmerge [] E = M at *
  rw [o.unok, condT, o.un, eqReportS_eq N hN _ _ hV, bindV, decide_eq_true rfl, notT, condF, bF, condF]
  obtain ⟨k, A1, V1, D1, m1, m2, m3, m4, m5⟩ := markRS_eq N hN o hV
  rw [m1, bindV]
  dsimp only
  rw [m4.unok, condT, m4.un, m5, bindV, decide_eq_false (by omega), condF, bI, condF]
  obtain ⟨A2, E2, e2, pre2, o2⟩ := (hG (hhide D1)).call
  rw [e2, bindV]
  dsimp only
  generalize hmerge D1 E2 = M2 at *
  have m4' := m4.more pre2
  rw [o2.unok, condT, o2.un, eqReportS_eq N hN _ _ hV, bindV, decide_eq_true rfl, notT, condF, bF, condF, m4'.unok, condT, m4'.un, m5, bindV, decide_eq_false (by omega), condF, bI, condF]

theorem ExactTextReports_F (s : List UInt8) : laws_FnExactTextReports.F 2000000 s = some true := by
  rw [laws_FnExactTextReports.F_eq]
  generalize hNN : (2000000 : Nat) = N
  have hN : 1048576 < N := by omega
  by_cases hb : (s.length : Int) > 1048576
  · rw [decide_eq_true hb, condT]
  · rw [decide_eq_false hb, condF, TextS N hN, bindV]
    exact ExactText N hN s (txV s) (txV_small s) (impl_TextReportsh.H N) (TextI N hN s)
end Go.Kb
