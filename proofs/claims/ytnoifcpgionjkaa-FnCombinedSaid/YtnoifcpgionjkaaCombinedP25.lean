/- Combinations in plain functions; the program's walks compute them. -/
import Derived.Test.YtnoifcpgionjkaaCombinedP24
namespace Go.Kb

/-- has a combo all switches of a set? -/
def fitB (s k : Int) : Bool := bitAndNot .i64 s k == 0
def win (l : List Cb) (s : Int) : Bool := l.any fun c => fitB s c.1
def whlStep (s : Int) (r : Int × Bool) (c : Cb) : Int × Bool := bif c.1 == s then (c.2, r.2) else bif fitB s c.1 then (r.1, true) else r
def whl (l : List Cb) (s : Int) : Int × Bool := l.foldl (whlStep s) (-1, false)
def isSw (e : Ev) : Bool := isEv e.1 e.2.1 && decide (e.2.1 < 24)
def bitK (k : Int) : Int := shiftL .i64 1 k
def pickO (l : List Cb) (s n at_ : Int) : Int × Int × Int := bif decide ((whl l s).1 ≥ 0) then (n, at_, (whl l s).1) else (1, at_, -1)

/-- what is decided about a down, from what follows it -/
def mgo (l : List Cb) (now tend : Int) : List Ev → Int → Int → Int × Int × Int
  | [], s, n => bif decide (now < tend) then (0, 0, -1) else pickO l s n tend
  | e :: r, s, n =>
    bif !isSw e then (0, 0, -1)
    else bif decide (e.1 ≥ tend) then pickO l s n (minI tend e.1)
    else bif !e.2.2 then pickO l s n (minI tend e.1)
    else bif !win l (bitOr .i64 s (bitK e.2.1)) then pickO l s n (minI tend e.1)
    else bif decide ((whl l (bitOr .i64 s (bitK e.2.1))).1 ≥ 0) && !(whl l (bitOr .i64 s (bitK e.2.1))).2 then (n + 1, e.1, (whl l (bitOr .i64 s (bitK e.2.1))).1)
    else mgo l now tend r (bitOr .i64 s (bitK e.2.1)) (n + 1)

def mtc (l : List Cb) (term now : Int) : List Ev → Int × Int × Int
  | [] => (0, 0, -1)
  | f :: r =>
    bif !isSw f then (0, 0, -1)
    else bif !f.2.2 then (0, 0, -1)
    else bif !win l (bitK f.2.1) then (1, f.1, -1)
    else mgo l now (IntKind.wrap .i64 (f.1 + term)) r (bitK f.2.1) 1

/-- a switch goes up: the active combo that has it -/
def upGo (key at_ : Int) : List Ev → Option (List Ev × List Ev)
  | [] => none
  | a :: r =>
    bif bitAnd .i64 (shiftR .i64 a.2.1 key) 1 == 0 then (match upGo key at_ r with | some (o, q) => some (o, a :: q) | none => none)
    else some ((bif a.2.2 then [(at_, (a.1, false))] else []), (bif bitAndNot .i64 a.2.1 (bitK key) == 0 then r else (a.1, (bitAndNot .i64 a.2.1 (bitK key), false)) :: r))

def keysOf (l : List Cb) (out : Int) : Int := match l.find? (fun c => c.2 == out) with | some c => c.1 | none => 0

structure Sc where
  q : List Ev
  ck : Int
  dn : Int
  ac : List Ev

def stepC (l : List Cb) (term now : Int) (s : Sc) : Option (List Ev × Sc) :=
  match s.q with
  | [] => none
  | e :: r =>
    bif !e.2.2 then (match upGo e.2.1 (maxI s.ck e.1) s.ac with
      | some (o, ac) => some (o, ⟨r, maxI s.ck e.1, s.dn, ac⟩)
      | none => some ([(maxI s.ck e.1, (e.2.1, false))], ⟨r, maxI s.ck e.1, bitAndNot .i64 s.dn (bitK e.2.1), s.ac⟩))
    else bif (mtc l term now (e :: r)).1 == 0 then none
    else bif decide ((mtc l term now (e :: r)).2.2 < 0) then
      some ([(maxI (maxI s.ck e.1) (mtc l term now (e :: r)).2.1, (e.2.1, true))], ⟨(e :: r).drop (mtc l term now (e :: r)).1.toNat, maxI (maxI s.ck e.1) (mtc l term now (e :: r)).2.1, bitOr .i64 s.dn (bitK e.2.1), s.ac⟩)
    else
      some ([(maxI (maxI s.ck e.1) (mtc l term now (e :: r)).2.1, ((mtc l term now (e :: r)).2.2, true))], ⟨(e :: r).drop (mtc l term now (e :: r)).1.toNat, maxI (maxI s.ck e.1) (mtc l term now (e :: r)).2.1, s.dn, s.ac ++ [((mtc l term now (e :: r)).2.2, (keysOf l (mtc l term now (e :: r)).2.2, true))]⟩)

def runC (l : List Cb) (term now : Int) : Nat → Sc → List Ev × Sc
  | 0, s => ([], s)
  | n + 1, s => match stepC l term now s with
    | none => ([], s)
    | some (o, s') => (o ++ (runC l term now n s').1, (runC l term now n s').2)

/-! ### the program's walks -/
theorem within_L1 (N : Nat) (s : Int) (l : List Cb) (hl : l.length ≤ 1048576) : ∀ (n i : Nat), i ≤ l.length → l.length < n + i →
    impl_within.L1 N n s l (l.length : Int) (i : Int) = some (win (l.drop i) s) := by
  intro n
  induction n with
  | zero => intro i h1 h2; omega
  | succ n ih =>
    intro i h1 h2
    rw [impl_within.L1_eq]
    by_cases hi : i < l.length
    · have ws : IntKind.wrap .i64 ((i : Int) + 1) = ((i + 1 : Nat) : Int) := wrap_succ (by omega)
      simp only [Int.ofNat_lt, hi, decide_true, condT, inRange_nat, nth_nat, ws, ih (i + 1) (by omega) (by omega)]
      rw [drop_cons (0, 0) l i hi]
      show _ = some (fitB s (l.getD i (0, 0)).1 || win (l.drop (i + 1)) s)
      unfold fitB
      cases bitAndNot .i64 s (l.getD i (0, 0)).1 == 0 with
      | true => simp only [condT, Bool.true_or]
      | false => simp only [condF, Bool.false_or]
    · simp only [Int.ofNat_lt, hi, decide_false, condF]
      rw [List.drop_of_length_le (by omega)]; rfl

theorem within_eq (N : Nat) (hN : 1048576 < N) (s : Int) (l : List Cb) (hl : l.length ≤ 1048576) : impl_within.F N (l, s) = some (win l s) := by
  rw [impl_within.F_eq]
  have h := within_L1 N s l hl N 0 (by omega) (by omega)
  rw [List.drop_zero] at h
  exact h

theorem whole_L1 (N : Nat) (s : Int) (l : List Cb) (hl : l.length ≤ 1048576) : ∀ (n i : Nat) (o : Int) (m : Bool), i ≤ l.length → l.length < n + i →
    impl_wholeCombo.L1 N n s o m l (l.length : Int) (i : Int) = some ((l.drop i).foldl (whlStep s) (o, m)) := by
  intro n
  induction n with
  | zero => intro i o m h1 h2; omega
  | succ n ih =>
    intro i o m h1 h2
    rw [impl_wholeCombo.L1_eq]
    by_cases hi : i < l.length
    · have ws : IntKind.wrap .i64 ((i : Int) + 1) = ((i + 1 : Nat) : Int) := wrap_succ (by omega)
      simp only [Int.ofNat_lt, hi, decide_true, condT, inRange_nat, nth_nat, ws, ih (i + 1) _ _ (by omega) (by omega)]
      rw [drop_cons (0, 0) l i hi, List.foldl_cons]
      show _ = some (List.foldl (whlStep s) (bif (l.getD i (0, 0)).1 == s then ((l.getD i (0, 0)).2, m) else bif fitB s (l.getD i (0, 0)).1 then (o, true) else (o, m)) _)
      unfold fitB
      cases (l.getD i (0, 0)).1 == s with
      | true => simp only [condT]
      | false =>
        simp only [condF]
        cases bitAndNot .i64 s (l.getD i (0, 0)).1 == 0 with
        | true => simp only [condT]
        | false => simp only [condF]
    · simp only [Int.ofNat_lt, hi, decide_false, condF]
      rw [List.drop_of_length_le (by omega)]; rfl

theorem whole_eq (N : Nat) (hN : 1048576 < N) (s : Int) (l : List Cb) (hl : l.length ≤ 1048576) : impl_wholeCombo.F N (l, s) = some (whl l s) := by
  rw [impl_wholeCombo.F_eq]
  have h := whole_L1 N s l hl N 0 (-1) false (by omega) (by omega)
  rw [List.drop_zero] at h
  exact h

theorem isSw_eq (N : Nat) (e : Ev) : impl_isSwitchEvent.F N e = some (isSw e) := by
  rw [impl_isSwitchEvent.F_eq, IsEv_impl N e.1 e.2, bindV]
  unfold isSw
  cases isEv e.1 e.2.1 with
  | true => simp only [condT, Bool.true_and]
  | false => simp only [condF, Bool.false_and]

theorem isSw_spec {e : Ev} (h : isSw e = true) : 0 ≤ e.1 ∧ e.1 ≤ 1000000 ∧ 0 ≤ e.2.1 ∧ e.2.1 ≤ 23 := by
  unfold isSw isEv at h
  simp only [Bool.and_eq_true, decide_eq_true_eq] at h
  omega
end Go.Kb
