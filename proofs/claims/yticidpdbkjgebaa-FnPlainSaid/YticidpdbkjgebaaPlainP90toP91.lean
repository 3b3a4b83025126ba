/- Actions, keymaps, held keys, reports, macros, engines and deciders as plain values. -/
import Derived.Test.YticidpdbkjgebaaPlainP0toP75
import Derived.Test.YticidpdbkjgebaaPlainF4toP31
import Derived.Test.YticidpdbkjgebaaKd
namespace Go.Kb
abbrev Act := Int × Int × Int × Int
abbrev Hd := Int × Act
abbrev Mp := Int × List (List Act)
abbrev MSt := Int × Int × Int
abbrev Eng := Mp × List (List MSt) × Int × List Hd × Int × Bool
abbrev Tmg := Int × Int × Int
abbrev Dcd := Eng × Tmg × List Ev × Int × Int × Int × Int
abbrev Snt := Int × Rpt
def okA (a : Act) : Prop :=
 ((a.1 = 0 \/ a.1 = 1 \/ a.1 = 10) /\ a.2.1 = 0 /\ a.2.2.1 = 0 /\ a.2.2.2 = 0) \/
 (a.1 = 2 /\ a.2.2.2 = 0 /\ 0 <= a.2.1 /\ a.2.1 <= 56 /\ 0 <= a.2.2.1 /\ a.2.2.1 <= 15 /\ (a.2.1 ≠ 0 \/ a.2.2.1 ≠ 0)) \/
 ((a.1 = 3 \/ a.1 = 4) /\ a.2.1 = 0 /\ a.2.2.1 = 0 /\ 1 <= a.2.2.2 /\ a.2.2.2 <= 3) \/
 ((a.1 = 5 \/ a.1 = 9) /\ a.2.1 = 0 /\ a.2.2.1 = 0 /\ 0 <= a.2.2.2 /\ a.2.2.2 <= 3) \/
 (a.1 = 6 /\ 1 <= a.2.1 /\ a.2.1 <= 56 /\ 1 <= a.2.2.1 /\ a.2.2.1 <= 15 /\ a.2.2.2 = 0) \/
 (a.1 = 7 /\ 1 <= a.2.1 /\ a.2.1 <= 56 /\ a.2.2.1 = 0 /\ 1 <= a.2.2.2 /\ a.2.2.2 <= 3) \/
 (a.1 = 8 /\ a.2.1 = 0 /\ 1 <= a.2.2.1 /\ a.2.2.1 <= 15 /\ a.2.2.2 = 0)
instance (a : Act) : Decidable (okA a) := by unfold okA; infer_instance
def isA (a : Act) : Bool := decide (okA a)
def isTH (a : Act) : Bool := isA a && decide (a.1 = 6 \/ a.1 = 7)
def tapO (a : Act) : Act := bif isTH a then (2, a.2.1, 0, 0) else a
def holdO (a : Act) : Act := bif isTH a then (bif a.1 == 6 then (2, 0, a.2.2.1, 0) else (3, 0, 0, a.2.2.2)) else a
def cellB (nl : Int) (first : Bool) (a : Act) : Bool := isA a && (!(first && a.1 == 1) && !(!(a.1 == 9) && decide (nl <= a.2.2.2)))
def layB (keys nl : Int) (first : Bool) (l : List Act) : Bool := decide ((l.length : Int) = keys) && l.all (cellB nl first)
def laysB (keys nl : Int) : Bool -> List (List Act) -> Bool
 | _, [] => true
 | f, l :: r => layB keys nl f l && laysB keys nl false r
def isM (m : Mp) : Bool := decide (1 <= m.1 /\ m.1 <= 32 /\ 1 <= m.2.length /\ m.2.length <= 4) && laysB m.1 m.2.length true m.2
def bitB (x k : Int) : Bool := zBg .i64 (zCA .i64 x k) 1 == 1
def cellAt (ls : List (List Act)) (i : Nat) (key : Int) : Act := (ls.getD i []).getD key.toNat (0, 0, 0, 0)
def layN (ls : List (List Act)) (on key : Int) : Nat -> Nat
 | 0 => 0
 | i + 1 => bif bitB on ((i + 1 : Nat) : Int) && !((cellAt ls (i + 1) key).1 == 1) then i + 1 else layN ls on key i
def actN (ls : List (List Act)) (on key : Int) : Act := cellAt ls (layN ls on key (ls.length - 1)) key
def bit1 (k : Int) : Int := zBS .i64 1 k
def kindB (k : Int) : Bool := !decide (k = 1 \/ k = 6 \/ k = 7)
def hdGo : Int -> List Hd -> Bool
 | _, [] => true
 | s, h :: r => decide (0 <= h.1 /\ h.1 <= 31) && (!bitB s h.1 && ((isA h.2 && kindB h.2.1) && hdGo (bitOr .i64 s (bit1 h.1)) r))
def isH (l : List Hd) : Bool := hdGo 0 l
def lyGo : Int -> List Hd -> Int
 | o, [] => o
 | o, h :: r => lyGo (bif h.2.1 == 3 then bitOr .i64 o (bit1 h.2.2.2.2) else o) r
def lyOn (fixed : Int) (l : List Hd) : Int :=
 let o := bif decide (0 <= fixed /\ fixed <= 15) then bitOr .i64 1 fixed else 1
 bif isH l then lyGo o l else o
def codes (l : List Int) : List Int := ((List.range 56).map fun (k : Nat) => (k : Int) + 1).filter fun c => l.contains c
def mdGo : Int -> List Hd -> Int
 | m, [] => m
 | m, h :: r => mdGo (bif decide (h.2.1 = 2 \/ h.2.1 = 8) then bitOr .i64 m h.2.2.2.1 else m) r
def repO (l : List Hd) : Rpt := bif isH l then (mdGo 0 l, codes (l.map fun h => h.2.2.1)) else (0, [])
abbrev Pr := Int × Int
def stepA (s : MSt) : Act := (2, s.2.1, s.2.2, 0)
def mcGo : List Pr -> List MSt -> Bool
 | d, [] => d.isEmpty
 | d, s :: r => isA (stepA s) && (bif s.1 == 0 then !d.contains s.2 && mcGo d r else bif s.1 == 1 then !d.contains s.2 && mcGo (d ++ [s.2]) r else bif s.1 == 2 then d.contains s.2 && mcGo (d.erase s.2) r else false)
def isMc (l : List MSt) : Bool := decide (l.length <= 8) && mcGo [] l
def prGo : Int -> List Pr -> Int
 | m, [] => m
 | m, p :: r => prGo (bitOr .i64 m p.2) r
def withP (b : Rpt) (d : List Pr) : Rpt := (prGo b.1 d, codes (b.2 ++ d.map fun p => p.1))
def mrGo (b : Rpt) : List Pr -> List MSt -> List Rpt
 | _, [] => []
 | d, s :: r => bif s.1 == 0 then withP b (d ++ [s.2]) :: withP b d :: mrGo b d r else bif s.1 == 1 then withP b (d ++ [s.2]) :: mrGo b (d ++ [s.2]) r else withP b (d.erase s.2) :: mrGo b (d.erase s.2) r
def mcRep (l : List Hd) (ss : List MSt) : List Rpt := bif isH l && isMc ss then mrGo (repO l) [] ss else []
def heldB (keys nl : Int) (h : Hd) : Bool := decide (h.1 < keys) && !(!(h.2.1 == 9) && decide (nl <= h.2.2.2.2))
def isE (e : Eng) : Bool :=
 isM e.1 && (decide (e.2.1.length <= 4) && (isH e.2.2.2.1 && (decide (0 <= e.2.2.2.2.1 /\ e.2.2.2.2.1 <= 15) && (e.2.1.all isMc && (e.2.2.2.1.all (heldB e.1.1 e.1.2.length) && decide (0 <= e.2.2.1 /\ e.2.2.1 % 2 = 0 /\ e.2.2.1 < 2 ^ e.1.2.length))))))
def wordB (c : Int) : Bool := decide (1 <= c /\ c <= 36 \/ c = 39 \/ c = 42)
def chg : Rpt -> List Rpt -> List Rpt
 | _, [] => []
 | b, r :: t => bif decide (b = r) then chg r t else r :: chg r t
def stl (fx on : Int) (cp : Bool) (a : Act) : Int × Int × Bool × Act :=
 bif a.1 == 2 then
  (bif a.2.1 == 0 then (fx, on, cp, a) else
   let m := bitOr .i64 a.2.2.1 on
   let c := cp && wordB a.2.1
   (fx, 0, c, (a.1, a.2.1, (bif c && (decide (a.2.1 <= 26) && (zA8 .i64 m 2 == 0)) then 2 else m), a.2.2.2)))
 else bif a.1 == 4 then (zBa .i64 fx (bit1 a.2.2.2), on, cp, a)
 else bif a.1 == 5 then (zA8 .i64 (bit1 a.2.2.2) 1, on, cp, a)
 else bif a.1 == 8 then (fx, (bif zBg .i64 on a.2.2.1 == a.2.2.1 then zA8 .i64 on a.2.2.1 else bitOr .i64 on a.2.2.1), cp, a)
 else bif a.1 == 10 then (fx, on, !cp, a)
 else (fx, on, cp, a)
def hIx (l : List Hd) (key : Int) : Nat := l.findIdx fun h => h.1 == key
def rmv (l : List Hd) (key : Int) : List Hd := l.take (hIx l key) ++ l.drop (hIx l key + 1)
def prs (e : Eng) (key : Int) (hold : Bool) : Eng × List Rpt :=
 let a0 := actN e.1.2 (lyOn e.2.2.1 e.2.2.2.1) key
 let s := stl e.2.2.1 e.2.2.2.2.1 e.2.2.2.2.2 (bif hold then holdO a0 else tapO a0)
 let h := e.2.2.2.1 ++ [(key, s.2.2.2)]
 ((e.1, e.2.1, s.1, h, s.2.1, s.2.2.1), chg (repO e.2.2.2.1) ((bif s.2.2.2.1 == 9 && decide (s.2.2.2.2.2.2 < e.2.1.length) then mcRep h (e.2.1.getD s.2.2.2.2.2.2.toNat []) else []) ++ [repO h]))
def rls (e : Eng) (key : Int) : Eng × List Rpt :=
 let h := rmv e.2.2.2.1 key
 ((e.1, e.2.1, e.2.2.1, h, e.2.2.2.2.1, e.2.2.2.2.2), chg (repO e.2.2.2.1) [repO h])
def isT (t : Tmg) : Bool := decide (1 <= t.1 /\ t.1 <= 1000 /\ 0 <= t.2.1 /\ t.2.1 <= 1000 /\ 0 <= t.2.2 /\ t.2.2 <= 2)
def hmGo : Int -> List Hd -> Int
 | s, [] => s
 | s, h :: r => hmGo (bitOr .i64 s (bit1 h.1)) r
def evB (e : Ev) : Bool := isEv e.1 e.2.1
def flB (keys : Int) : Int -> Int -> List Ev -> Bool
 | _, _, [] => true
 | d, t, e :: r => evB e && (decide (e.2.1 < keys /\ t <= e.1) && (!(e.2.2 == bitB d e.2.1) && flB keys (zBa .i64 d (bit1 e.2.1)) e.1 r))
def fits (q : List Ev) (d keys : Int) : Bool := decide (q.length <= 64) && flB keys d 0 q
def isD (d : Dcd) : Bool :=
 isE d.1 && (isT d.2.1 && (decide (0 <= d.2.2.2.1 /\ d.2.2.2.1 <= 1000000 /\ 0 <= d.2.2.2.2.1 /\ d.2.2.2.2.1 <= d.2.2.2.1) && (fits d.2.2.1 (hmGo 0 d.1.2.2.2.1) d.1.1.1 && (decide (lT 0 d.2.2.1 <= d.2.2.2.1) && decide (0 <= d.2.2.2.2.2.1 /\ d.2.2.2.2.2.1 <= d.1.1.1 /\ 0 <= d.2.2.2.2.2.2 /\ d.2.2.2.2.2.2 <= d.2.2.2.1)))))
def chGo (fl key en now : Int) : Int -> List Ev -> Int × Int
 | _, [] => bif decide (en <= now) then (2, en) else (0, 0)
 | dn, e :: r =>
  bif !evB e then (0, 0) else
  bif decide (en <= e.1) then (2, en) else
  bif e.2.1 == key then (bif e.2.2 then chGo fl key en now dn r else (1, e.1)) else
  bif e.2.2 then (bif fl == 1 then (2, e.1) else chGo fl key en now (bitOr .i64 dn (bit1 e.2.1)) r) else
  bif fl == 2 && bitB dn e.2.1 then (2, e.1) else chGo fl key en now dn r
def chc (t : Tmg) (key time : Int) (rest : List Ev) (now : Int) : Int × Int :=
 bif isT t && decide (0 <= time /\ time <= 1000000) then chGo t.2.2 key (time + t.1) now 0 rest else (0, 0)
def chD (tm : Tmg) (tp ta : Int) (f : Ev) (r : List Ev) (now : Int) : Int × Int := bif (tp == f.2.1 + 1) && decide (f.1 - ta < tm.2.1) then (1, f.1) else chc tm f.2.1 f.1 r now
def stepD (d : Dcd) : Option (List Rpt × Dcd) :=
 match d.2.2.1 with
 | [] => none
 | f :: r =>
  let w := maxI d.2.2.2.2.1 f.1
  let tp := d.2.2.2.2.2.1
  let ta := d.2.2.2.2.2.2
  bif f.2.2 then
   (bif isTH (actN d.1.1.2 (lyOn d.1.2.2.1 d.1.2.2.2.1) f.2.1) then
    let c := chD d.2.1 tp ta f r d.2.2.2.1
    bif c.1 == 0 then none else
     let p := prs d.1 f.2.1 (c.1 == 2)
     some (p.2, (p.1, d.2.1, r, d.2.2.2.1, maxI w c.2, (bif c.1 == 2 then 0 else f.2.1 + 1), (bif c.1 == 2 then ta else f.1)))
   else let p := prs d.1 f.2.1 false
    some (p.2, (p.1, d.2.1, r, d.2.2.2.1, w, tp, ta)))
  else let p := rls d.1 f.2.1
   some (p.2, (p.1, d.2.1, r, d.2.2.2.1, w, tp, (bif tp == f.2.1 + 1 then f.1 else ta)))
def sentB (t : Int) (l : List Rpt) : List Snt := l.map fun r => (t, r)
def runD : Nat -> Dcd -> Dcd × List Snt
 | 0, d => (d, [])
 | n + 1, d => match stepD d with
  | none => (d, [])
  | some (l, d') => ((runD n d').1, sentB d'.2.2.2.2.1 l ++ (runD n d').2)
def zeroE : Eng := ((0, []), [], 0, [], 0, false)
def zeroD : Dcd := (zeroE, (0, 0, 0), [], 0, 0, 0, 0)
def headB (t : Int) : List Ev -> Bool
 | [] => true
 | e :: _ => decide (t <= e.1)
def plyB (d : Dcd) (l : List Ev) (en : Int) : Bool :=
 isD d && (decide (d.2.2.2.1 <= en /\ en <= 1000000) && (headB d.2.2.2.1 l && (decide (lT 0 l <= en) && fits (d.2.2.1 ++ l) (hmGo 0 d.1.2.2.2.1) d.1.1.1)))
def ply (d : Dcd) (l : List Ev) (en : Int) : Dcd × List Snt × Bool :=
 bif plyB d l en then
  let r := runD 64 (d.1, d.2.1, d.2.2.1 ++ l, en, d.2.2.2.2)
  (r.1, r.2, true)
 else (zeroD, [], false)
end Go.Kb
namespace Go.Kb
theorem sorted_ext : ∀ (a b : List Int), a.Pairwise (· < ·) -> b.Pairwise (· < ·) -> (∀ x, x ∈ a ↔ x ∈ b) -> a = b := by
 intro a
 induction a with
 | nil =>
  intro b _ _ h
  cases b with
  | nil => rfl
  | cons y s => exact absurd ((h y).2 (by simp)) (by simp)
 | cons x r ih =>
  intro b ha hb h
  cases b with
  | nil => exact absurd ((h x).1 (by simp)) (by simp)
  | cons y s =>
   rw [List.pairwise_cons] at ha hb
   have hxy : x = y := by
    rcases List.mem_cons.1 ((h x).1 (by simp)) with e | e
    ·exact e
    ·rcases List.mem_cons.1 ((h y).2 (by simp)) with e' | e'
     ·exact e'.symm
     ·have := hb.1 x e; have := ha.1 y e'; omega
   subst hxy
   congr 1
   refine ih s ha.2 hb.2 fun z => ⟨fun hz => ?_, fun hz => ?_⟩
   ·have := ha.1 z hz
    rcases List.mem_cons.1 ((h z).1 (List.mem_cons_of_mem _ hz)) with e | e
    ·omega
    ·exact e
   ·have := hb.1 z hz
    rcases List.mem_cons.1 ((h z).2 (List.mem_cons_of_mem _ hz)) with e | e
    ·omega
    ·exact e
def r56 : List Int := (List.range 56).map fun (k : Nat) => (k : Int) + 1
theorem codes_r56 (l : List Int) : codes l = r56.filter fun c => l.contains c := rfl
theorem r56_sorted : r56.Pairwise (· < ·) := by
 unfold r56
 rw [List.pairwise_map]
 exact List.pairwise_lt_range.imp (fun h => by omega)
theorem mem_r56 (x : Int) : x ∈ r56 ↔ 1 <= x /\ x <= 56 := by
 unfold r56
 rw [List.mem_map]
 constructor
 ·rintro ⟨k, hk, rfl⟩; rw [List.mem_range] at hk; omega
 ·rintro ⟨h1, h2⟩; exact ⟨(x - 1).toNat, List.mem_range.2 (by omega), by omega⟩
theorem mem_codes (l : List Int) (x : Int) : x ∈ codes l ↔ (1 <= x /\ x <= 56) /\ x ∈ l := by
 rw [codes_r56, List.mem_filter, mem_r56, List.contains_iff_mem]
theorem codes_sorted (l : List Int) : (codes l).Pairwise (· < ·) := by
 rw [codes_r56]; exact r56_sorted.filter _
theorem codes_len (l : List Int) : (codes l).length <= 56 := by
 rw [codes_r56]
 refine Nat.le_trans (List.length_filter_le _ _) ?_
 simp [r56]
def dd : List Int -> List Int -> List Int
 | o, [] => o
 | o, x :: r => dd (bif !(x == 0) && !o.contains x then o ++ [x] else o) r
theorem dd_spec : ∀ (l o : List Int), l.Pairwise (· <= ·) -> o.Pairwise (· < ·) -> (∀ x ∈ o, ∀ y ∈ l, x <= y) -> (∀ x ∈ l, 0 <= x) ->
  (dd o l).Pairwise (· < ·) /\ ∀ x, x ∈ dd o l ↔ x ∈ o \/ (x ∈ l /\ x ≠ 0) := by
 intro l
 induction l with
 | nil => intro o _ h2 _ _; exact ⟨h2, fun x => by simp [dd]⟩
 | cons y r ih =>
  intro o h1 h2 h3 h4
  rw [List.pairwise_cons] at h1
  simp only [dd]
  by_cases hy : y = 0
  ·subst hy
   have e : (!((0 : Int) == 0) && !o.contains 0) = false := by simp
   rw [e, condF]
   obtain ⟨a, b⟩ := ih o h1.2 h2 (fun x hx z hz => h3 x hx z (List.mem_cons_of_mem _ hz)) (fun x hx => h4 x (List.mem_cons_of_mem _ hx))
   refine ⟨a, fun x => ?_⟩
   rw [b x, List.mem_cons]
   constructor
   ·rintro (h | ⟨h, g⟩)
    ·exact Or.inl h
    ·exact Or.inr ⟨Or.inr h, g⟩
   ·rintro (h | ⟨h | h, g⟩)
    ·exact Or.inl h
    ·exact absurd h g
    ·exact Or.inr ⟨h, g⟩
  ·by_cases hc : y ∈ o
   ·have e : (!(y == 0) && !o.contains y) = false := by simp [hc]
    rw [e, condF]
    obtain ⟨a, b⟩ := ih o h1.2 h2 (fun x hx z hz => h3 x hx z (List.mem_cons_of_mem _ hz)) (fun x hx => h4 x (List.mem_cons_of_mem _ hx))
    refine ⟨a, fun x => ?_⟩
    rw [b x, List.mem_cons]
    constructor
    ·rintro (h | ⟨h, g⟩)
     ·exact Or.inl h
     ·exact Or.inr ⟨Or.inr h, g⟩
    ·rintro (h | ⟨h | h, g⟩)
     ·exact Or.inl h
     ·subst h; exact Or.inl hc
     ·exact Or.inr ⟨h, g⟩
   ·have e : (!(y == 0) && !o.contains y) = true := by simp [hc, hy]
    rw [e, condT]
    obtain ⟨a, b⟩ := ih (o ++ [y]) h1.2
     (by
      rw [List.pairwise_append]
      refine ⟨h2, by simp, fun x hx z hz => ?_⟩
      rw [List.mem_singleton] at hz
      subst hz
      have := h3 x hx z (by simp)
      have : x ≠ z := fun e => hc (e ▸ hx)
      omega)
     (fun x hx z hz => by
      rcases List.mem_append.1 hx with hx | hx
      ·exact h3 x hx z (List.mem_cons_of_mem _ hz)
      ·rw [List.mem_singleton] at hx; subst hx; exact h1.1 z hz)
     (fun x hx => h4 x (List.mem_cons_of_mem _ hx))
    refine ⟨a, fun x => ?_⟩
    rw [b x, List.mem_cons, List.mem_append, List.mem_singleton]
    constructor
    ·rintro ((h | h) | ⟨h, g⟩)
     ·exact Or.inl h
     ·subst h; exact Or.inr ⟨Or.inl rfl, hy⟩
     ·exact Or.inr ⟨Or.inr h, g⟩
    ·rintro (h | ⟨h | h, g⟩)
     ·exact Or.inl (Or.inl h)
     ·exact Or.inl (Or.inr h)
     ·exact Or.inr ⟨h, g⟩
theorem sortI_sorted (l : List Int) : (sortI l).Pairwise (· <= ·) := by
 have := List.pairwise_mergeSort (le := fun a b : Int => decide (a <= b)) (fun a b c h1 h2 => by simp only [decide_eq_true_eq] at *; omega) (fun a b => by simp only [Bool.or_eq_true, decide_eq_true_eq]; omega) l
 exact this.imp (fun h => by simpa using h)
theorem mem_sortI (l : List Int) (x : Int) : x ∈ sortI l ↔ x ∈ l := List.mem_mergeSort
theorem dd_codes (l : List Int) (h : ∀ x ∈ l, 0 <= x /\ x <= 56) : dd [] (sortI l) = codes l := by
 obtain ⟨a, b⟩ := dd_spec (sortI l) [] (sortI_sorted l) List.Pairwise.nil (by simp) (fun x hx => (h x ((mem_sortI l x).1 hx)).1)
 refine sorted_ext _ _ a (codes_sorted l) fun x => ?_
 rw [b x, mem_codes, mem_sortI]
 constructor
 ·rintro (h' | ⟨h1, h2⟩)
  ·cases h'
  ·have := h x h1; exact ⟨by omega, h1⟩
 ·rintro ⟨h1, h2⟩; exact Or.inr ⟨h2, by omega⟩
theorem or15 {a b : Int} (ha : 0 <= a /\ a <= 15) (hb : 0 <= b /\ b <= 15) : 0 <= bitOr .i64 a b /\ bitOr .i64 a b <= 15 := by
 obtain ⟨m, rfl⟩ := Int.eq_ofNat_of_zero_le ha.1
 obtain ⟨n, rfl⟩ := Int.eq_ofNat_of_zero_le hb.1
 rw [bitOr_nat _ _ (by omega) (by omega)]
 have := Nat.or_lt_two_pow (n := 4) (x := m) (y := n) (by omega) (by omega)
 omega
theorem andNot15 {a b : Int} (ha : 0 <= a /\ a <= 15) (hb : 0 <= b /\ b <= 15) : 0 <= zA8 .i64 a b /\ zA8 .i64 a b <= 15 := by
 obtain ⟨m, rfl⟩ := Int.eq_ofNat_of_zero_le ha.1
 obtain ⟨n, rfl⟩ := Int.eq_ofNat_of_zero_le hb.1
 rw [andNotN _ _ (by omega) (by omega)]
 have := Nat.and_lt_two_pow (n := 4) m (y := n) (by omega)
 have := Nat.xor_lt_two_pow (n := 4) (x := m) (y := m &&& n) (by omega) (by omega)
 omega
theorem bit1_nat {k : Nat} (h : k <= 31) : bit1 (k : Int) = ((2 ^ k : Nat) : Int) := shl_one k h
theorem fx_xor {nl : Nat} (h1 : nl <= 4) {f n : Int} (hf : 0 <= f /\ f % 2 = 0 /\ f < 2 ^ nl) (hn : 1 <= n /\ n < nl) :
  0 <= zBa .i64 f (bit1 n) /\ zBa .i64 f (bit1 n) % 2 = 0 /\ zBa .i64 f (bit1 n) < 2 ^ nl := by
 obtain ⟨a, rfl⟩ := Int.eq_ofNat_of_zero_le hf.1
 obtain ⟨b, rfl⟩ := Int.eq_ofNat_of_zero_le (by omega : 0 <= n)
 have hp : (2 : Nat) ^ nl <= 16 := by have := Nat.pow_le_pow_right (n := 2) (by omega) h1; omega
 have ha : a < 2 ^ nl := by have := hf.2.2; have e : ((2 : Int) ^ nl) = ((2 ^ nl : Nat) : Int) := by simp
                            omega
 have hb : (2 : Nat) ^ b < 2 ^ nl := Nat.pow_lt_pow_right (by omega) (by omega)
 rw [bit1_nat (by omega), bitXor_nat _ _ (by omega) (by omega)]
 have hx := Nat.xor_lt_two_pow (n := nl) ha hb
 have e : ((2 : Int) ^ nl) = ((2 ^ nl : Nat) : Int) := by simp
 have hev : ∀ a < 16, ∀ b < 4, 0 < b -> a % 2 = 0 -> (a ^^^ 2 ^ b) % 2 = 0 := by decide
 have := hev a (by omega) b (by omega) (by omega) (by omega)
 omega
theorem fx_to {nl : Nat} (h1 : nl <= 4) {n : Int} (hn : 0 <= n /\ n < nl) :
  0 <= zA8 .i64 (bit1 n) 1 /\ zA8 .i64 (bit1 n) 1 % 2 = 0 /\ zA8 .i64 (bit1 n) 1 < 2 ^ nl := by
 obtain ⟨b, rfl⟩ := Int.eq_ofNat_of_zero_le hn.1
 have hb : (2 : Nat) ^ b < 2 ^ nl := Nat.pow_lt_pow_right (by omega) (by omega)
 have hp : (2 : Nat) ^ nl <= 16 := by have := Nat.pow_le_pow_right (n := 2) (by omega) h1; omega
 have e : ((2 : Int) ^ nl) = ((2 ^ nl : Nat) : Int) := by simp
 have o : (1 : Int) = ((1 : Nat) : Int) := rfl
 rw [bit1_nat (by omega), o, andNotN _ _ (by omega) (by omega)]
 have hev : ∀ b < 4, (2 ^ b ^^^ (2 ^ b &&& 1)) % 2 = 0 /\ (2 ^ b ^^^ (2 ^ b &&& 1)) <= 2 ^ b := by decide
 have := hev b (by omega)
 omega
end Go.Kb
