/- The abstract machine: typed values, objects, operations, code. -/
import Derived.Orders
/- The abstract machine: typed values, objects, operations, code. -/
namespace Go.Kb
universe u
theorem eB {n m : Nat} (h : Nat.beq n m = true) : n = m := Nat.eq_of_beq_eq_true h
theorem bA (a b : Bool) : ((a && b) = true) = (a = true /\ b = true) := Bool.and_eq_true a b
theorem oJ {n m : Nat} : ((n : Int) < (m : Int)) ↔ n < m := Int.ofNat_lt
theorem lA {α : Type u} {as bs : List α} : (as ++ bs).length = as.length + bs.length := List.length_append
theorem nR (n : Nat) : n <= n := Nat.le_refl n
theorem dT {p : Prop} [Decidable p] (h : p) : decide p = true := decide_eq_true h
theorem dF {p : Prop} [Decidable p] (h : ¬ p) : decide p = false := decide_eq_false h
inductive Ty where
 | int (k : IntKind)
 | bool
 | str
 | unit
 | pair (a b : Ty)
 | list (t : Ty)
 | hnd (t : Ty)
def IntKind.code : IntKind -> Nat
 | .i8 => 0 | .i16 => 1 | .i32 => 2 | .i64 => 3 | .u8 => 4 | .u16 => 5 | .u32 => 6 | .u64 => 7
def Ty.beq : Ty -> Ty -> Bool
 | .int j, .int k => Nat.beq (IntKind.code j) (IntKind.code k)
 | .bool, .bool => true
 | .str, .str => true
 | .unit, .unit => true
 | .pair a b, .pair c d => Ty.beq a c && Ty.beq b d
 | .list a, .list b => Ty.beq a b
 | .hnd a, .hnd b => Ty.beq a b
 | _, _ => false
theorem IntKind.code_inj {j k : IntKind} (h : IntKind.code j = IntKind.code k) : j = k := by
 cases j <;> cases k <;> first | rfl | (simp [IntKind.code] at h)
theorem Ty.eq_of_beq : ∀ {a b : Ty}, Ty.beq a b = true -> a = b := by
 intro a
 induction a with
 | int j =>
  intro b h
  cases b <;> simp [Ty.beq] at h
  rw [IntKind.code_inj h]
 | bool => intro b h; cases b <;> simp [Ty.beq] at h; rfl
 | str => intro b h; cases b <;> simp [Ty.beq] at h; rfl
 | unit => intro b h; cases b <;> simp [Ty.beq] at h; rfl
 | pair a c iha ihc =>
  intro b h
  cases b <;> simp [Ty.beq] at h
  rw [iha h.1, ihc h.2]
 | list a ih =>
  intro b h
  cases b <;> simp [Ty.beq] at h
  rw [ih h]
 | hnd a ih =>
  intro b h
  cases b <;> simp [Ty.beq] at h
  rw [ih h]
abbrev Hnd := Option (Nat × Nat × Nat)
@[reducible] def Ty.den : Ty -> Type
 | .int _ => Int
 | .bool => Bool
 | .str => List UInt8
 | .unit => Unit
 | .pair a b => a.den × b.den
 | .list t => List t.den
 | .hnd _ => Hnd
def Ty.sz : Ty -> Nat
 | .int _ | .bool | .str | .list _ | .hnd _ => 1
 | .unit => 0
 | .pair a b => a.sz + b.sz
def Ty.dflt : (t : Ty) -> t.den
 | .int _ => (0 : Int)
 | .bool => false
 | .str => ([] : List UInt8)
 | .unit => ()
 | .pair a b => (a.dflt, b.dflt)
 | .list _ => []
 | .hnd _ => none
def Ty.cast {a b : Ty} (h : Ty.beq a b = true) (x : a.den) : b.den := Ty.eq_of_beq h ▸ x
def Ty.pure : Ty -> Bool
 | .list _ => false
 | .hnd _ => false
 | .pair a b => a.pure && b.pure
 | _ => true
def Ty.hasH : Ty -> Bool
 | .hnd _ => true
 | .pair a b => a.hasH || b.hasH
 | .list t => t.hasH
 | _ => false
def Ty.un : Ty -> Ty
 | .hnd u => .list u
 | .pair a b => .pair a.un b.un
 | .list t => .list t.un
 | .int k => .int k
 | .bool => .bool
 | .str => .str
 | .unit => .unit
inductive HRow where
 | gone
 | row (e : Nat) (t : Ty) (xs : List t.den)
inductive Ext where
 | all
 | tail (lo : Nat)
 | part (lo hi : Nat)
inductive Cell where
 | int (k : IntKind) (n : Int)
 | bool (b : Bool)
 | str (s : List UInt8)
 | nil
 | sl (fr : Bool) (t : Ty) (xs : List t.den)
 | hnd (t : Ty) (h : Hnd)
 | ref (o st : Nat) (e : Ext)
 | ptr (o st off : Nat)
 | dptr (fr : Bool) (t : Ty) (x : t.den) (off : Nat)
 | eptr (o st i off : Nat)
 | junk
inductive V where
 | one (c : Cell)
 | agg (cs : List Cell)
 | tup (l : List (Bool × List Cell))
 | junk
inductive Obj where
 | absent (st : Nat)
 | box (st : Nat) (hm : Bool) (cs : List Cell)
 | row (st : Nat) (hm fr : Bool) (e : Nat) (t : Ty) (xs : List t.den)
 | heap (D : List HRow) (K : List (Nat × Nat × Hnd))
 | hrow (e : Nat) (t : Ty) (xs : List t.den)
def Obj.stamp : Obj -> Nat
 | .absent st | .box st _ _ | .row st _ _ _ _ _ => st
 | .heap _ _ => 0
 | .hrow _ _ _ => 0
@[irreducible] def HP : Nat := 100
def hrows : Obj -> List HRow
 | .heap D _ => D
 | _ => []
def htaken : Obj -> List (Nat × Nat × Hnd)
 | .heap _ K => K
 | _ => []
def hrowAt (D : List HRow) (u : Ty) (k : Nat) : List u.den :=
 match D[k]? with
 | some (.row _ t xs) => match h : Ty.beq t u with
  | true => Ty.cast (a := .list t) (b := .list u) h xs
  | false => []
 | _ => []
def hisAt (D : List HRow) (u : Ty) (k : Nat) : Bool :=
 match D[k]? with
 | some (.row _ t _) => Ty.beq t u
 | _ => false
def hcut (D : List HRow) (u : Ty) : Hnd -> List u.den
 | none => []
 | some (k, lo, len) => ((hrowAt D u k).drop lo).take len
def hok (D : List HRow) (u : Ty) : Hnd -> Bool
 | none => true
 | some (k, lo, len) => hisAt D u k && Nat.ble (lo + len) (hrowAt D u k).length
def hcodeAt (D : List HRow) (e k : Nat) : Bool :=
 match D[k]? with
 | some (.row e' _ _) => Nat.beq e e'
 | _ => false
def hfull (D : List HRow) (e : Nat) (u : Ty) : Hnd -> Bool
 | none => true
 | some (k, lo, len) => hisAt D u k && (hcodeAt D e k && (Nat.beq lo 0 && Nat.beq len (hrowAt D u k).length))
def hgone (D : List HRow) : Hnd -> List HRow
 | none => D
 | some (k, _, _) => D.set k .gone
def hput (D : List HRow) (h : Hnd) (e : Nat) (u : Ty) (xs : List u.den) : List HRow :=
 match h with
 | none => D
 | some (k, _, _) => D.set k (.row e u xs)
def hhide (D : List HRow) : List HRow := List.replicate D.length .gone
def yw (D D' : List HRow) : List HRow := D ++ D'.drop D.length
def Ty.unden (D : List HRow) : (t : Ty) -> t.den -> t.un.den
 | .hnd u, h => hcut D u h
 | .pair a b, x => (a.unden D x.1, b.unden D x.2)
 | .list t, xs => List.map (t.unden D) xs
 | .int _, x => x
 | .bool, x => x
 | .str, x => x
 | .unit, x => x
def Ty.unok (D : List HRow) : (t : Ty) -> t.den -> Bool
 | .hnd u, h => hok D u h
 | .pair a b, x => a.unok D x.1 && b.unok D x.2
 | .list t, xs => List.all xs (t.unok D)
 | .int _, _ => true
 | .bool, _ => true
 | .str, _ => true
 | .unit, _ => true
def Ty.cells (fr : Bool) : (t : Ty) -> t.den -> List Cell
 | .int k, x => [.int k x]
 | .bool, x => [.bool x]
 | .str, x => [.str x]
 | .unit, _ => []
 | .pair a b, x => a.cells fr x.1 ++ b.cells fr x.2
 | .list t, x => [.sl fr t x]
 | .hnd t, x => [.hnd t x]
def Ext.cut {α : Type} : Ext -> List α -> List α
 | .all, xs => xs
 | .tail lo, xs => xs.drop lo
 | .part lo hi, xs => (xs.take hi).drop lo
def Ext.pos : Ext -> Nat -> Nat
 | .all, i => i
 | .tail lo, i => lo + i
 | .part lo _, i => lo + i
def Ext.lo : Ext -> Nat
 | .all => 0
 | .tail l => l
 | .part l _ => l
def Ext.num (n : Nat) : Ext -> Nat
 | .all => n
 | .tail l => n - l
 | .part l h => h - l
def listOf (look : Nat -> Obj) (t : Ty) : Cell -> Option (Bool × List t.den)
 | .nil => some (true, [])
 | .sl fr u xs => match h : Ty.beq u t with
  | true => some (fr, (Ty.cast (a := .list u) (b := .list t) h xs))
  | false => none
 | .ref o st e => match look o with
  | .row st' _ fr _ u xs => match Nat.beq st st' with
   | true => match h : Ty.beq u t with
    | true => some (fr, e.cut (Ty.cast (a := .list u) (b := .list t) h xs))
    | false => none
   | false => none
  | _ => none
 | _ => none
def Ty.ofCells (look : Nat -> Obj) : (t : Ty) -> List Cell -> Option (Bool × t.den × List Cell)
 | .int k, cs => match cs with
  | .int j n :: r => match Nat.beq (IntKind.code k) (IntKind.code j) with
   | true => some (true, n, r)
   | false => none
  | _ => none
 | .bool, cs => match cs with
  | .bool b :: r => some (true, b, r)
  | _ => none
 | .str, cs => match cs with
  | .str s :: r => some (true, s, r)
  | _ => none
 | .unit, r => some (true, (), r)
 | .pair a b, cs => match a.ofCells look cs with
  | some (f, x, r) => match b.ofCells look r with
   | some (g, y, r') => some (f && g, (x, y), r')
   | none => none
  | none => none
 | .list t, cs => match cs with
  | c :: r => match listOf look t c with
   | some (f, xs) => some (f, xs, r)
   | none => none
  | _ => none
 | .hnd t, cs => match cs with
  | .hnd u h :: r => match Ty.beq u t with
   | true => some (true, h, r)
   | false => none
  | .nil :: r => some (true, none, r)
  | _ => none
inductive XArg where
 | slot (n : Nat)
 | const (v : V)
inductive XPar where
 | val (agg : Bool) (n : Nat)
 | box (o n : Nat)
inductive OutC where
 | imm
 | own (o e : Nat)
 | back (o : Nat)
inductive RetC where
 | val (agg : Bool) (n : Nat)
 | box (o n : Nat)
structure zCJ where
 fn : Nat
 pars : List XPar
 rowsIn : List (Option (Nat × Nat))
 rets : List RetC
 outs : List OutC
 fresh : Bool
inductive XK where
 | move | pick | nilck | dead
 | bin (op : BinOp)
 | eqBool (neg : Bool)
 | eqAgg (neg : Bool) (t : Ty)
 | not | neg
 | conv (k : IntKind)
 | b2s
 | extract (i : Nat)
 | field (agg : Bool) (off n : Nat)
 | fieldAddr (off : Nat)
 | indexAddr (t : Ty)
 | strIndex
 | load (agg : Bool) (n : Nat)
 | store (n : Nat)
 | box (o : Nat)
 | alloc (o : Nat) (zero : List Cell)
 | build (zero : List Cell) (parts : List (Nat × Nat))
 | buildSlice (im : Bool) (o e : Nat) (t : Ty) (len : Nat) (parts : List (Nat × Nat)) (zero : List Cell)
 | makeSlice (o e : Nat) (t : Ty)
 | append (im : Bool) (o e : Nat) (t : Ty)
 | appendDel (o e : Nat) (t : Ty)
 | slice (t : Ty) (lo hi : Bool)
 | strSlice (lo hi : Bool)
 | len | strLen | max | min
 | call (c : zCJ)
 | callH (full : Bool) (c : zCJ)
inductive XPost where
 | none
 | pub (o : Nat)
 | take (o e i : Nat)
structure XOp where
 dst : Option Nat
 kind : XK
 args : List XArg
 ro : List Nat
 wo : List Nat
 guard : Option (Nat × Bool)
 split : Bool
 post : XPost
structure S where
 t : List V
 h : List Obj
 d : List HRow := []
 k : List (Nat × Nat × Hnd) := []
def S.slot (s : S) (n : Nat) : V := s.t.getD n .junk
def hview : Option HRow -> Obj
 | some (.row e t xs) => .hrow e t xs
 | _ => .absent 0
def beyond (d : List HRow) (k : List (Nat × Nat × Hnd)) (o : Nat) : Obj :=
 match Nat.ble HP o with
 | true => match o - HP with
  | 0 => .heap d k
  | n + 1 => hview d[n]?
 | false => .absent 0
def objOf (h : List Obj) (d : List HRow) (k : List (Nat × Nat × Hnd)) (o : Nat) : Obj :=
 match h[o]? with
 | some x => x
 | none => beyond d k o
def S.obj (s : S) (o : Nat) : Obj := objOf s.h s.d s.k o
def S.put (s : S) (d : Option Nat) (v : V) : S := match d with | some n => { s with t := s.t.set n v } | none => s
def S.setO (s : S) (o : Nat) (x : Obj) : S :=
 match Nat.beq o HP with
 | true => { s with d := hrows x, k := htaken x }
 | false => { s with h := s.h.set o x }
def S.ups (s : S) : List (Nat × Obj) -> S
 | [] => s
 | (o, x) :: r => S.ups (s.setO o x) r
def XArg.eval (s : S) : XArg -> V
 | .slot n => s.slot n
 | .const v => v
inductive Res where
 | done (c : Bool) (v : V) (ups : List (Nat × Obj))
 | call (c : Bool) (g : Nat) (inp : List Cell) (D : List HRow) (fin : List Cell -> List HRow -> Option (V × List (Nat × Obj)))
 | bad
def maxN : Nat := 1099511627776
def bitsOf (k : IntKind) (x y : Int) (f : BitVec k.bits -> BitVec k.bits -> BitVec k.bits) : Int :=
 k.wrap (f (BitVec.ofInt k.bits x) (BitVec.ofInt k.bits y)).toNat
def zBo (k : IntKind) (x y : Int) : Int := bitsOf k x y fun a b => a &&& b
def bitOr (k : IntKind) (x y : Int) : Int := bitsOf k x y fun a b => a ||| b
def zBw (k : IntKind) (x y : Int) : Int := bitsOf k x y fun a b => a ^^^ b
def zBM (k : IntKind) (x y : Int) : Int := bitsOf k x y fun a b => a &&& ~~~b
def zBS (k : IntKind) (x y : Int) : Int := k.wrap (x * 2 ^ (min y.toNat k.bits))
def zBy (k : IntKind) (x y : Int) : Int := x.fdiv (2 ^ (min y.toNat k.bits))
def quoI (k : IntKind) (x y : Int) : Int := k.wrap (x.tdiv y)
def binInt (op : BinOp) (k : IntKind) (a : Int) (b : Int) : Option (Bool × Cell) :=
 match op with
 | .add => some (true, .int k (k.wrap (a + b)))
 | .sub => some (true, .int k (k.wrap (a - b)))
 | .mul => some (true, .int k (k.wrap (a * b)))
 | .quo => some (b != 0, .int k (quoI k a b))
 | .rem => some (b != 0, .int k (a.tmod b))
 | .and => some (true, .int k (zBo k a b))
 | .or => some (true, .int k (bitOr k a b))
 | .xor => some (true, .int k (zBw k a b))
 | .andNot => some (true, .int k (zBM k a b))
 | .shl | .shr => none
 | .eql => some (true, .bool (a == b))
 | .neq => some (true, .bool (a != b))
 | .lss => some (true, .bool (decide (a < b)))
 | .leq => some (true, .bool (decide (a <= b)))
 | .gtr => some (true, .bool (decide (a > b)))
 | .geq => some (true, .bool (decide (a >= b)))
def binOpV (op : BinOp) : V -> V -> Option (Bool × Cell)
 | .one (.int k a), .one (.int j b) =>
  match op with
  | .shl => some (decide (0 <= b), .int k (zBS k a b))
  | .shr => some (decide (0 <= b), .int k (zBy k a b))
  | op => match Nat.beq (IntKind.code k) (IntKind.code j) with | true => binInt op k a b | false => none
 | .one (.str a), .one (.str b) =>
  match op with
  | .add => some (decide (a.length + b.length <= maxN), .str (a ++ b))
  | .eql => some (true, .bool (a == b))
  | .neq => some (true, .bool (!(a == b)))
  | _ => none
 | _, _ => none
def eqCells : Ty -> List Cell -> List Cell -> Option (Bool × List Cell × List Cell)
 | .int _, cs, ds => match cs, ds with
  | .int k a :: r, .int j b :: s => match Nat.beq (IntKind.code k) (IntKind.code j) with
   | true => some (a == b, r, s)
   | false => none
  | _, _ => none
 | .bool, cs, ds => match cs, ds with
  | .bool a :: r, .bool b :: s => some (a == b, r, s)
  | _, _ => none
 | .pair x y, r, s => match eqCells x r s with
  | some (p, r', s') => match eqCells y r' s' with
   | some (q, r'', s'') => some (p && q, r'', s'')
   | none => none
  | none => none
 | _, _, _ => none
def V.cells : V -> List Cell
 | .one c => [c]
 | .agg cs => cs
 | _ => []
def mkV : Bool -> List Cell -> V
 | true, cs => .agg cs
 | false, [c] => .one c
 | false, _ => .junk
def setCells : List Cell -> Nat -> List Cell -> List Cell
 | cs, _, [] => cs
 | cs, i, v :: r => setCells (cs.set i v) (i + 1) r
def conj : List Bool -> Bool
 | [] => true
 | b :: r => match r with
  | [] => b
  | _ :: _ => b && conj r
def flatL (un : Bool) (D : List HRow) (fr : Bool) (t : Ty) (xs : List t.den) : List Bool × Cell :=
 match un && t.hasH with
 | true => ([List.all xs (t.unok D)], .sl false t.un (List.map (t.unden D) xs))
 | false => ([], .sl fr t xs)
def flat (un : Bool) (D : List HRow) (look : Nat -> Obj) : Cell -> Option (List Bool × Cell)
 | .ref o st e => match look o with
  | .row st' hm fr _ t xs => match Nat.beq st st' with
   | true => some (flatL un D (fr && !hm) t (e.cut xs))
   | false => none
  | _ => none
 | .hnd t h => match un with
  | true => some ([hok D t h], .sl false t (hcut D t h))
  | false => some ([], .hnd t h)
 | .nil => some ([], .nil)
 | .int k n => some ([], .int k n)
 | .bool b => some ([], .bool b)
 | .str s => some ([], .str s)
 | .sl f t xs => some (flatL un D f t xs)
 | _ => none
def plain : List Cell -> Bool
 | [] => true
 | .int _ _ :: r | .bool _ :: r | .str _ :: r | .nil :: r | .sl _ _ _ :: r => plain r
 | _ :: _ => false
def nth {α : Type} (d : α) (xs : List α) (n : Int) : α := xs.getD n.toNat d
def zG (n : Int) (len : Nat) : Bool := decide (0 <= n) && decide (n < (len : Int))
def bounds (lo hi : Int) (len : Nat) : Bool := decide (0 <= lo) && (decide (lo <= hi) && decide (hi <= (len : Int)))
def zBY : List Cell -> Bool
 | [] => true
 | .int _ _ :: r | .bool _ :: r | .str _ :: r | .nil :: r | .sl _ _ _ :: r | .ref _ _ _ :: r | .hnd _ _ :: r => zBY r
 | _ :: _ => false
def zBn (cells : List Cell) : List (Nat × Nat) -> List V -> Option (List Cell)
 | [], [] => some cells
 | (off, n) :: ps, v :: vs => match Nat.beq n v.cells.length && (Nat.ble (off + n) cells.length && (zBY v.cells && Nat.ble 1 n)) with
  | true => zBn (setCells cells off v.cells) ps vs
  | false => none
 | _, _ => none
def noLook : Nat -> Obj := fun _ => .absent 0
def Ty.elems (t : Ty) : Nat -> List Cell -> Option (Bool × List t.den)
 | 0, [] => some (true, [])
 | n + 1, cs => match t.ofCells noLook cs with
  | some (f, x, r) => match t.elems n r with
   | some (g, xs) => some (f && g, x :: xs)
   | none => none
  | none => none
 | _, _ => none
def bytesOf (xs : List Int) : List UInt8 := xs.map fun n => UInt8.ofNat n.toNat
def zBl (look : Nat -> Obj) : List RetC -> List Cell -> List (Bool × List Cell) × List (Nat × Obj) × List Cell
 | [], cs => ([], [], cs)
 | .val g n :: r, cs => match zBl look r (cs.drop n) with
  | (l, u, rest) => ((g, cs.take n) :: l, u, rest)
 | .box o n :: r, cs => match zBl look r (cs.drop n) with
  | (l, u, rest) => ((false, [.ptr o ((look o).stamp + 1) 0]) :: l, (o, .box ((look o).stamp + 1) false (cs.take n)) :: u, rest)
def retV : List (Bool × List Cell) -> V
 | [(g, cs)] => mkV g cs
 | l => .tup l
end Go.Kb
/- The abstract machine: what an operation does; running code. -/
namespace Go.Kb
def memb (n : Nat) : List Nat -> Bool
 | [] => false
 | m :: r => Nat.beq n m || memb n r
def bindO {α β : Type} (x : Option α) (f : α -> Option β) : Option β :=
 match x with
 | some a => f a
 | none => none
def cellsAt (look : Nat -> Obj) : Cell -> Option (List Cell)
 | .ptr o st off => match look o with
  | .box st' _ cs => match Nat.beq st st' with
   | true => some (cs.drop off)
   | false => none
  | _ => none
 | .dptr fr t x off => some ((t.cells fr x).drop off)
 | .eptr o st i off => match look o with
  | .row st' _ fr _ t xs => match Nat.beq st st' with
   | true => some ((t.cells fr (xs.getD i t.dflt)).drop off)
   | false => none
  | _ => none
 | _ => none
def lenOf (look : Nat -> Obj) : Cell -> Option Nat
 | .nil => some 0
 | .sl _ _ xs => some xs.length
 | .ref o st e => match look o with
  | .row st' _ _ _ _ xs => match Nat.beq st st' with
   | true => some (e.cut xs).length
   | false => none
  | _ => none
 | _ => none
def zBj (look : Nat -> Obj) : List XPar -> List V -> Option (List Cell)
 | [], [] => some []
 | .val true n :: ps, .agg cs :: vs => match Nat.beq cs.length n with
  | true => match zBj look ps vs with
   | some r => some (cs ++ r)
   | none => none
  | false => none
 | .val false _ :: ps, .one c :: vs => match zBj look ps vs with
  | some r => some (c :: r)
  | none => none
 | .box o n :: ps, .one (.ptr o' st 0) :: vs => match look o with
  | .box st' _ cs => match Nat.beq o o' && (Nat.beq st st' && Nat.beq cs.length n) with
   | true => match zBj look ps vs with
    | some r => some (cs ++ r)
    | none => none
   | false => none
  | _ => none
 | _, _ => none
def zAq (un : Bool) (D : List HRow) (look : Nat -> Obj) : List (Option (Nat × Nat)) -> List Cell -> Option (List Bool × List Cell)
 | [], [] => some ([], [])
 | none :: ms, c :: cs => match flat un D look c with
  | some (b, c') => match zAq un D look ms cs with
   | some (q, r) => some (b ++ q, c' :: r)
   | none => none
  | none => none
 | some (o, _) :: ms, .nil :: cs => match look o with
  | .absent _ => match zAq un D look ms cs with
   | some (q, r) => some (q, .nil :: r)
   | none => none
  | _ => none
 | some (o, e) :: ms, .ref o' st .all :: cs => match look o with
  | .row st' hm fr e' t xs => match Nat.beq o o' && (Nat.beq st st' && (Nat.beq e e' && !(un && t.hasH))) with
   | true => match zAq un D look ms cs with
    | some (q, r) => some (q, .sl (fr && !hm) t xs :: r)
    | none => none
   | false => none
  | _ => none
 | _, _ => none
def zBF : List (Option (Nat × Nat)) -> List Cell -> List Nat
 | none :: ms, .ref o _ _ :: cs => o :: zBF ms cs
 | none :: ms, _ :: cs => zBF ms cs
 | some _ :: ms, _ :: cs => zBF ms cs
 | _, _ => []
def zAb : List (Option (Nat × Nat)) -> List Nat
 | [] => []
 | none :: r => zAb r
 | some (o, _) :: r => o :: zAb r
def zBJ : List XPar -> List Nat
 | [] => []
 | .val _ _ :: r => zBJ r
 | .box o _ :: r => o :: zBJ r
def apartL : List Nat -> List Nat -> Bool
 | [], _ => true
 | n :: r, l => !memb n l && apartL r l
def isNil : List Nat -> Bool
 | [] => true
 | _ :: _ => false
def noHs (look : Nat -> Obj) : List Cell -> Bool
 | [] => true
 | .hnd _ _ :: _ => false
 | .sl _ t _ :: r => !t.hasH && noHs look r
 | .ref o _ _ :: r => (match look o with
  | .row _ _ _ _ t _ => !t.hasH
  | _ => true) && noHs look r
 | _ :: r => noHs look r
def lentOk (un : Bool) (look : Nat -> Obj) (c : zCJ) (raw : List Cell) : Bool :=
 (c.fresh || (isNil (zBF c.rowsIn raw) && (!un || noHs look raw))) && apartL (zBF c.rowsIn raw) (zBJ c.pars ++ zAb c.rowsIn)
def place (look : Nat -> Obj) : List OutC -> List Cell -> Option (List Cell × List (Nat × Obj))
 | [], [] => some ([], [])
 | .imm :: ms, c :: cs => match place look ms cs with
  | some (l, u) => some (c :: l, u)
  | none => none
 | .own o e :: ms, .sl fr t xs :: cs => match place look ms cs with
  | some (l, u) => some (.ref o ((look o).stamp + 1) .all :: l, (o, .row ((look o).stamp + 1) false fr e t xs) :: u)
  | none => none
 | .back o :: ms, .sl fr t xs :: cs => match look o with
  | .row st hm fr' e _ _ => match place look ms cs with
   | some (l, u) => some (l, (o, .row st hm (fr && (fr' || hm)) e t xs) :: u)
   | none => none
  | _ => none
 | _, _ => none
def boxUps (look : Nat -> Obj) : List XPar -> List Cell -> Option (List (Nat × Obj))
 | [], [] => some []
 | .val _ _ :: ps, cs => boxUps look ps cs
 | .box o n :: ps, cs => match look o with
  | .box st hm _ => match boxUps look ps (cs.drop n) with
   | some u => some ((o, .box st hm (cs.take n)) :: u)
   | none => none
  | _ => none
 | _, _ => none
def gone (look : Nat -> Obj) : List (Option (Nat × Nat)) -> List (Nat × Obj)
 | [] => []
 | none :: r => gone look r
 | some (o, _) :: r => (o, .absent ((look o).stamp + 1)) :: gone look r
def callFin (look : Nat -> Obj) (c : zCJ) (out : List Cell) : Option (V × List (Nat × Obj)) :=
 match place look c.outs out with
 | some (cs, u) => match zBl look c.rets cs with
  | (l, z, rest) => match boxUps look c.pars rest with
   | some w => some (retV l, gone look c.rowsIn ++ (u ++ (z ++ w)))
   | none => none
 | none => none
def repeatCells (zero : List Cell) : Nat -> List Cell
 | 0 => []
 | n + 1 => zero ++ repeatCells zero n
def sliceExt (e : Ext) (lo hi : Option Int) : Option Ext :=
 match e, lo, hi with
 | e, none, none => some e
 | .all, some l, none => some (.tail l.toNat)
 | .all, none, some h => some (.part 0 h.toNat)
 | .all, some l, some h => some (.part l.toNat h.toNat)
 | _, _, _ => none
def cutList {α : Type} (xs : List α) (lo hi : Option Int) : List α :=
 match lo, hi with
 | none, none => xs
 | some l, none => xs.drop l.toNat
 | none, some h => xs.take h.toNat
 | some l, some h => (xs.take h.toNat).drop l.toNat
def cutOk (len : Nat) (lo hi : Option Int) : Bool :=
 match lo, hi with
 | none, none => true
 | some l, none => decide (0 <= l) && decide (l <= (len : Int))
 | none, some h => decide (0 <= h) && decide (h <= (len : Int))
 | some l, some h => bounds l h len
def maxI (x y : Int) : Int := if y > x then y else x
def minI (x y : Int) : Int := if y < x then y else x
def sliceArgs (lo hi : Bool) (vs : List V) : Option (Option Int × Option Int) :=
 match lo, hi, vs with
 | false, false, [] => some (none, none)
 | true, false, [.one (.int _ l)] => some (some l, none)
 | false, true, [.one (.int _ h)] => some (none, some h)
 | true, true, [.one (.int _ l), .one (.int _ h)] => some (some l, some h)
 | _, _, _ => none
def addOff (n : Nat) : Cell -> Option Cell
 | .ptr o st off => some (.ptr o st (off + n))
 | .dptr fr t x off => some (.dptr fr t x (off + n))
 | .eptr o st i off => some (.eptr o st i (off + n))
 | _ => none
def E.move (vs : List V) : Res :=
 match vs with
 | [v] => .done true v []
 | _ => .bad
def E.nilck (vs : List V) : Res :=
 match vs with
 | [.one c] => match addOff 0 c with
  | some c' => .done true (.one c') []
  | none => .bad
 | _ => .bad
def E.pick (vs : List V) : Res :=
 match vs with
 | [.one (.bool c), a, b] => .done true (bif c then a else b) []
 | _ => .bad
def E.bin (op : BinOp) (vs : List V) : Res :=
 match vs with
 | [a, b] => match binOpV op a b with
  | some (c, r) => .done c (.one r) []
  | none => .bad
 | _ => .bad
def E.eqBool (ng : Bool) (vs : List V) : Res :=
 match vs with
 | [.one (.bool a), .one (.bool b)] => .done true (.one (.bool (bif ng then a != b else a == b))) []
 | _ => .bad
def E.eqAgg (ng : Bool) (t : Ty) (vs : List V) : Res :=
 match vs with
 | [.agg a, .agg b] => match eqCells t a b with
  | some (r, [], []) => .done true (.one (.bool (bif ng then !r else r))) []
  | _ => .bad
 | _ => .bad
def E.not (vs : List V) : Res :=
 match vs with
 | [.one (.bool b)] => .done true (.one (.bool (!b))) []
 | _ => .bad
def E.neg (vs : List V) : Res :=
 match vs with
 | [.one (.int k n)] => .done true (.one (.int k (k.wrap (0 - n)))) []
 | _ => .bad
def E.conv (k : IntKind) (vs : List V) : Res :=
 match vs with
 | [.one (.int _ n)] => .done true (.one (.int k (k.wrap n))) []
 | _ => .bad
def E.b2s (look : Nat -> Obj) (vs : List V) : Res :=
 match vs with
 | [.one c] => match listOf look (.int .u8) c with
  | some (_, xs) => .done true (.one (.str (bytesOf xs))) []
  | none => .bad
 | _ => .bad
def E.extract (i : Nat) (vs : List V) : Res :=
 match vs with
 | [.tup l] => match l[i]? with
  | some (g, cs) => .done true (mkV g cs) []
  | none => .bad
 | _ => .bad
def E.field (g : Bool) (off : Nat) (n : Nat) (vs : List V) : Res :=
 match vs with
 | [.agg cs] => match Nat.beq ((cs.drop off).take n).length n with
  | true => .done true (mkV g ((cs.drop off).take n)) []
  | false => .bad
 | _ => .bad
def E.fieldAddr (off : Nat) (vs : List V) : Res :=
 match vs with
 | [.one c] => match addOff off c with
  | some c' => .done true (.one c') []
  | none => .bad
 | _ => .bad
def E.indexAddr (look : Nat -> Obj) (t : Ty) (vs : List V) : Res :=
 match vs with
 | [.one .nil, .one (.int _ _)] => .done false .junk []
 | [.one (.sl fr u xs), .one (.int _ n)] => match Ty.beq u t with
  | true => .done (zG n xs.length) (.one (.dptr fr u (nth u.dflt xs n) 0)) []
  | false => .bad
 | [.one (.ref o st e), .one (.int _ n)] => match look o with
  | .row st' _ _ _ u xs => match Nat.beq st st' && Ty.beq u t with
   | true => .done (zG n (e.cut xs).length) (.one (.eptr o st (e.pos n.toNat) 0)) []
   | false => .bad
  | _ => .bad
 | _ => .bad
def E.strIndex (vs : List V) : Res :=
 match vs with
 | [.one (.str s), .one (.int _ n)] => .done (zG n s.length) (.one (.int .u8 ((nth (0 : UInt8) s n).toNat : Int))) []
 | _ => .bad
def E.load (look : Nat -> Obj) (g : Bool) (n : Nat) (vs : List V) : Res :=
 match vs with
 | [.one c] => match cellsAt look c with
  | some cs => match Nat.ble n cs.length with
   | true => .done true (mkV g (cs.take n)) []
   | false => .bad
  | none => .bad
 | _ => .bad
def E.store (look : Nat -> Obj) (n : Nat) (vs : List V) : Res :=
 match vs with
 | [.one (.ptr o st off), v] => match look o with
  | .box st' hm cs => match Nat.beq st st' && (Nat.beq v.cells.length n && (Nat.ble (off + n) cs.length && (zBY v.cells && Nat.ble 1 n))) with
   | true => .done true (.tup []) [(o, .box st' hm (setCells cs off v.cells))]
   | false => .bad
  | _ => .bad
 | [.one (.eptr o st i off), v] => match look o with
  | .row st' hm fr e t xs => match Nat.beq st st' && (Nat.beq v.cells.length n && (Nat.ble (off + n) t.sz && (zBY v.cells && Nat.ble 1 n))) with
   | true => match t.ofCells noLook (setCells (t.cells fr (xs.getD i t.dflt)) off v.cells) with
    | some (f, x, []) => .done true (.tup []) [(o, .row st' hm (fr && f) e t (xs.set i x))]
    | _ => .bad
   | false => .bad
  | _ => .bad
 | _ => .bad
def E.box (look : Nat -> Obj) (o : Nat) (vs : List V) : Res :=
 match vs with
 | [.one c] => match zBY [c] with
  | true => .done true (.one (.ptr o ((look o).stamp + 1) 0)) [(o, .box ((look o).stamp + 1) false [c])]
  | false => .bad
 | [.agg cs] => match zBY cs with
  | true => .done true (.one (.ptr o ((look o).stamp + 1) 0)) [(o, .box ((look o).stamp + 1) false cs)]
  | false => .bad
 | _ => .bad
def E.alloc (look : Nat -> Obj) (o : Nat) (zero : List Cell) (vs : List V) : Res :=
 match vs with
 | [] => .done true (.one (.ptr o ((look o).stamp + 1) 0)) [(o, .box ((look o).stamp + 1) false zero)]
 | _ => .bad
def E.build (zero : List Cell) (parts : List (Nat × Nat)) (vs : List V) : Res :=
 match zBn zero parts vs with
  | some cs => match zBY cs with
   | true => .done true (.agg cs) []
   | false => .bad
  | none => .bad
def E.buildSlice (look : Nat -> Obj) (im : Bool) (o : Nat) (e : Nat) (t : Ty) (m : Nat) (parts : List (Nat × Nat)) (zero : List Cell) (vs : List V) : Res :=
 match zBn (repeatCells zero m) parts vs with
  | some cs => match t.elems m cs with
   | some (f, xs) => match im with
    | false => .done true (.one (.ref o ((look o).stamp + 1) .all)) [(o, .row ((look o).stamp + 1) false f e t xs)]
    | true => .done true (.one (.sl f t xs)) []
   | none => .bad
  | none => .bad
def E.makeSlice (look : Nat -> Obj) (o : Nat) (e : Nat) (t : Ty) (vs : List V) : Res :=
 match vs with
 | [.one (.int _ n), .one (.int _ _)] =>
  .done (decide (0 <= n) && decide (n <= (maxN : Int))) (.one (.ref o ((look o).stamp + 1) .all)) [(o, .row ((look o).stamp + 1) false true e t (List.replicate n.toNat t.dflt))]
 | _ => .bad
def Ty.flat : Ty -> Bool
 | .list _ => false
 | .pair a b => a.flat && b.flat
 | _ => true
def E.append (look : Nat -> Obj) (im : Bool) (o : Nat) (e : Nat) (t : Ty) (vs : List V) : Res :=
 match vs with
 | [.one s, .one x] => match listOf look t x with
  | some (f, ys) => match s with
   | .nil => match im with
    | false => .done (decide (ys.length <= maxN)) (.one (.ref o ((look o).stamp + 1) .all)) [(o, .row ((look o).stamp + 1) false (f || t.flat) e t ys)]
    | true => .done (decide (ys.length <= maxN)) (.one (.sl (f || t.flat) t ys)) []
   | .ref o' st ex => match look o with
    | .row st' hm fr e' u xs => match Nat.beq o o' && (Nat.beq st st' && Nat.beq e e') with
     | true => match h : Ty.beq t u with
      | true => match im, ex with
       | true, .all => .done (decide (xs.length + ys.length <= maxN)) (.one (.sl (fr && (f || t.flat) && !hm) u (xs ++ Ty.cast (a := .list t) (b := .list u) h ys))) [(o, .absent (st + 1))]
       | false, .all => .done (decide (xs.length + ys.length <= maxN)) (.one (.ref o (st + 1) .all)) [(o, .row (st + 1) false (fr && (f || t.flat) && !hm) e u (xs ++ Ty.cast (a := .list t) (b := .list u) h ys))]
       | _, _ => .bad
      | false => .bad
     | false => .bad
    | _ => .bad
   | _ => .bad
  | none => .bad
 | _ => .bad
def E.appendDel (look : Nat -> Obj) (o e : Nat) (t : Ty) (vs : List V) : Res :=
 match vs with
 | [.one (.ref o1 st1 (.part 0 hi)), .one (.ref o2 st2 (.tail k))] => match look o with
  | .row st hm fr e' u xs => match Nat.beq o o1 && (Nat.beq o o2 && (Nat.beq st st1 && (Nat.beq st st2 && (Nat.beq e e' && Ty.beq t u)))) with
   | true => .done (decide (hi <= k) && decide (xs.length <= maxN)) (.one (.ref o (st + 1) .all)) [(o, .row (st + 1) false (fr && !hm) e u (xs.take hi ++ xs.drop k))]
   | false => .bad
  | _ => .bad
 | _ => .bad
def E.slice (look : Nat -> Obj) (t : Ty) (lo : Bool) (hi : Bool) (vs : List V) : Res :=
 match vs with
 | .one c :: vs => match sliceArgs lo hi vs with
  | some (l, h) => match c with
   | .nil => .done (cutOk 0 l h) (.one .nil) []
   | .sl fr u xs => match Ty.beq u t with
    | true => .done (cutOk xs.length l h) (.one (.sl fr u (cutList xs l h))) []
    | false => .bad
   | .ref o st e => match look o with
    | .row st' _ _ _ u xs => match Nat.beq st st' && Ty.beq u t with
     | true => match sliceExt e l h with
      | some e' => .done (cutOk (e.cut xs).length l h) (.one (.ref o st e')) []
      | none => .bad
     | false => .bad
    | _ => .bad
   | _ => .bad
  | none => .bad
 | _ => .bad
def E.strSlice (lo : Bool) (hi : Bool) (vs : List V) : Res :=
 match vs with
 | .one (.str s) :: vs => match sliceArgs lo hi vs with
  | some (l, h) => .done (cutOk s.length l h) (.one (.str (cutList s l h))) []
  | none => .bad
 | _ => .bad
def E.len (look : Nat -> Obj) (vs : List V) : Res :=
 match vs with
 | [.one c] => match lenOf look c with
  | some n => .done true (.one (.int .i64 (n : Int))) []
  | none => .bad
 | _ => .bad
def E.strLen (vs : List V) : Res :=
 match vs with
 | [.one (.str s)] => .done true (.one (.int .i64 (s.length : Int))) []
 | _ => .bad
def E.max (vs : List V) : Res :=
 match vs with
 | [.one (.int k x), .one (.int j y)] => match Nat.beq (IntKind.code k) (IntKind.code j) with
  | true => .done true (.one (.int k (maxI x y))) []
  | false => .bad
 | _ => .bad
def E.min (vs : List V) : Res :=
 match vs with
 | [.one (.int k x), .one (.int j y)] => match Nat.beq (IntKind.code k) (IntKind.code j) with
  | true => .done true (.one (.int k (minI x y))) []
  | false => .bad
 | _ => .bad
def E.call (look : Nat -> Obj) (c : zCJ) (vs : List V) : Res :=
 match zBj look c.pars vs with
  | some raw => match zAq true (hrows (look HP)) look c.rowsIn raw, lentOk true look c raw with
   | some (b, inp), true => .call (conj b) c.fn inp [] (fun out _ => callFin look c out)
   | _, _ => .bad
  | none => .bad
def E.callH (look : Nat -> Obj) (full : Bool) (c : zCJ) (vs : List V) : Res :=
 match zBj look c.pars vs with
  | some raw => match zAq (!full) (hrows (look HP)) look c.rowsIn raw, lentOk (!full) look c raw with
   | some (b, inp), true => .call (conj b) c.fn inp (match full with | true => hrows (look HP) | false => hhide (hrows (look HP)))
     (fun out D' => match callFin look c out with
      | some (v, u) => some (v, (HP, .heap (match full with | true => D' | false => yw (hrows (look HP)) D') (htaken (look HP))) :: u)
      | none => none)
   | _, _ => .bad
  | none => .bad
def XK.eval (k : XK) (look : Nat -> Obj) (vs : List V) : Res :=
 match k with
 | .move => E.move vs
 | .nilck => E.nilck vs
 | .pick => E.pick vs
 | .bin op => E.bin op vs
 | .eqBool ng => E.eqBool ng vs
 | .eqAgg ng t => E.eqAgg ng t vs
 | .not => E.not vs
 | .neg => E.neg vs
 | .conv k => E.conv k vs
 | .b2s => E.b2s look vs
 | .extract i => E.extract i vs
 | .field g off n => E.field g off n vs
 | .fieldAddr off => E.fieldAddr off vs
 | .indexAddr t => E.indexAddr look t vs
 | .strIndex => E.strIndex vs
 | .load g n => E.load look g n vs
 | .store n => E.store look n vs
 | .box o => E.box look o vs
 | .alloc o zero => E.alloc look o zero vs
 | .build zero parts => E.build zero parts vs
 | .buildSlice im o e t m parts zero => E.buildSlice look im o e t m parts zero vs
 | .makeSlice o e t => E.makeSlice look o e t vs
 | .append im o e t => E.append look im o e t vs
 | .appendDel o e t => E.appendDel look o e t vs
 | .slice t lo hi => E.slice look t lo hi vs
 | .strSlice lo hi => E.strSlice lo hi vs
 | .len => E.len look vs
 | .strLen => E.strLen vs
 | .max => E.max vs
 | .min => E.min vs
 | .call c => E.call look c vs
 | .callH full c => E.callH look full c vs
 | .dead => .bad
def upsIn (wo : List Nat) : List (Nat × Obj) -> Bool
 | [] => true
 | (o, _) :: r => memb o wo && upsIn wo r
def XOp.look (op : XOp) (s : S) : Nat -> Obj := fun o => bif memb o op.ro then s.obj o else .absent 0
def zCG (s : S) : List XArg -> List V
 | [] => []
 | a :: r => a.eval s :: zCG s r
def mapCell (f : Cell -> Cell) : V -> V
 | .one c => .one (f c)
 | .agg cs => .agg (cs.map f)
 | .tup l => .tup (l.map fun p => (p.1, p.2.map f))
 | .junk => .junk
def latest (look : Nat -> Obj) : List (Nat × Obj) -> Nat -> Obj
 | [], o => look o
 | (m, x) :: r, o => latest (fun i => match Nat.beq i m with | true => x | false => look i) r o
def zBu (o st k n : Nat) (t : Ty) : Cell -> Cell
 | .ref o' st' e => match Nat.beq o o' with
  | true => match Nat.beq st st' with
   | true => .hnd t (some (k, e.lo, e.num n))
   | false => .junk
  | false => .ref o' st' e
 | c => c
def hndAt (v : V) (i : Nat) : Option (Ty × Hnd) :=
 match v.cells[i]? with
 | some (.hnd t h) => some (t, h)
 | _ => none
def setCell (v : V) (i : Nat) (c : Cell) : V :=
 match v with
 | .one _ => .one c
 | .agg cs => .agg (cs.set i c)
 | v => v
def postRun (look : Nat -> Obj) (p : XPost) (v : V) (u : List (Nat × Obj)) : Option (Bool × V × List (Nat × Obj)) :=
 match p with
 | .none => some (true, v, u)
 | .pub o => match latest look u o, latest look u HP with
  | .row st false _ e t xs, .heap D K => match t.pure with
   | true => some (true, mapCell (zBu o st D.length xs.length t) v, u ++ [(o, .absent (st + 1)), (HP, .heap (D ++ [.row e t xs]) K)])
   | false => none
  | _, _ => none
 | .take o e i => match hndAt v i, latest look u HP with
  | some (t, h), .heap D K => match t.pure with
   | true => some (hfull D e t h, setCell v i (.ref o ((latest look u o).stamp + 1) .all),
     u ++ [(o, .row ((latest look u o).stamp + 1) false false e t (hcut D t h)), (HP, .heap (hgone D h) ((o, (latest look u o).stamp + 1, h) :: K))])
   | false => none
  | _, _ => none
def XOp.res (op : XOp) (s : S) : Res := op.kind.eval (op.look s) (zCG s op.args)
def S.updK {R : Type} (s : S) (op : XOp) (v : V) (u : List (Nat × Obj)) (k : S -> Option R) : Option R :=
 match upsIn op.wo u with
 | true => match op.post with
  | .none => k ((s.put op.dst v).ups u)
  | p => match postRun (op.look s) p v u with
   | some (b, v', u') => bif b then k ((s.put op.dst v').ups u') else none
   | none => none
 | false => none
abbrev Env := Nat -> List Cell -> List HRow -> {R : Type} -> (List Cell -> List HRow -> Option R) -> Option R
def splitK {R : Type} (op : XOp) (v : V) (k : V -> Option R) : Option R :=
 match op.split with
 | false => k v
 | true => match v with
  | .one (.bool b) => bif b then k (.one (.bool true)) else k (.one (.bool false))
  | _ => none
def XOp.bodyK {R : Type} (Φ : Env) (op : XOp) (s : S) (k : S -> Option R) : Option R :=
 match op.res s with
 | .bad => none
 | .done c v u => bif c then splitK op v (fun v' => s.updK op v' u k) else none
 | .call c g inp D fin => bif c then Φ g inp D fun out D' => match fin out D' with
  | some (v, u) => splitK op v (fun v' => s.updK op v' u k)
  | none => none
  else none
def XOp.stepK {R : Type} (Φ : Env) (op : XOp) (s : S) (k : S -> Option R) : Option R :=
 match op.guard with
 | none => op.bodyK Φ s k
 | some (g, want) => match s.slot g with
  | .one (.bool b) => bif (b == want) then op.bodyK Φ s k else k (s.put op.dst (.tup []))
  | .tup [] => k (s.put op.dst (.tup []))
  | _ => none
def opsK {R : Type} (Φ : Env) : List XOp -> S -> (S -> Option R) -> Option R
 | [], s, k => k s
 | op :: r, s, k => op.stepK Φ s fun s' => opsK Φ r s' k
inductive Loc where
 | slot (n : Nat)
 | boxc (o i : Nat)
inductive Ghost where
 | freeze (o : Nat)
 | rename (o o' : Nat)
 | mkrow (l : Loc) (o e : Nat) (t : Ty)
 | unnil (l : Loc) (t : Ty)
 | keep (slots : List Nat)
 | drop (o : Nat)
 | away (o : Nat)
 | weak
 | norm
 | hpub (o : Nat)
 | hput (o : Nat)
def Obj.mapCell (f : Cell -> Cell) : Obj -> Obj
 | .box st hm cs => .box st hm (cs.map f)
 | x => x
def S.mapCell (s : S) (f : Cell -> Cell) : S := { s with t := s.t.map (Kb.mapCell f), h := s.h.map (Obj.mapCell f) }
def freezeCell (s : S) (o : Nat) : Cell -> Cell
 | .ref o' st e => match Nat.beq o o' with
  | true => match s.obj o with
   | .row st' hm fr _ t xs => match Nat.beq st st' with
    | true => .sl (fr && !hm) t (e.cut xs)
    | false => .junk
   | _ => .junk
  | false => .ref o' st e
 | c => c
def zBt (s : S) (o o' : Nat) : Cell -> Cell
 | .ref a st e => match Nat.beq o a with
  | true => match Nat.beq st (s.obj o).stamp with
   | true => .ref o' ((s.obj o').stamp + 1) e
   | false => .junk
  | false => .ref a st e
 | .eptr a st i off => match Nat.beq o a with
  | true => .junk
  | false => .eptr a st i off
 | c => c
def weakCell : Cell -> Cell
 | .sl _ t xs => .sl false t xs
 | .dptr _ t x off => .dptr false t x off
 | c => c
def Obj.weak : Obj -> Obj
 | .row st hm _ e t xs => .row st hm false e t xs
 | x => x
def Obj.zero : Obj -> Obj
 | .absent _ => .absent 0
 | .box _ hm cs => .box 0 hm cs
 | .row _ hm fr e t xs => .row 0 hm fr e t xs
 | .heap D _ => .heap D []
 | x => x
def Obj.isBox (st : Nat) : Obj -> Bool
 | .box st' _ _ => Nat.beq st st'
 | _ => false
def Obj.isRow (st : Nat) : Obj -> Bool
 | .row st' _ _ _ _ _ => Nat.beq st st'
 | _ => false
def zCU (s : S) : Cell -> Cell
 | .ref o st e => match (s.obj o).isRow st with | true => .ref o 0 e | false => .junk
 | .ptr o st off => match (s.obj o).isBox st with | true => .ptr o 0 off | false => .junk
 | .eptr o st i off => match (s.obj o).isRow st with | true => .eptr o 0 i off | false => .junk
 | c => c
def normTaken (s : S) : List (Nat × Nat × Hnd) -> List (Nat × Nat × Hnd)
 | [] => []
 | (o, st, h) :: r => match (s.obj o).isRow st with
  | true => (o, 0, h) :: normTaken s r
  | false => normTaken s r
def keepSlots (l : List Nat) : Nat -> List V -> List V
 | _, [] => []
 | n, v :: r => (match memb n l with | true => v | false => .junk) :: keepSlots l (n + 1) r
def S.ghost (s : S) : Ghost -> Option S
 | .freeze o => match s.obj o with
  | .row st _ _ _ _ _ => match s.mapCell (freezeCell s o) with
   | s' => some { s' with h := s'.h.set o (.absent (st + 1)) }
  | _ => some s
 | .rename o o' => match s.obj o with
  | .row st hm fr e t xs => match Nat.beq o o' with
   | true => some s
   | false => match s.mapCell (zBt s o o') with
    | s' => some { s' with h := (s'.h.set o (.absent (st + 1))).set o' (.row ((s.obj o').stamp + 1) false (fr && !hm) e t xs) }
  | _ => some s
 | .mkrow (.slot n) o e t => match s.slot n with
  | .one .nil => some { s with t := s.t.set n (.one (.ref o ((s.obj o).stamp + 1) .all)), h := s.h.set o (.row ((s.obj o).stamp + 1) false true e t []) }
  | _ => some s
 | .mkrow (.boxc b i) o e t => match s.obj b with
  | .box st hm cs => match cs[i]?, Nat.beq o b with
   | some .nil, false => some { s with h := (s.h.set b (.box st hm (cs.set i (.ref o ((s.obj o).stamp + 1) .all)))).set o (.row ((s.obj o).stamp + 1) false true e t []) }
   | _, _ => some s
  | _ => some s
 | .unnil (.slot n) t => match s.slot n with
  | .one .nil => some { s with t := s.t.set n (.one (.sl true t [])) }
  | _ => some s
 | .unnil (.boxc b i) t => match s.obj b with
  | .box st hm cs => match cs[i]? with
   | some .nil => some { s with h := s.h.set b (.box st hm (cs.set i (.sl true t []))) }
   | _ => some s
  | _ => some s
 | .keep l => some { s with t := keepSlots l 0 s.t }
 | .drop o => some { s with h := s.h.set o (.absent ((s.obj o).stamp + 1)) }
 | .away o => match s.obj o with
  | .row st hm fr e t xs => some { s with h := s.h.set o (.row st false (fr && !hm) e t xs) }
  | _ => some s
 | .weak => match s.mapCell weakCell with
  | s' => some { s' with h := s'.h.map Obj.weak }
 | .norm => some { t := s.t.map (Kb.mapCell (zCU s)), h := s.h.map fun x => (x.mapCell (zCU s)).zero, d := s.d, k := normTaken s s.k }
 | .hpub o => match s.obj o with
  | .row st false _ e t xs => match t.pure with
   | true => match s.mapCell (zBu o st s.d.length xs.length t) with
    | s' => some { s' with h := s'.h.set o (.absent (st + 1)), d := s.d ++ [.row e t xs] }
   | false => none
  | _ => some s
 | .hput o => match s.k with
  | [] => some s
  | (o', st', h) :: K => match Nat.beq o o' with
   | false => none
   | true => match s.obj o with
    | .row st false _ e t xs => match Nat.beq st st' && t.pure with
     | true => some { s with h := s.h.set o (.absent (st + 1)), d := Kb.hput s.d h e t xs, k := K }
     | false => some { s with k := K }
    | _ => some { s with k := K }
def S.ghosts (s : S) : List Ghost -> Option S
 | [] => some s
 | g :: r => match s.ghost g with
  | some s' => s'.ghosts r
  | none => none
inductive XCode where
 | skip
 | region (draw : Bool) (ops : List XOp)
 | seq (a b : XCode)
 | cond (c : XArg) (a b : XCode)
 | block (id : Nat) (b : XCode)
 | loop (h : List Ghost) (b : XCode)
 | exit (id : Nat)
 | ret
 | adj (h : List Ghost) (c : XCode)
inductive Ex where
 | normal
 | exit (id : Nat)
 | ret
def seqK {R : Type} (f : S -> Option R) (k : Ex -> S -> Option R) : Ex -> S -> Option R
 | .normal, s => f s
 | e, s => k e s
def y7 {R : Type} (id : Nat) (k : Ex -> S -> Option R) : Ex -> S -> Option R
 | .exit j, s => match Nat.beq j id with | true => k .normal s | false => k (.exit j) s
 | e, s => k e s
def loopK {R : Type} (h : List Ghost) (body : S -> (Ex -> S -> Option R) -> Option R) : Nat -> S -> (Ex -> S -> Option R) -> Option R
 | 0, _, _ => none
 | n + 1, s, k => body s (seqK (fun s' => bindO (s'.ghosts h) fun s'' => loopK h body n s'' k) k)
def XCode.runK {R : Type} (Φ : Env) (N : Nat) : XCode -> S -> (Ex -> S -> Option R) -> Option R
 | .skip, s, k => k .normal s
 | .region _ ops, s, k => opsK Φ ops s (k .normal)
 | .seq a b, s, k => a.runK Φ N s (seqK (fun s' => b.runK Φ N s' k) k)
 | .cond c a b, s, k => match c.eval s with
  | .one (.bool x) => bif x then a.runK Φ N s k else b.runK Φ N s k
  | _ => none
 | .block id b, s, k => b.runK Φ N s (y7 id k)
 | .loop h b, s, k => bindO (s.ghosts h) fun s' => loopK h (fun s k => b.runK Φ N s k) N s' k
 | .exit id, s, k => k (.exit id) s
 | .ret, s, k => k .ret s
 | .adj h c, s, k => bindO (s.ghosts h) fun s' => c.runK Φ N s' k
inductive FPar where
 | val (agg : Bool) (n : Nat)
 | box (o n : Nat)
inductive OutF where
 | imm
 | own (e : Nat)
 | back (o : Nat)
inductive RetF where
 | tmp (slot : Nat) (agg : Bool) (n : Nat)
 | var (slot : Nat) (agg : Bool) (n : Nat)
 | ptr (slot : Nat) (n : Nat)
structure XFunc where
 nslots : Nat
 nobj : Nat
 pars : List FPar
 rowsIn : List (Option (Nat × Nat))
 body : XCode
 rets : List RetF
 outs : List OutF
 fresh : Bool
 arg : Ty
 ret : Ty
 keep : Bool := false
 hp : Bool := false
def zBe (kp : Bool) : List (Option (Nat × Nat)) -> List Cell -> Option (List Cell × List (Nat × Obj))
 | [], [] => some ([], [])
 | none :: ms, c :: cs => match zBe kp ms cs with
  | some (l, u) => some (c :: l, u)
  | none => none
 | some (o, e) :: ms, .sl fr t xs :: cs => match zBe kp ms cs with
  | some (l, u) => some (.ref o 0 .all :: l, (o, .row 0 (!kp) fr e t xs) :: u)
  | none => none
 | _, _ => none
def zBf : List FPar -> List Cell -> Option (List V × List (Nat × Obj))
 | [], [] => some ([], [])
 | .val g n :: ps, cs => match zBf ps (cs.drop n) with
  | some (l, u) => some (mkV g (cs.take n) :: l, u)
  | none => none
 | .box o n :: ps, cs => match zBf ps (cs.drop n) with
  | some (l, u) => some (.one (.ptr o 0 0) :: l, (o, .box 0 true (cs.take n)) :: u)
  | none => none
 | _, _ => none
def XFunc.init (f : XFunc) (inp : List Cell) (D : List HRow := []) : Option S :=
 match zBe f.keep f.rowsIn inp with
 | some (cs, u) => match zBf f.pars cs with
  | some (vs, w) => some (S.ups { t := vs ++ List.replicate (f.nslots - vs.length) .junk, h := List.replicate f.nobj (.absent 0), d := D } (u ++ w))
  | none => none
 | none => none
def Ext.whole : Ext -> Bool
 | .part _ _ => false
 | _ => true
def boxAt (s : S) (slot n : Nat) : Option (Nat × List Cell) :=
 match s.slot slot with
 | .one (.ptr o st 0) => match s.obj o with
  | .box st' _ cs => match Nat.beq st st' && Nat.beq cs.length n with
   | true => some (o, cs)
   | false => none
  | _ => none
 | _ => none
def zCT (s : S) : List RetF -> Option (List Cell × List Nat)
 | [] => some ([], [])
 | .tmp n false _ :: r => match s.slot n with
  | .one c => match zCT s r with
   | some (l, os) => some (c :: l, os)
   | none => none
  | _ => none
 | .tmp n true k :: r => match s.slot n with
  | .agg cs => match Nat.beq cs.length k with
   | true => match zCT s r with
    | some (l, os) => some (cs ++ l, os)
    | none => none
   | false => none
  | _ => none
 | .var n _ k :: r => match boxAt s n k with
  | some (_, cs) => match zCT s r with
   | some (l, os) => some (cs ++ l, os)
   | none => none
  | none => none
 | .ptr n k :: r => match boxAt s n k with
  | some (o, cs) => match zCT s r with
   | some (l, os) => some (cs ++ l, o :: os)
   | none => none
  | none => none
def boxCells (s : S) : List FPar -> Option (List Cell)
 | [] => some []
 | .val _ _ :: ps => boxCells s ps
 | .box o n :: ps => match s.obj o with
  | .box _ true cs => match Nat.beq cs.length n with
   | true => match boxCells s ps with
    | some l => some (cs ++ l)
    | none => none
   | false => none
  | _ => none
def zBP (un : Bool) (s : S) : List OutF -> List Cell -> Option (List Bool × List Cell)
 | [], [] => some ([], [])
 | .imm :: ms, c :: cs => match flat un s.d s.obj c with
  | some (b, c') => match zBP un s ms cs with
   | some (q, l) => some (b ++ q, c' :: l)
   | none => none
  | none => none
 | .own e :: ms, .ref o st ex :: cs => match s.obj o with
  | .row st' hm fr e' t xs => match Nat.beq st st' && (Nat.beq e e' && (ex.whole && !(un && t.hasH))) with
   | true => match zBP un s ms cs with
    | some (q, l) => some (q, .sl (fr && !hm) t (ex.cut xs) :: l)
    | none => none
   | false => none
  | _ => none
 | .own _ :: ms, .nil :: cs => match zBP un s ms cs with
  | some (q, l) => some (q, .nil :: l)
  | none => none
 | .back o :: ms, cs => match s.obj o with
  | .row _ true fr _ t xs => match un && t.hasH with
   | false => match zBP un s ms cs with
    | some (q, l) => some (q, .sl fr t xs :: l)
    | none => none
   | true => none
  | _ => none
 | _, _ => none
def ownRefs : List OutF -> List Cell -> List Nat
 | .imm :: ms, _ :: cs => ownRefs ms cs
 | .own _ :: ms, .ref o _ _ :: cs => o :: ownRefs ms cs
 | .own _ :: ms, _ :: cs => ownRefs ms cs
 | .back _ :: ms, cs => ownRefs ms cs
 | _, _ => []
def zCI : List OutF -> List Nat
 | [] => []
 | .back o :: r => o :: zCI r
 | .imm :: r => zCI r
 | .own _ :: r => zCI r
def immOuts : List OutF -> List Cell -> List Nat
 | .imm :: ms, .ref o _ _ :: cs => o :: immOuts ms cs
 | .imm :: ms, _ :: cs => immOuts ms cs
 | .own _ :: ms, _ :: cs => immOuts ms cs
 | .back _ :: ms, cs => immOuts ms cs
 | _, _ => []
def allBelow : List Nat -> Bool
 | [] => true
 | m :: r => Nat.blt m HP && allBelow r
def nodup : List Nat -> Bool
 | [] => true
 | n :: r => !memb n r && nodup r
def zBI : List FPar -> List Nat
 | [] => []
 | .val _ _ :: r => zBI r
 | .box o _ :: r => o :: zBI r
def XFunc.final (f : XFunc) (s : S) : Option f.ret.den :=
 match zCT s f.rets with
 | some (a, os) => match boxCells s f.pars with
  | some b => match nodup (os ++ (ownRefs f.outs (a ++ b) ++ (zBI f.pars ++ zCI f.outs))) && allBelow (os ++ (ownRefs f.outs (a ++ b) ++ (zBI f.pars ++ zCI f.outs))) with
   | true => match zBP (!f.hp) s f.outs (a ++ b), apartL (immOuts f.outs (a ++ b)) (os ++ (ownRefs f.outs (a ++ b) ++ (zBI f.pars ++ zCI f.outs))) with
    | some (q, out), true => match f.ret.ofCells noLook out with
     | some (fr, r, []) => bif (!(f.fresh || f.keep) || fr) then bif conj q then some r else none else none
     | _ => none
    | _, _ => none
   | false => none
  | none => none
 | none => none
def putAll : List (Nat × Nat × Hnd) -> List Ghost
 | [] => []
 | (o, _, _) :: r => .hput o :: putAll r
def XFunc.endK (f : XFunc) : Ex -> S -> Option f.ret.den
 | .exit _, _ => none
 | _, s => match s.k with
  | [] => f.final s
  | k => bindO (s.ghosts (putAll k)) f.final
def XFunc.run (f : XFunc) (Φ : Env) (N : Nat) (x : f.arg.den) : Option f.ret.den :=
 match f.init (f.arg.cells f.keep x) with
 | some s => f.body.runK Φ N s f.endK
 | none => none
def XFunc.endKH (f : XFunc) : Ex -> S -> Option (f.ret.den × List HRow)
 | .exit _, _ => none
 | _, s => bindO (s.ghosts (putAll s.k)) fun s' => bindO (f.final s') fun r => some (r, s'.d)
def XFunc.runH (f : XFunc) (Φ : Env) (N : Nat) (x : f.arg.den) (D : List HRow) : Option (f.ret.den × List HRow) :=
 match f.init (f.arg.cells f.keep x) D with
 | some s => f.body.runK Φ N s f.endKH
 | none => none
structure FS where
 arg : Ty
 ret : Ty
 fresh : Bool
 F : arg.den -> Option ret.den
 keep : Bool := false
 hp : Bool := false
 H : arg.den -> List HRow -> Option (ret.den × List HRow) := fun _ _ => none
def FS.call (f : FS) (inp : List Cell) (D : List HRow) {R : Type} (k : List Cell -> List HRow -> Option R) : Option R :=
 match f.arg.ofCells noLook inp with
 | some (fl, x, []) => match f.hp with
  | false => bindO (f.F x) fun r => k (f.ret.cells ((f.fresh && !f.keep) || (f.keep && fl)) r) []
  | true => bindO (f.H x D) fun p => k (f.ret.cells ((f.fresh && !f.keep) || (f.keep && fl)) p.1) p.2
 | _ => none
def tbl : List (Nat × FS) -> FS -> Nat -> FS
 | [], d, _ => d
 | (m, f) :: r, d, n => match Nat.beq n m with
  | true => f
  | false => tbl r d n
def noFS : FS := { arg := .unit, ret := .unit, fresh := false, F := fun _ => none }
def envOf (fs : Nat -> FS) : Env := fun g inp D _ k => (fs g).call inp D k
inductive RetS where
 | val (agg : Bool) (n : Nat)
 | ptr (n : Nat)
structure Sig where
 pars : List FPar
 rowsIn : List (Option (Nat × Nat))
 rets : List RetS
 outs : List OutF
 hp : Bool := false
end Go.Kb
/- Short names for the texts that a program prints. -/
namespace Go.Kb
def mv (d n : Nat) : XOp := ⟨some d, .move, [.slot n], [], [], none, false, .none⟩
def o1 (d : Nat) (k : XK) (a : Nat) : XOp := ⟨some d, k, [.slot a], [], [], none, false, .none⟩
def o2 (d : Nat) (k : XK) (a b : Nat) : XOp := ⟨some d, k, [.slot a, .slot b], [], [], none, false, .none⟩
def op (d : Nat) (k : XK) (a : List XArg) : XOp := ⟨some d, k, a, [], [], none, false, .none⟩
def ow (d : Nat) (k : XK) (a : List XArg) (ro wo : List Nat) : XOp := ⟨some d, k, a, ro, wo, none, false, .none⟩
def on (k : XK) (a : List XArg) (ro wo : List Nat) : XOp := ⟨none, k, a, ro, wo, none, false, .none⟩
def no (n : Nat) : List (Option (Nat × Nat)) := List.replicate n none
def ims (n : Nat) : List OutC := List.replicate n .imm
def vs (n : Nat) : List XPar := List.replicate n (.val false 1)
def cI (n : Int) : XArg := .const (.one (.int .i64 n))
def cB (b : Bool) : XArg := .const (.one (.bool b))
def cZ : Cell := .int .i64 0
def gX (d : Nat) (k : XK) (a : List XArg) (r w : List Nat) (x : Nat) (b : Bool) : XOp := ⟨some d, k, a, r, w, some (x, b), false, .none⟩
def sX (d : Nat) (a : List XArg) : XOp := ⟨some d, .move, a, [], [], none, true, .none⟩
def rG (l : List XOp) : XCode := .region false l
def jK (n : Nat) (l : List (Nat × V)) : List V := l.foldl (fun t p => t.set p.1 p.2) (List.replicate n .junk)
def sl (l : List Nat) : List XArg := l.map .slot
def lN (d m o : Nat) : XOp := ow d (.load false 1) [.slot m] [o] []
def lU (d k m o : Nat) : XOp := ow d (.load true k) [.slot m] [o] []
def fA (d k m : Nat) : XOp := o1 d (.fieldAddr k) m
def sT (k a b o : Nat) : XOp := on (.store k) [.slot a, .slot b] [o] [o]
def eX (d k m : Nat) : XOp := o1 d (.extract k) m
def rB (n : Nat) : List RetC := List.replicate n (.val false 1)
def iF (n : Nat) : List OutF := List.replicate n .imm
def xF (n o : Nat) (p : List FPar) (r : List (Option (Nat × Nat))) (t : List RetF) (u : List OutF) (f : Bool) (a b : Ty) (c : XCode) : XFunc := { nslots := n, nobj := o, pars := p, rowsIn := r, rets := t, outs := u, fresh := f, arg := a, ret := b, body := c }
def fS (x : XFunc) (b : Bool) (F : x.arg.den -> Option x.ret.den) : FS := { arg := x.arg, ret := x.ret, fresh := b, F := F }
def gF (d k a x : Nat) (b : Bool) : XOp := ⟨some d, .fieldAddr k, [.slot a], [], [], some (x, b), false, .none⟩
def gL (d a o x : Nat) (b : Bool) : XOp := ⟨some d, .load false 1, [.slot a], [o], [], some (x, b), false, .none⟩
def gM (d a x : Nat) (b : Bool) : XOp := ⟨some d, .move, [.slot a], [], [], some (x, b), false, .none⟩
def rI (s d : Nat) (b : Bool) : XCode := .cond (.slot s) (.seq (.region false [⟨some d, .move, [.const (.one (.bool b))], [], [], none, false, .none⟩]) .ret) .skip
def cX (s e : Nat) : XCode := .cond (.slot s) .skip (.exit e)
def cO (f : Nat) (p : List XPar) (n : Nat) (b : Bool) : XK := .call ⟨f, p, List.replicate n none, [.val false 1], List.replicate 1 .imm, b⟩
def sB (a b : XCode) (i : Nat) (h : List Ghost) (c d : XCode) : XCode := .seq a (.seq (.seq b (.block i (.loop h c))) d)
@[reducible] def rK {R : Type} (Φ : Env) (N : Nat) (c : XCode) : S -> (Ex -> S -> Option R) -> Option R := fun s k => XCode.runK Φ N c s k
end Go.Kb
