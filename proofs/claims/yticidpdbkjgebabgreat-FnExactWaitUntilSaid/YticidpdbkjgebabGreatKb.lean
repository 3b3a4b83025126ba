/- The abstract machine: how its states stand for memory; what each operation does. -/
import Derived.Test.YticidpdbkjgebabGreatKa
import Derived.Laws.AppendOwn
import Derived.Laws.MakeOwn
import Derived.Laws.Cells
import Derived.Laws.Strings
import Derived.Laws.Slices
import Derived.Laws.Concat
import Derived.Laws.BytesString
import Derived.Laws.Small
import Derived.Laws.BytesArg
import Derived.Lib.Strings
import Derived.Laws.CopyRow
import Derived.Deep.AppendSrc
import Derived.Great.BuildSlice
import Derived.Laws.StructEq
/- How abstract states stand for the model's memory, and how this is kept when memory changes. -/
namespace Go.Kb
structure Stp (M : Nat -> Prop) (w w' : World) : Prop where
 os : w'.os = w.os
 tape : w'.tape = w.tape
 output : w'.output = w.output
 size : w.heap.size <= w'.heap.size
 block : ∀ b, b < w.heap.size -> ¬ M b -> w'.heap[b]? = w.heap[b]?
 sz : ∀ (b : Nat) (cur : Array Value) (T : TypeId), w.heap[b]? = some (.cells cur T (0, 0)) -> ∃ cur' : Array Value, w'.heap[b]? = some (.cells cur' T (0, 0)) /\ cur'.size = cur.size
theorem Stp.refl (M : Nat -> Prop) (w : World) : Stp M w w := ⟨rfl, rfl, rfl, nR _, fun _ _ _ => rfl, fun _ cur _ h => ⟨cur, h, rfl⟩⟩
theorem Stp.trans {M : Nat -> Prop} {a b c : World} (h : Stp M a b) (k : Stp M b c) : Stp M a c :=
 ⟨k.os.trans h.os, k.tape.trans h.tape, k.output.trans h.output, Nat.le_trans h.size k.size,
  fun i hi hm => (k.block i (Nat.lt_of_lt_of_le hi h.size) hm).trans (h.block i hi hm), fun i cur T hc => by
   obtain ⟨c1, h1, h2⟩ := h.sz i cur T hc
   obtain ⟨c2, h3, h4⟩ := k.sz i c1 T h1
   exact ⟨c2, h3, h4.trans h2⟩⟩
theorem Stp.mono {M M' : Nat -> Prop} {w w' : World} (h : Stp M w w') (hm : ∀ b, b < w.heap.size -> M b -> M' b) : Stp M' w w' :=
 ⟨h.os, h.tape, h.output, h.size, fun b hb hn => h.block b hb fun hmb => hn (hm b hb hmb), h.sz⟩
theorem Stp.drew {M : Nat -> Prop} {a w : World} (h : Stp M a w) : Stp M a { w with drawn := w.drawn + 1 } := ⟨h.os, h.tape, h.output, h.size, h.block, h.sz⟩
theorem cell_of_same {w w' : World} {a : Addr} (h : w'.heap[a.block]? = w.heap[a.block]?) : w'.cell? a = w.cell? a := by simp [World.cell?, h]
abbrev Dl := Nat -> Option (Option (Nat × Nat))
def Dle (d d' : Dl) : Prop := ∀ k m, d k = some m -> d' k = some m
theorem Dle.refl (d : Dl) : Dle d d := fun _ _ h => h
theorem Dle.trans {a b c : Dl} (h : Dle a b) (k : Dle b c) : Dle a c := fun i m hm => k i m (h i m hm)
def zCE (w : World) (m : Option (Nat × Nat)) (sz n lo len : Nat) (v : Value) : Prop :=
 (m = none /\ n = 0 /\ v = .slice none 0 0) \/
 ∃ b base a cap cur T, m = some (b, base) /\ v = .slice (some a) len cap /\ len <= cap /\ cap <= maxLen /\ a.block = b /\ a.spot = none /\ (0 < cap -> a.off = base + lo * sz) /\
  w.heap[b]? = some (.cells cur T (0, 0)) /\ base + (lo + cap) * sz <= cur.size
theorem zCE.keep {w w' : World} {m : Option (Nat × Nat)} {sz n lo len : Nat} {v : Value}
  (hk : ∀ b base cur T, m = some (b, base) -> w.heap[b]? = some (.cells cur T (0, 0)) -> ∃ cur' : Array Value, w'.heap[b]? = some (.cells cur' T (0, 0)) /\ cur'.size = cur.size)
  (h : zCE w m sz n lo len v) : zCE w' m sz n lo len v := by
 rcases h with h | ⟨b, base, a, cap, cur, T, hm, hv, h1, h2, h3, h4, h5, h6, h7⟩
 ·exact .inl h
 ·obtain ⟨cur', h8, h9⟩ := hk b base cur T hm h6
  exact .inr ⟨b, base, a, cap, cur', T, hm, hv, h1, h2, h3, h4, h5, h8, by omega⟩
def yk (w : World) (M : Nat -> Prop) (δ : Dl) (L : Nat) : (t : Ty) -> t.den -> List Value -> Prop
 | .int k, n, vs => vs = [.int k n]
 | .bool, b, vs => vs = [.bool b]
 | .str, s, vs => ∃ b : ByteArray, vs = [.string b] /\ b.data.toList = s
 | .unit, _, vs => vs = []
 | .pair t u, x, vs => ∃ p q, vs = p ++ q /\ yk w M δ L t x.1 p /\ yk w M δ L u x.2 q
 | .list t, xs, vs => ∃ a cap, vs = [.slice a (List.length xs) cap] /\ List.length xs <= cap /\
   (xs = [] \/ ∃ ad, a = some ad /\ L <= ad.block /\ ad.block < w.heap.size /\ ¬ M ad.block) /\
   ∀ (i : Nat) (x : t.den), xs[i]? = some x -> ∃ ad us, a = some ad /\ us.length = t.sz /\
    (∀ j u, us[j]? = some u -> w.cell? (ad.add (i * t.sz + j)) = some u) /\ yk w M δ L t x us
 | .hnd u, h, vs => ∃ v, vs = [v] /\ match h with
  | none => v = .slice none 0 0
  | some (k, lo, len) => ∃ m, δ k = some m /\ zCE w m u.sz (lo + len) lo len v
theorem zCE.slice' {w : World} {m : Option (Nat × Nat)} {sz n lo len : Nat} {v : Value} (h : zCE w m sz n lo len v) : ∃ a n c, v = .slice a n c := by
 rcases h with ⟨_, _, h⟩ | ⟨_, _, _, _, _, _, _, h, _⟩
 ·exact ⟨_, _, _, h⟩
 ·exact ⟨_, _, _, h⟩
theorem hnd_slice {w : World} {M : Nat -> Prop} {δ : Dl} {L : Nat} {u : Ty} {h : Hnd} {vs : List Value} (hd : yk w M δ L (.hnd u) h vs) : ∃ a n c, vs = [.slice a n c] := by
 obtain ⟨v, rfl, hd⟩ := hd
 cases h with
 | none => exact ⟨_, _, _, congrArg (fun q => [q]) hd⟩
 | some q =>
  obtain ⟨k, lo, len⟩ := q
  obtain ⟨m, _, hr⟩ := hd
  obtain ⟨a, n, c, rfl⟩ := hr.slice'
  exact ⟨_, _, _, rfl⟩
theorem yk.len {w : World} {M : Nat -> Prop} {δ : Dl} {L : Nat} : ∀ {t : Ty} {x : t.den} {vs : List Value}, yk w M δ L t x vs -> vs.length = t.sz := by
 intro t
 induction t with
 | int k => intro x vs h; subst h; rfl
 | bool => intro x vs h; subst h; rfl
 | str => intro x vs h; obtain ⟨b, rfl, _⟩ := h; rfl
 | unit => intro x vs h; subst h; rfl
 | pair t u iht ihu =>
  intro x vs h
  obtain ⟨p, q, rfl, hp, hq⟩ := h
  simp [iht hp, ihu hq, Ty.sz]
 | list t _ => intro x vs h; obtain ⟨a, cap, rfl, _⟩ := h; rfl
 | hnd t _ => intro x vs h; obtain ⟨v, rfl, _⟩ := h; rfl
theorem yk.oneCell {w : World} {M : Nat -> Prop} {δ : Dl} {L : Nat} : ∀ {t : Ty} {x : t.den} {vs : List Value}, yk w M δ L t x vs -> ∀ u ∈ vs, u.oneCell' = true := by
 intro t
 induction t with
 | int k => intro x vs h u hu; subst h; simp at hu; subst hu; rfl
 | bool => intro x vs h u hu; subst h; simp at hu; subst hu; rfl
 | str => intro x vs h u hu; obtain ⟨b, rfl, _⟩ := h; simp at hu; subst hu; rfl
 | unit => intro x vs h u hu; subst h; simp at hu
 | pair t u iht ihu =>
  intro x vs h v hv
  obtain ⟨p, q, rfl, hp, hq⟩ := h
  rcases List.mem_append.1 hv with h1 | h1
  ·exact iht hp v h1
  ·exact ihu hq v h1
 | list t _ => intro x vs h u hu; obtain ⟨a, cap, rfl, _⟩ := h; simp at hu; subst hu; rfl
 | hnd t _ => intro x vs h u hu; obtain ⟨a, n, c, rfl⟩ := hnd_slice h; simp at hu; subst hu; rfl
theorem yk.keep {w w' : World} {M M' : Nat -> Prop} {δ δ' : Dl} {L L' : Nat} (hs : Stp M w w') (hM : ∀ b, b < w.heap.size -> M' b -> M b) (hD : Dle δ δ') (hL : L' <= L) :
  ∀ {t : Ty} {x : t.den} {vs : List Value}, yk w M δ L t x vs -> yk w' M' δ' L' t x vs := by
 intro t
 induction t with
 | int k => exact fun h => h
 | bool => exact fun h => h
 | str => exact fun h => h
 | unit => exact fun h => h
 | pair t u iht ihu =>
  intro x vs h
  obtain ⟨p, q, rfl, hp, hq⟩ := h
  exact ⟨p, q, rfl, iht hp, ihu hq⟩
 | list t ih =>
  intro xs vs h
  obtain ⟨a, cap, rfl, hc, hb, hcells⟩ := h
  refine ⟨a, cap, rfl, hc, ?_, ?_⟩
  ·rcases hb with h0 | ⟨ad, rfl, h1, h2, h3⟩
   ·exact .inl h0
   ·exact .inr ⟨ad, rfl, Nat.le_trans hL h1, Nat.lt_of_lt_of_le h2 hs.size, fun hm => h3 (hM _ h2 hm)⟩
  ·intro i x hx
   obtain ⟨ad, us, rfl, hl, hcell, hd⟩ := hcells i x hx
   refine ⟨ad, us, rfl, hl, ?_, ih hd⟩
   rcases hb with h0 | ⟨ad', he, h1, h2, h3⟩
   ·subst h0; simp at hx
   ·injection he with he; subst he
    intro j u hu
    have := hcell j u hu
    rw [<- this]
    refine cell_of_same ?_
    have hblk : (ad.add (i * t.sz + j)).block = ad.block := by unfold Addr.add; split <;> rfl
    rw [hblk]
    exact hs.block _ h2 h3
 | hnd t ih =>
  intro h vs hd
  obtain ⟨v, rfl, hd⟩ := hd
  refine ⟨v, rfl, ?_⟩
  cases h with
  | none => exact hd
  | some q =>
   obtain ⟨k, lo, len⟩ := q
   obtain ⟨m, h1, h2⟩ := hd
   exact ⟨m, hD k m h1, h2.keep fun b base cur T _ hh => hs.sz b cur T hh⟩
def yv : Obj -> Prop
 | .absent _ => False
 | .heap _ _ => False
 | _ => True
structure Cx where
 μ : Nat -> Option (Nat × Nat)
 h : Nat -> Obj
 w : World
 B : Nat
 X : Nat -> Prop
 dl : Dl
def Cx.M (C : Cx) (b : Nat) : Prop := C.X b \/ ∃ o base, yv (C.h o) /\ C.μ o = some (b, base)
def Cx.L (C : Cx) (fr : Bool) : Nat := if fr then C.B else 0
def Ext.ok (n : Nat) : Ext -> Prop
 | .all => True
 | .tail l => l <= n
 | .part l h => l <= h /\ h <= n
def yl (C : Cx) : Cell -> Value -> Prop
 | .int k n, v => v = .int k n
 | .bool b, v => v = .bool b
 | .str s, v => ∃ b : ByteArray, v = .string b /\ b.data.toList = s
 | .nil, v => v = .slice none 0 0
 | .sl fr t xs, v => yk C.w C.M C.dl (C.L fr) (.list t) xs [v]
 | .hnd t h, v => yk C.w C.M C.dl 0 (.hnd t) h [v]
 | .ref o st e, v => (∃ a n c, v = .slice a n c) /\ st <= (C.h o).stamp /\ ∀ hm fr ec t xs, C.h o = .row st hm fr ec t xs -> e.ok xs.length /\ zCE C.w (C.μ o) t.sz xs.length e.lo (e.num xs.length) v
 | .ptr o st off, v => (∃ ad, v = .pointer (some ad)) /\ st <= (C.h o).stamp /\ ∀ hm cs, C.h o = .box st hm cs -> ∃ b, C.μ o = some (b, 0) /\ v = .pointer (some ⟨b, off, none⟩)
 | .dptr fr t x off, v => ∃ a us, v = .pointer (some (Addr.add a off)) /\ us.length = t.sz /\ C.L fr <= a.block /\ a.block < C.w.heap.size /\ ¬ C.M a.block /\
   (∀ j u, us[j]? = some u -> C.w.cell? (a.add j) = some u) /\ yk C.w C.M C.dl (C.L fr) t x us
 | .eptr o st i off, v => (∃ ad, v = .pointer (some ad)) /\ st <= (C.h o).stamp /\ ∀ hm fr ec t xs, C.h o = .row st hm fr ec t xs -> i < xs.length /\ ∃ b base, C.μ o = some (b, base) /\ v = .pointer (some ⟨b, base + i * t.sz + off, none⟩)
 | .junk, _ => True
def zi (C : Cx) : List Cell -> List Value -> Prop
 | [], [] => True
 | c :: cs, v :: vs => yl C c v /\ zi C cs vs
 | _, _ => False
def RepG (C : Cx) (g : Bool) (cs : List Cell) (v : Value) : Prop :=
 match g with
 | true => ∃ vs : List Value, v = .agg vs.toArray /\ zi C cs vs
 | false => ∃ c, cs = [c] /\ yl C c v
def RepGs (C : Cx) : List (Bool × List Cell) -> List Value -> Prop
 | [], [] => True
 | p :: ps, v :: vs => RepG C p.1 p.2 v /\ RepGs C ps vs
 | _, _ => False
def RepV (C : Cx) : V -> Value -> Prop
 | .one c, v => yl C c v
 | .agg cs, v => ∃ vs : List Value, v = .agg vs.toArray /\ zi C cs vs
 | .tup l, v => ∃ vs : List Value, v = .tuple vs.toArray /\ RepGs C l vs
 | .junk, _ => True
def RepElems (w : World) (M : Nat -> Prop) (δ : Dl) (L : Nat) (t : Ty) (base : Nat) (cur : Array Value) (xs : List t.den) : Prop :=
 ∀ (i : Nat) (x : t.den), xs[i]? = some x -> yk w M δ L t x ((cur.toList.drop (base + i * t.sz)).take t.sz)
def zBU (tm : Nat -> TypeId) (C : Cx) (m : Option (Nat × Nat)) : Obj -> Prop
 | .absent _ => True
 | .box _ _ cs => ∃ b vs T, m = some (b, 0) /\ C.w.heap[b]? = some (.cells vs T (0, 0)) /\ zi C cs vs.toList
 | .row _ _ fr e t xs => (m = none /\ xs = []) \/ ∃ b base cur, m = some (b, base) /\ C.w.heap[b]? = some (.cells cur (tm e) (0, 0)) /\ base + xs.length * t.sz <= cur.size /\ RepElems C.w C.M C.dl (C.L fr) t base cur xs
 | .heap _ _ => True
 | .hrow e t xs => t.pure = true /\ ((m = none /\ xs = []) \/ ∃ b base cur, m = some (b, base) /\ C.w.heap[b]? = some (.cells cur (tm e) (0, 0)) /\ base + xs.length * t.sz <= cur.size /\ RepElems C.w C.M C.dl 0 t base cur xs)
structure Fx where
 w0 : World
 M0 : Nat -> Prop
 X : Nat -> Prop
 home : Nat -> Option (Nat × Nat)
 shape : Nat -> Option (Nat × Ty × Nat)
 hX : ∀ b, X b -> b < w0.heap.size /\ ¬ M0 b
 B : Nat
 hB : B <= w0.heap.size
 dl : Dl
def Obj.shape : Obj -> Option (Nat × Ty × Nat)
 | .row _ _ _ e t xs => some (e, t, xs.length)
 | _ => none
def Obj.hm : Obj -> Bool
 | .absent _ => false
 | .box _ hm _ => hm
 | .row _ hm _ _ _ _ => hm
 | _ => false
def dlOf (n : Nat) (home : Nat -> Option (Nat × Nat)) : Dl := fun k => if k < n then some (home (HP + 1 + k)) else none
@[reducible] def S.dl (s : S) (μ : Nat -> Option (Nat × Nat)) : Dl := fun k => if k < s.d.length then some (μ (HP + 1 + k)) else none
def S.cx (s : S) (μ : Nat -> Option (Nat × Nat)) (w : World) (F : Fx) : Cx := ⟨μ, s.obj, w, F.B, F.X, s.dl μ⟩
def zBh : Obj -> Prop
 | .row _ hm fr _ _ _ => fr = true -> hm = true
 | _ => True
def Taken (K : List (Nat × Nat × Hnd)) (h : Nat -> Obj) (μ : Nat -> Option (Nat × Nat)) (n : Nat) : Prop :=
 ∀ o st x, (o, st, x) ∈ K -> st <= (h o).stamp /\ ∀ k lo len, x = some (k, lo, len) -> ∀ hm fr e t xs, h o = .row st hm fr e t xs -> k < n /\ μ o = μ (HP + 1 + k)
structure RepM (tm : Nat -> TypeId) (F : Fx) (μ : Nat -> Option (Nat × Nat)) (s : S) (a : Act) (w : World) : Prop where
 defers : a.defers = []
 size : a.tmps.size = s.t.length
 slots : ∀ (i : Nat) (v : V) (x : Value), s.t[i]? = some v -> a.tmps[i]? = some x -> RepV (s.cx μ w F) v x
 objs : ∀ o, zBU tm (s.cx μ w F) (μ o) (s.obj o)
 inj : ∀ o o' b base base', yv (s.obj o) -> yv (s.obj o') -> μ o = some (b, base) -> μ o' = some (b, base') -> o = o'
 lt : ∀ o b base, yv (s.obj o) -> μ o = some (b, base) -> b < w.heap.size
 own : ∀ o b base, yv (s.obj o) -> μ o = some (b, base) -> F.w0.heap.size <= b \/ (F.M0 b /\ (zBh (s.obj o) \/ F.B <= b))
 home : ∀ o, (s.obj o).hm = true -> μ o = F.home o /\ (s.obj o).shape = F.shape o
 frame : Stp F.M0 F.w0 w
 hl : s.h.length <= HP
 known : Dle F.dl (s.dl μ)
 taken : Taken s.k s.obj μ s.d.length
def Rep (tm : Nat -> TypeId) (F : Fx) (s : S) (a : Act) (w : World) : Prop := ∃ μ, RepM tm F μ s a w
def Evo (w w' : World) (m m' : Option (Nat × Nat)) (x x' : Obj) : Prop :=
 x.stamp <= x'.stamp /\ (x.stamp = x'.stamp -> match x' with
  | .absent _ => True
  | .heap _ _ => True
  | .hrow _ _ _ => True
  | .box _ _ _ => (∃ st hm cs, x = .box st hm cs) /\ m' = m
  | .row _ _ _ _ t xs => (∃ st hm fr e, ∃ ys : List t.den, x = .row st hm fr e t ys /\ ys.length = xs.length) /\ m' = m /\
    ∀ b base cur T, m = some (b, base) -> w.heap[b]? = some (.cells cur T (0, 0)) -> ∃ cur' : Array Value, w'.heap[b]? = some (.cells cur' T (0, 0)) /\ cur'.size = cur.size)
theorem Evo.refl (w : World) (m : Option (Nat × Nat)) (x : Obj) : Evo w w m m x x := by
 refine ⟨nR _, fun _ => ?_⟩
 cases x with
 | absent st => trivial
 | heap D K => trivial
 | hrow e t xs => trivial
 | box st hm cs => exact ⟨⟨st, hm, cs, rfl⟩, rfl⟩
 | row st hm fr e t xs => exact ⟨⟨st, hm, fr, e, xs, rfl, rfl⟩, rfl, fun b base cur T _ h => ⟨cur, h, rfl⟩⟩
theorem Evo.same {w w' : World} {m : Option (Nat × Nat)} {x : Obj} (h : ∀ b base, m = some (b, base) -> w'.heap[b]? = w.heap[b]?) : Evo w w' m m x x := by
 refine ⟨nR _, fun _ => ?_⟩
 cases x with
 | absent st => trivial
 | heap D K => trivial
 | hrow e t xs => trivial
 | box st hm cs => exact ⟨⟨st, hm, cs, rfl⟩, rfl⟩
 | row st hm fr e t xs => exact ⟨⟨st, hm, fr, e, xs, rfl, rfl⟩, rfl, fun b base cur T hm hh => ⟨cur, (h b base hm).trans hh, rfl⟩⟩
theorem Taken.keep {K : List (Nat × Nat × Hnd)} {h h' : Nat -> Obj} {μ μ' : Nat -> Option (Nat × Nat)} {n n' : Nat} {w w' : World} (hk : Taken K h μ n) (he : ∀ o, Evo w w' (μ o) (μ' o) (h o) (h' o))
  (hn : n <= n') (hd : ∀ k, k < n -> μ' (HP + 1 + k) = μ (HP + 1 + k)) : Taken K h' μ' n' := by
 intro o st x hm
 obtain ⟨h1, h2⟩ := hk o st x hm
 obtain ⟨h3, h4⟩ := he o
 refine ⟨Nat.le_trans h1 h3, fun k lo len hx hm' fr e t xs ho => ?_⟩
 have hst : (h' o).stamp = st := by rw [ho]; rfl
 have := h4 (by omega)
 rw [ho] at this
 obtain ⟨⟨st0, hm0, fr0, e0, ys, hy, _⟩, hmu, _⟩ := this
 have hst0 : st0 = st := by have : (h o).stamp = st0 := by rw [hy]; rfl
                            omega
 subst hst0
 obtain ⟨h5, h6⟩ := h2 k lo len hx hm0 fr0 e0 t ys hy
 exact ⟨Nat.lt_of_lt_of_le h5 hn, by rw [hmu, hd k h5, h6]⟩
theorem Evo.newer {w w' : World} {m m' : Option (Nat × Nat)} {x x' : Obj} (h : x.stamp < x'.stamp) : Evo w w' m m' x x' :=
 ⟨Nat.le_of_lt h, fun e => absurd e (Nat.ne_of_lt h)⟩
theorem yl.keep {C C' : Cx} (hB : C'.B = C.B) (hs : Stp C.M C.w C'.w) (hM : ∀ b, b < C.w.heap.size -> C'.M b -> C.M b) (hD : Dle C.dl C'.dl)
  (he : ∀ o, Evo C.w C'.w (C.μ o) (C'.μ o) (C.h o) (C'.h o)) {c : Cell} {v : Value} (h : yl C c v) : yl C' c v := by
 have hL : ∀ fr, C'.L fr <= C.L fr := fun fr => by simp [Cx.L, hB]
 cases c with
 | int k n => exact h
 | bool b => exact h
 | str s => exact h
 | nil => exact h
 | sl fr t xs => exact yk.keep hs hM hD (hL fr) h
 | hnd t x => exact yk.keep hs hM hD (nR _) h
 | ref o st e =>
  obtain ⟨h0, h1, h2⟩ := h
  obtain ⟨e1, e2⟩ := he o
  refine ⟨h0, Nat.le_trans h1 e1, fun hm fr ec t xs hx => ?_⟩
  have hst : (C'.h o).stamp = st := by rw [hx]; rfl
  have := e2 (by omega)
  rw [hx] at this
  obtain ⟨⟨st0, hm0, fr0, e0, ys, hy, hlen⟩, hmu, hcap⟩ := this
  have hst0 : st0 = st := by have : (C.h o).stamp = st0 := by rw [hy]; rfl
                             omega
  subst hst0
  obtain ⟨h3, h4⟩ := h2 hm0 fr0 e0 t ys hy
  rw [hlen] at h3 h4
  rw [hmu]
  exact ⟨h3, h4.keep hcap⟩
 | ptr o st off =>
  obtain ⟨h0, h1, h2⟩ := h
  obtain ⟨e1, e2⟩ := he o
  refine ⟨h0, Nat.le_trans h1 e1, fun hm cs hx => ?_⟩
  have hst : (C'.h o).stamp = st := by rw [hx]; rfl
  have := e2 (by omega)
  rw [hx] at this
  obtain ⟨⟨st0, hm0, cs0, hy⟩, hmu⟩ := this
  have hst0 : st0 = st := by have : (C.h o).stamp = st0 := by rw [hy]; rfl
                             omega
  subst hst0
  rw [hmu]
  exact h2 hm0 cs0 hy
 | dptr fr t x off =>
  obtain ⟨a, us, h1, h2, h3, h4, h5, h6, h7⟩ := h
  refine ⟨a, us, h1, h2, Nat.le_trans (hL fr) h3, Nat.lt_of_lt_of_le h4 hs.size, fun hm => h5 (hM _ h4 hm), fun j u hu => ?_, yk.keep hs hM hD (hL fr) h7⟩
  rw [<- h6 j u hu]
  refine cell_of_same ?_
  have hblk : (a.add j).block = a.block := by unfold Addr.add; split <;> rfl
  rw [hblk]
  exact hs.block _ h4 h5
 | eptr o st i off =>
  obtain ⟨h0, h1, h2⟩ := h
  obtain ⟨e1, e2⟩ := he o
  refine ⟨h0, Nat.le_trans h1 e1, fun hm fr ec t xs hx => ?_⟩
  have hst : (C'.h o).stamp = st := by rw [hx]; rfl
  have := e2 (by omega)
  rw [hx] at this
  obtain ⟨⟨st0, hm0, fr0, e0, ys, hy, hlen⟩, hmu, hcap⟩ := this
  have hst0 : st0 = st := by have : (C.h o).stamp = st0 := by rw [hy]; rfl
                             omega
  subst hst0
  obtain ⟨h3, h4⟩ := h2 hm0 fr0 e0 t ys hy
  rw [hlen] at h3
  rw [hmu]
  exact ⟨h3, h4⟩
 | junk => trivial
section
variable {C C' : Cx} (hk : ∀ c v, yl C c v -> yl C' c v)
include hk
theorem zi.map : ∀ {cs : List Cell} {vs : List Value}, zi C cs vs -> zi C' cs vs
 | [], [], _ => trivial
 | _ :: _, _ :: _, h => ⟨hk _ _ h.1, zi.map h.2⟩
 | [], _ :: _, h => h.elim
 | _ :: _, [], h => h.elim
theorem RepG.map {g : Bool} {cs : List Cell} {v : Value} (h : RepG C g cs v) : RepG C' g cs v := by
 cases g with
 | true => obtain ⟨vs, rfl, hc⟩ := h; exact ⟨vs, rfl, zi.map hk hc⟩
 | false => obtain ⟨c, rfl, hc⟩ := h; exact ⟨c, rfl, hk _ _ hc⟩
theorem RepGs.map : ∀ {l : List (Bool × List Cell)} {vs : List Value}, RepGs C l vs -> RepGs C' l vs
 | [], [], _ => trivial
 | _ :: _, _ :: _, h => ⟨RepG.map hk h.1, RepGs.map h.2⟩
 | [], _ :: _, h => h.elim
 | _ :: _, [], h => h.elim
theorem RepV.map {x : V} {v : Value} (h : RepV C x v) : RepV C' x v := by
 cases x with
 | one c => exact hk _ _ h
 | agg cs => obtain ⟨vs, rfl, hc⟩ := h; exact ⟨vs, rfl, zi.map hk hc⟩
 | tup l => obtain ⟨vs, rfl, hc⟩ := h; exact ⟨vs, rfl, RepGs.map hk hc⟩
 | junk => trivial
end
theorem RepElems.keep {w w' : World} {M M' : Nat -> Prop} {δ δ' : Dl} {L L' : Nat} {t : Ty} {base : Nat} {cur : Array Value} {xs : List t.den}
  (hs : Stp M w w') (hM : ∀ b, b < w.heap.size -> M' b -> M b) (hD : Dle δ δ') (hL : L' <= L) (h : RepElems w M δ L t base cur xs) : RepElems w' M' δ' L' t base cur xs :=
 fun i x hx => (h i x hx).keep hs hM hD hL
theorem zBU.keep {tm : Nat -> TypeId} {C C' : Cx} (hB : C'.B = C.B) (hs : Stp C.M C.w C'.w) (hM : ∀ b, b < C.w.heap.size -> C'.M b -> C.M b) (hD : Dle C.dl C'.dl)
  (he : ∀ o, Evo C.w C'.w (C.μ o) (C'.μ o) (C.h o) (C'.h o)) {m : Option (Nat × Nat)} {x : Obj}
  (hb : ∀ b base, m = some (b, base) -> C'.w.heap[b]? = C.w.heap[b]?) (h : zBU tm C m x) : zBU tm C' m x := by
 have hL : ∀ fr, C'.L fr <= C.L fr := fun fr => by simp [Cx.L, hB]
 cases x with
 | absent st => trivial
 | box st hm cs =>
  obtain ⟨b, vs, T, h1, h2, h3⟩ := h
  exact ⟨b, vs, T, h1, (hb b 0 h1).trans h2, zi.map (fun c v hc => yl.keep hB hs hM hD he hc) h3⟩
 | row st hm fr e t xs =>
  rcases h with h | ⟨b, base, cur, h1, h2, h3, h4⟩
  ·exact .inl h
  ·exact .inr ⟨b, base, cur, h1, (hb b base h1).trans h2, h3, h4.keep hs hM hD (hL fr)⟩
 | heap D K => trivial
 | hrow e t xs =>
  obtain ⟨hp, h⟩ := h
  refine ⟨hp, ?_⟩
  rcases h with h | ⟨b, base, cur, h1, h2, h3, h4⟩
  ·exact .inl h
  ·exact .inr ⟨b, base, cur, h1, (hb b base h1).trans h2, h3, h4.keep hs hM hD (nR _)⟩
end Go.Kb
/- The operations that leave memory as it is. -/
namespace Go.Kb
theorem wp_value {P : Program} {o : Oper} {a : Act} {w w' : World} {x : Value} {K : Act -> World -> Prop} {Q : Exit -> Act -> World -> Prop}
  (h : (execOp a.eval o).run P w = .ok (.value x) w') (hK : K (a.put o.dst x) w') : o.wp P a w K Q := by
 unfold Oper.wp; rw [h]; exact hK
theorem wp_skipped {P : Program} {o : Oper} {a : Act} {w w' : World} {K : Act -> World -> Prop} {Q : Exit -> Act -> World -> Prop}
  (h : (execOp a.eval o).run P w = .ok .skip w') (hK : K (a.put o.dst undef) w') : o.wp P a w K Q := by
 unfold Oper.wp; rw [h]; exact hK
theorem put_obj (s : S) (d : Option Nat) (v : V) : (s.put d v).obj = s.obj := by cases d <;> rfl
theorem put_h (s : S) (d : Option Nat) (v : V) : (s.put d v).h = s.h := by cases d <;> rfl
theorem put_d (s : S) (d : Option Nat) (v : V) : (s.put d v).d = s.d := by cases d <;> rfl
theorem put_k (s : S) (d : Option Nat) (v : V) : (s.put d v).k = s.k := by cases d <;> rfl
theorem put_len (s : S) (d : Option Nat) (v : V) : (s.put d v).t.length = s.t.length := by cases d <;> simp [S.put]
theorem put_cx (s : S) (d : Option Nat) (v : V) (μ : Nat -> Option (Nat × Nat)) (w : World) (F : Fx) : (s.put d v).cx μ w F = s.cx μ w F := by
 have h : (s.put d v).dl μ = s.dl μ := by unfold S.dl; rw [put_d]
 simp [S.cx, put_obj, h]
theorem put_slots {s : S} {a : Act} {d : Option Nat} {v : V} {x : Value} {R : V -> Value -> Prop} (hn : a.tmps.size = s.t.length)
  (h : ∀ (i : Nat) (v : V) (x : Value), s.t[i]? = some v -> a.tmps[i]? = some x -> R v x) (hv : R v x) :
  ∀ (i : Nat) (u : V) (y : Value), (s.put d v).t[i]? = some u -> (a.put d x).tmps[i]? = some y -> R u y := by
 cases d with
 | none => exact h
 | some n =>
  intro i u y hu hy
  simp only [S.put, Act.put] at hu hy
  by_cases hi : n = i
  ·subst hi
   by_cases hlt : n < s.t.length
   ·rw [List.getElem?_set_self hlt] at hu
    rw [Array.getElem?_setIfInBounds_self_of_lt (by omega)] at hy
    injection hu with hu; injection hy with hy
    subst hu; subst hy; exact hv
   ·rw [List.getElem?_eq_none (by simp; omega)] at hu
    cases hu
  ·rw [List.getElem?_set_ne hi] at hu
   rw [Array.getElem?_setIfInBounds_ne hi] at hy
   exact h i u y hu hy
theorem act_size (a : Act) (d : Option Nat) (x : Value) : (a.put d x).tmps.size = a.tmps.size := by cases d <;> simp [Act.put]
theorem act_defers (a : Act) (d : Option Nat) (x : Value) : (a.put d x).defers = a.defers := by cases d <;> rfl
theorem RepM.put {tm : Nat -> TypeId} {F : Fx} {μ : Nat -> Option (Nat × Nat)} {s : S} {a : Act} {w : World} (h : RepM tm F μ s a w) (d : Option Nat) {v : V} {x : Value}
  (hv : RepV (s.cx μ w F) v x) : RepM tm F μ (s.put d v) (a.put d x) w where
 defers := by rw [act_defers]; exact h.defers
 size := by rw [act_size, put_len]; exact h.size
 slots := by rw [put_cx]; exact put_slots h.size h.slots hv
 objs := by rw [put_cx, put_obj]; exact h.objs
 inj := by rw [put_obj]; exact h.inj
 lt := by rw [put_obj]; exact h.lt
 own := by rw [put_obj]; exact h.own
 home := by rw [put_obj]; exact h.home
 frame := h.frame
 hl := by rw [put_h]; exact h.hl
 known := by unfold S.dl; rw [put_d]; exact h.known
 taken := by rw [put_k, put_obj, put_d]; exact h.taken
theorem undef_rep (C : Cx) : RepV C (.tup []) undef := ⟨[], rfl, trivial⟩
def constCell : Cell -> Value -> Bool
 | .int k n, .int j m => k == j && n == m
 | .bool b, .bool c => b == c
 | .str s, .string t => s == t.data.toList
 | .nil, .slice none 0 0 => true
 | .junk, _ => true
 | _, _ => false
def zBc : List Cell -> List Value -> Bool
 | [], [] => true
 | c :: cs, v :: vs => constCell c v && zBc cs vs
 | _, _ => false
def constV : V -> Value -> Bool
 | .junk, _ => true
 | .agg cs, .agg vs => zBc cs vs.toList
 | .one _c, .agg _ => false
 | .one _c, .tuple _ => false
 | .one c, v => constCell c v
 | _, _ => false
theorem constCell_rep {C : Cx} {c : Cell} {v : Value} (h : constCell c v = true) : yl C c v := by
 unfold constCell at h
 split at h
 ·simp at h; obtain ⟨rfl, rfl⟩ := h; rfl
 ·simp at h; subst h; rfl
 ·simp at h; exact ⟨_, rfl, h.symm⟩
 ·rfl
 ·trivial
 ·cases h
theorem zCD {C : Cx} : ∀ {cs : List Cell} {vs : List Value}, zBc cs vs = true -> zi C cs vs
 | [], [], _ => trivial
 | _ :: _, _ :: _, h => by
  simp [zBc] at h
  exact ⟨constCell_rep h.1, zCD h.2⟩
 | [], _ :: _, h => by simp [zBc] at h
 | _ :: _, [], h => by simp [zBc] at h
theorem constV_rep {C : Cx} {x : V} {v : Value} (h : constV x v = true) : RepV C x v := by
 unfold constV at h
 split at h
 ·trivial
 ·exact ⟨_, by simp, zCD h⟩
 ·cases h
 ·cases h
 ·exact constCell_rep h
 ·cases h
def argOk : XArg -> Operand -> Bool
 | .slot n, .tmp t => n == t
 | .const v, .const x => constV v x
 | _, _ => false
def argsOk : List XArg -> List Operand -> Bool
 | [], [] => true
 | a :: r, x :: y => argOk a x && argsOk r y
 | _, _ => false
theorem arg_rep {tm : Nat -> TypeId} {F : Fx} {μ : Nat -> Option (Nat × Nat)} {s : S} {a : Act} {w : World} (h : RepM tm F μ s a w) {y : XArg} {x : Operand} (hy : argOk y x = true) :
  RepV (s.cx μ w F) (y.eval s) (a.eval x) := by
 unfold argOk at hy
 split at hy
 ·rename_i n t
  simp at hy
  subst hy
  simp only [XArg.eval, S.slot, Act.eval]
  by_cases hlt : n < s.t.length
  ·have h1 : s.t[n]? = some s.t[n] := List.getElem?_eq_getElem hlt
   have h2 : a.tmps[n]? = some (a.tmps[n]'(by rw [h.size]; exact hlt)) := Array.getElem?_eq_getElem (by rw [h.size]; exact hlt)
   have := h.slots n _ _ h1 h2
   rw [List.getD_eq_getElem?_getD, h1]
   simp only [Array.getD_eq_getD_getElem?, h2, Option.getD_some]
   exact this
  ·rw [List.getD_eq_getElem?_getD, List.getElem?_eq_none (by omega)]
   trivial
 ·exact constV_rep hy
 ·cases hy
def RepVs (C : Cx) : List V -> List Value -> Prop
 | [], [] => True
 | v :: vs, x :: xs => RepV C v x /\ RepVs C vs xs
 | _, _ => False
theorem args_rep {tm : Nat -> TypeId} {F : Fx} {μ : Nat -> Option (Nat × Nat)} {s : S} {a : Act} {w : World} (h : RepM tm F μ s a w) :
  ∀ {ys : List XArg} {xs : List Operand}, argsOk ys xs = true -> RepVs (s.cx μ w F) (zCG s ys) (xs.map a.eval)
 | [], [], _ => trivial
 | _ :: _, _ :: _, hy => by
  simp [argsOk] at hy
  exact ⟨arg_rep h hy.1, args_rep h hy.2⟩
 | [], _ :: _, hy => by simp [argsOk] at hy
 | _ :: _, [], hy => by simp [argsOk] at hy
theorem zi.len {C : Cx} : ∀ {cs : List Cell} {vs : List Value}, zi C cs vs -> cs.length = vs.length
 | [], [], _ => rfl
 | _ :: _, _ :: _, h => by simp [zi.len h.2]
 | [], _ :: _, h => h.elim
 | _ :: _, [], h => h.elim
theorem zi.drop {C : Cx} : ∀ (n : Nat) {cs : List Cell} {vs : List Value}, zi C cs vs -> zi C (cs.drop n) (vs.drop n)
 | 0, _, _, h => h
 | _n + 1, [], [], _ => trivial
 | n + 1, _ :: _, _ :: _, h => zi.drop n h.2
 | _ + 1, [], _ :: _, h => h.elim
 | _ + 1, _ :: _, [], h => h.elim
theorem zi.take {C : Cx} : ∀ (n : Nat) {cs : List Cell} {vs : List Value}, zi C cs vs -> zi C (cs.take n) (vs.take n)
 | 0, _, _, _ => trivial
 | _n + 1, [], [], _ => trivial
 | n + 1, _ :: _, _ :: _, h => ⟨h.1, zi.take n h.2⟩
 | _ + 1, [], _ :: _, h => h.elim
 | _ + 1, _ :: _, [], h => h.elim
theorem zi.append {C : Cx} : ∀ {cs ds : List Cell} {vs us : List Value}, zi C cs vs -> zi C ds us -> zi C (cs ++ ds) (vs ++ us)
 | [], _, [], _, _, h => h
 | _ :: _, _, _ :: _, _, h, k => ⟨h.1, zi.append h.2 k⟩
 | [], _, _ :: _, _, h, _ => h.elim
 | _ :: _, _, [], _, h, _ => h.elim
theorem zi.get {C : Cx} : ∀ {cs : List Cell} {vs : List Value} (i : Nat) {c : Cell} {v : Value}, zi C cs vs -> cs[i]? = some c -> vs[i]? = some v -> yl C c v
 | _ :: _, _ :: _, 0, _, _, h, hc, hv => by simp at hc hv; subst hc; subst hv; exact h.1
 | _ :: _, _ :: _, i + 1, _, _, h, hc, hv => zi.get i h.2 (by simpa using hc) (by simpa using hv)
 | [], [], i, _, _, _, hc, _ => by simp at hc
 | [], _ :: _, _, _, _, h, _, _ => h.elim
 | _ :: _, [], _, _, _, h, _, _ => h.elim
theorem zi.set {C : Cx} : ∀ {cs : List Cell} {vs : List Value} (i : Nat) {c : Cell} {v : Value}, zi C cs vs -> yl C c v -> zi C (cs.set i c) (vs.set i v)
 | [], [], _, _, _, _, _ => trivial
 | _ :: _, _ :: _, 0, _, _, h, hc => ⟨hc, h.2⟩
 | _ :: _, _ :: _, i + 1, _, _, h, hc => ⟨h.1, zi.set i h.2 hc⟩
 | [], _ :: _, _, _, _, h, _ => h.elim
 | _ :: _, [], _, _, _, h, _ => h.elim
theorem cells_rep {C : Cx} {fr : Bool} : ∀ {t : Ty} {x : t.den} {vs : List Value}, yk C.w C.M C.dl (C.L fr) t x vs -> zi C (t.cells fr x) vs := by
 intro t
 induction t with
 | int k => intro x vs h; subst h; exact ⟨rfl, trivial⟩
 | bool => intro x vs h; subst h; exact ⟨rfl, trivial⟩
 | str => intro x vs h; obtain ⟨b, rfl, hb⟩ := h; exact ⟨⟨b, rfl, hb⟩, trivial⟩
 | unit => intro x vs h; subst h; trivial
 | pair t u iht ihu =>
  intro x vs h
  obtain ⟨p, q, rfl, hp, hq⟩ := h
  exact (iht hp).append (ihu hq)
 | list t _ =>
  intro x vs h
  have h' := h
  obtain ⟨a, cap, rfl, _⟩ := h
  exact ⟨h', trivial⟩
 | hnd t _ =>
  intro x vs h
  have h' := h
  obtain ⟨a, n, c, rfl⟩ := hnd_slice h
  exact ⟨h', trivial⟩
end Go.Kb
/- Operations that only reckon or read: what the model makes of them. -/
namespace Go.Kb
theorem zB4 {a : Addr} (h : a.spot = none) (n : Nat) : a.add n = ⟨a.block, a.off + n, none⟩ := by
 unfold Addr.add
 split
 ·rename_i h0; subst h0; cases a; simp_all
 ·rfl
theorem add_zero' (a : Addr) : a.add 0 = a := by simp [Addr.add]
theorem add_add' (a : Addr) (i j : Nat) : (a.add i).add j = a.add (i + j) := by
 unfold Addr.add
 by_cases hi : i = 0 <;> by_cases hj : j = 0 <;> simp [hi, hj, Nat.add_assoc]
theorem add_block (a : Addr) (n : Nat) : (a.add n).block = a.block := by unfold Addr.add; split <;> rfl
def Sees (look : Nat -> Obj) (h : Nat -> Obj) : Prop := ∀ o, yv (look o) -> h o = look o
theorem sees_look (op : XOp) (s : S) : Sees (op.look s) s.obj := by
 intro o ho
 unfold XOp.look at *
 cases hm : memb o op.ro <;> simp [hm] at ho ⊢
 simp [yv] at ho
theorem Sees.row {look h : Nat -> Obj} (hs : Sees look h) {o : Nat} {x : Obj} (hx : look o = x) (hp : yv x) : h o = x := by
 rw [hs o (by rw [hx]; exact hp), hx]
def zB5 (C : Cx) (L : Nat) (t : Ty) (xs : List t.den) (v : Value) : Prop :=
 ∃ a cap, v = .slice a (List.length xs) cap /\ List.length xs <= cap /\ ∀ (i : Nat) (x : t.den), xs[i]? = some x -> ∃ ad us, a = some ad /\ us.length = t.sz /\
  (∀ j u, us[j]? = some u -> C.w.cell? (ad.add (i * t.sz + j)) = some u) /\ yk C.w C.M C.dl L t x us
theorem zB5.of_den {C : Cx} {L : Nat} {t : Ty} {xs : List t.den} {v : Value} (h : yk C.w C.M C.dl L (.list t) xs [v]) : zB5 C L t xs v := by
 obtain ⟨a, cap, hv, hc, _, hcells⟩ := h
 simp at hv
 exact ⟨a, cap, hv, hc, hcells⟩
theorem num_cut {α : Type} (e : Ext) (xs : List α) (h : e.ok xs.length) : (e.cut xs).length = e.num xs.length := by
 cases e with
 | all => rfl
 | tail l => simp [Ext.cut, Ext.num]
 | part l r => simp [Ext.cut, Ext.num, Ext.ok] at *; omega
theorem cut_get {α : Type} (e : Ext) (xs : List α) (i : Nat) (x : α) (hx : (e.cut xs)[i]? = some x) : xs[e.lo + i]? = some x := by
 cases e with
 | all => simpa [Ext.cut, Ext.lo] using hx
 | tail l => simpa [Ext.cut, Ext.lo] using hx
 | part l r =>
  simp only [Ext.cut, Ext.lo, List.getElem?_drop] at *
  rw [List.getElem?_take] at hx
  split at hx
  ·exact hx
  ·cases hx
theorem cell_lit (w : World) (b i : Nat) (cur : Array Value) (T : TypeId) (fz : Nat × Nat) (h : w.heap[b]? = some (.cells cur T fz)) : w.cell? ⟨b, i, none⟩ = cur[i]? := by
 simp [World.cell?, h]
theorem row_list {tm : Nat -> TypeId} {C : Cx} {m : Option (Nat × Nat)} {st : Nat} {hm fr : Bool} {ec : Nat} {t : Ty} {xs : List t.den} {e : Ext} {v : Value}
  (ho : zBU tm C m (.row st hm fr ec t xs)) (hok : e.ok xs.length) (hr : zCE C.w m t.sz xs.length e.lo (e.num xs.length) v) : zB5 C (C.L fr) t (e.cut xs) v := by
 rcases hr with ⟨_, hn, rfl⟩ | ⟨b, base, a, cap, cur, T, hm', rfl, h1, h2, h3, h4, h5, h6, h7⟩
 ·have hx : xs = [] := List.eq_nil_of_length_eq_zero hn
  subst hx
  have hl : (e.cut ([] : List t.den)).length = 0 := by rw [num_cut e _ hok]; cases e <;> simp_all [Ext.num, Ext.ok]
  refine ⟨none, 0, by rw [hl], by omega, fun i x hx => ?_⟩
  rw [List.getElem?_eq_none (by omega)] at hx; cases hx
 ·refine ⟨some a, cap, by rw [num_cut e _ hok], by rw [num_cut e _ hok]; exact h1, fun i x hx => ?_⟩
  have hi : i < (e.cut xs).length := (List.getElem?_eq_some_iff.1 hx).1
  have hcap : 0 < cap := by rw [num_cut e _ hok] at hi; omega
  have hx' := cut_get e xs i x hx
  rcases ho with ⟨hnone, _⟩ | ⟨b', base', cur', hm2, hh, hsz, hel⟩
  ·rw [hnone] at hm'; cases hm'
  ·rw [hm2] at hm'
   injection hm' with hm'
   injection hm' with e1 e2
   subst e1; subst e2
   rw [hh] at h6
   injection h6 with h6
   injection h6 with e3 e4
   subst e3
   have hd := hel _ _ hx'
   refine ⟨a, _, rfl, hd.len, fun j u hu => ?_, hd⟩
   rw [zB4 h4, h3, h5 hcap, cell_lit C.w b' _ _ _ _ hh]
   rw [List.getElem?_take] at hu
   split at hu
   ·rw [List.getElem?_drop] at hu
    rw [<- Array.getElem?_toList, <- hu]
    congr 1
    rw [Nat.add_mul]; omega
   ·cases hu
theorem listOf_rep {tm : Nat -> TypeId} {C : Cx} {look : Nat -> Obj} (hs : Sees look C.h) (ho : ∀ o, zBU tm C (C.μ o) (C.h o)) {t : Ty} {c : Cell} {f : Bool} {xs : List t.den} {v : Value}
  (h : listOf look t c = some (f, xs)) (hc : yl C c v) : zB5 C (C.L f) t xs v := by
 unfold listOf at h
 split at h
 ·injection h with h; injection h with h1 h2; subst h1; subst h2
  have : v = .slice none 0 0 := hc
  subst this
  exact ⟨none, 0, rfl, nR _, fun i x hx => by simp at hx⟩
 ·rename_i fr u ys
  split at h
  ·rename_i hb
   have := Ty.eq_of_beq hb
   subst this
   injection h with h; injection h with h1 h2; subst h1; subst h2
   exact zB5.of_den hc
  ·cases h
 ·rename_i o st e
  split at h
  ·rename_i st' hm fr ec u ys hl
   split at h
   ·split at h
    ·rename_i hb hb2
     have := Ty.eq_of_beq hb2
     subst this
     injection h with h; injection h with h1 h2; subst h1; subst h2
     have hx := hs.row hl trivial
     obtain ⟨_, hle, hr⟩ := hc
     obtain ⟨hok, hrow⟩ := hr _ _ _ _ _ (by rw [hx]; exact congrArg (fun q => Obj.row q hm fr ec u ys) (eB hb).symm)
     have hob := ho o
     rw [hx] at hob
     exact row_list hob hok hrow
    ·cases h
   ·cases h
  ·cases h
 ·cases h
end Go.Kb
/- The runs of the quiet operations. -/
namespace Go.Kb
def aggOf (P : Program) (T : TypeId) : Option Bool :=
 match P.underlying T with
 | some (.struct _) | some (.array _ _) => some true
 | some _ => some false
 | none => none
def sizeB (P : Program) (T : TypeId) (n : Nat) : Bool := match P.info? T with | some i => i.size == n | none => false
theorem sizeB_some {P : Program} {T : TypeId} {n : Nat} (h : sizeB P T n = true) : ∃ i, P.info? T = some i /\ i.size = n := by
 unfold sizeB at h
 split at h
 ·exact ⟨_, by assumption, by simpa using h⟩
 ·cases h
theorem run_sizeB {P : Program} {T : TypeId} {n : Nat} (h : sizeB P T n = true) (w : World) : (sizeOf T).run P w = .ok n w := by
 obtain ⟨i, hi, hn⟩ := sizeB_some h
 simp [sizeOf, typeInfo, hi, hn]
theorem run_aggOf {P : Program} {T : TypeId} {g : Bool} (h : aggOf P T = some g) (w : World) : (isAgg T).run P w = .ok g w := by
 unfold aggOf at h
 split at h <;> first
  | (injection h with h; subst h; simp [isAgg, run_underlying (by assumption)]; done)
  | (cases h; done)
  | (injection h with h; subst h
     rename_i d hd hn1 hn2
     simp only [isAgg, Sem.run_bind, run_underlying hn2, Result.andThen_ok]
     split
     ·rename_i fs; exact absurd rfl (hd fs)
     ·rename_i n e; exact absurd rfl (hn1 n e)
     ·rfl)
theorem run_v {P : Program} {s : Sem Value} {w : World} {x : Value} {w' : World} (h : s.run P w = .ok x w') : (do pure (Next.value (<- s)) : Sem Next).run P w = .ok (.value x) w' := by
 simp [h]
section
variable {P : Program} {tm : Nat -> TypeId} {C : Cx} {look : Nat -> Obj}
theorem cellsAt_rep (hs : Sees look C.h) (ho : ∀ o, zBU tm C (C.μ o) (C.h o)) {c : Cell} {cs : List Cell} {v : Value} (h : cellsAt look c = some cs) (hc : yl C c v) :
  ∃ ad us, v = .pointer (some ad) /\ zi C cs us /\ ∀ j u, us[j]? = some u -> C.w.cell? (ad.add j) = some u := by
 unfold cellsAt at h
 split at h
 ·rename_i o st off
  split at h
  ·rename_i st' hm cs' hl
   split at h
   ·rename_i hb
    injection h with h; subst h
    have hx := hs.row hl trivial
    obtain ⟨_, _, hr⟩ := hc
    obtain ⟨b, hmu, rfl⟩ := hr hm cs' (by rw [hx]; exact congrArg (fun q => Obj.box q hm cs') (eB hb).symm)
    have hob := ho o
    rw [hx] at hob
    obtain ⟨b', vs, T, hm2, hh, hcs⟩ := hob
    rw [hmu] at hm2; injection hm2 with hm2; injection hm2 with hm2 _; subst hm2
    refine ⟨_, vs.toList.drop off, rfl, hcs.drop off, fun j u hu => ?_⟩
    rw [zB4 rfl, cell_lit C.w b _ _ _ _ hh]
    rw [List.getElem?_drop] at hu
    simpa using hu
   ·cases h
  ·cases h
 ·rename_i fr t x off
  injection h with h; subst h
  obtain ⟨a, us, rfl, hl, _, _, _, hcell, hd⟩ := hc
  refine ⟨_, us.drop off, rfl, (cells_rep hd).drop off, fun j u hu => ?_⟩
  rw [add_add']
  rw [List.getElem?_drop] at hu
  exact hcell _ _ hu
 ·rename_i o st i off
  split at h
  ·rename_i st' hm fr ec t xs hl
   split at h
   ·rename_i hb
    injection h with h; subst h
    have hx := hs.row hl trivial
    obtain ⟨_, _, hr⟩ := hc
    obtain ⟨hi, b, base, hmu, rfl⟩ := hr hm fr ec t xs (by rw [hx]; exact congrArg (fun q => Obj.row q hm fr ec t xs) (eB hb).symm)
    have hob := ho o
    rw [hx] at hob
    rcases hob with ⟨hn, _⟩ | ⟨b', base', cur, hm2, hh, hsz, hel⟩
    ·rw [hmu] at hn; cases hn
    ·rw [hmu] at hm2; injection hm2 with hm2; injection hm2 with e1 e2; subst e1; subst e2
     have hg : xs[i]? = some (xs.getD i t.dflt) := by rw [List.getD_eq_getElem?_getD, List.getElem?_eq_getElem hi]; rfl
     have hd := hel i _ hg
     refine ⟨_, _, rfl, (cells_rep hd).drop off, fun j u hu => ?_⟩
     rw [zB4 rfl, cell_lit C.w b _ _ _ _ hh]
     rw [List.getElem?_drop, List.getElem?_take] at hu
     split at hu
     ·rw [List.getElem?_drop] at hu
      rw [<- Array.getElem?_toList, <- hu]
      congr 1
      show base + i * t.sz + off + j = _
      omega
     ·cases hu
   ·cases h
  ·cases h
 ·cases h
def ldV (g : Bool) (us : List Value) : Value := match g with | true => .agg us.toArray | false => us.getD 0 undef
theorem mkV_rep {g : Bool} {cs : List Cell} {vs : List Value} (h : zi C cs vs) (hg : g = false -> cs.length = 1) :
  RepV C (mkV g cs) (ldV g vs) := by
 cases g with
 | true => exact ⟨vs, rfl, h⟩
 | false =>
  have h1 := hg rfl
  match cs, vs, h, h1 with
  | [c], [v], h, _ => exact h.1
  | [c], [], h, _ => exact h.elim
  | [c], _ :: _ :: _, h, _ => exact h.2.elim
theorem run_load_rep {T : TypeId} {g : Bool} {n : Nat} (hg : aggOf P T = some g) (hn : if g then sizeB P T n = true else n = 1) {ad : Addr} {us : List Value} (hl : us.length = n)
  (hcell : ∀ j u, us[j]? = some u -> C.w.cell? (ad.add j) = some u) :
  (Instr.loadAt T (.pointer (some ad))).run P C.w = .ok (ldV g us) C.w := by
 cases g with
 | true =>
  simp only [if_true] at hn
  have hc := run_loadCells_list (P := P) C.w ad us hcell
  rw [hl] at hc
  simp [Instr.loadAt, Instr.sureAddr, loadVar, run_aggOf hg, run_sizeB hn, hc, ldV]
 | false =>
  simp only [Bool.false_eq_true, if_false] at hn
  subst hn
  match us, hl with
  | [u], _ =>
   have := hcell 0 u rfl
   rw [add_zero'] at this
   simp [Instr.loadAt, Instr.sureAddr, loadVar, run_aggOf hg, this, ldV]
theorem cmp_run {op : BinOp} {k : IntKind} {a b : Int} {c : Bool} {r : Cell} (T : TypeId) (h : binInt op k a b = some (c, r)) (hc : c = true) (w : World) :
  ∃ y, (binOp op T (.int k a) (.int k b)).run P w = .ok y w /\ yl C r y := by
 subst hc
 cases op <;> simp only [binInt] at h <;> first
  | (cases h; done)
  | (injection h with h; injection h with h1 h2; subst h2; refine ⟨_, ?_, rfl⟩; simp [binOp, Op.intArith]; done)
  | (injection h with h; injection h with h1 h2; subst h2; refine ⟨_, ?_, rfl⟩; simp [binOp, Op.intCmp]; done)
  | (injection h with h; injection h with h1 h2; subst h2; refine ⟨_, ?_, rfl⟩; simp [binOp, Op.intBits, zBo, bitOr, zBw, zBM, bitsOf]; done)
  | (injection h with h; injection h with h1 h2; subst h2; refine ⟨_, ?_, rfl⟩; simp at h1; simp [binOp, Op.intDiv, h1, quoI]; done)
end
end Go.Kb
/- What a text's operation must be for each kind; the runs of the quiet operations, together. -/
namespace Go.Kb
def szOk (P : Program) (T : TypeId) (g : Bool) (n : Nat) : Bool := cond g (sizeB P T n) (Nat.beq n 1)
theorem szOk_iff {P : Program} {T : TypeId} {g : Bool} {n : Nat} (h : szOk P T g n = true) : if g then sizeB P T n = true else n = 1 := by
 cases g with
 | true => exact h
 | false => exact eB h
def quietOk (P : Program) (eqT : TypeId -> Ty -> Bool) (k : XK) (op : Op) : Option (List Operand) :=
 match k with
 | .move => match op with
  | .move x => some [x]
  | .assign x => some [x]
  | _ => none
 | .nilck => match op with
  | .nilCheck x => some [x]
  | _ => none
 | .pick => match op with
  | .pick c a b => some [c, a, b]
  | _ => none
 | .bin b => match op with
  | .binOp b' _ x y _ => if b' = b then some [x, y] else none
  | _ => none
 | .eqBool ng => match op with
  | .binOp b' T x y _ => if b' = cond ng .neq .eql then (match P.underlying T with | some .bool => some [x, y] | _ => none) else none
  | _ => none
 | .eqAgg ng t => match op with
  | .binOp b' T x y _ => if b' = cond ng .neq .eql /\ eqT T t = true then some [x, y] else none
  | _ => none
 | .not => match op with
  | .unOp .not _ x => some [x]
  | _ => none
 | .neg => match op with
  | .unOp .neg _ x => some [x]
  | _ => none
 | .conv k => match op with
  | .convert s d x => match P.underlying s, P.underlying d with
   | some _, some (.int j) => if j = k then some [x] else none
   | _, _ => none
  | _ => none
 | .b2s => match op with
  | .convert s d x => match P.underlying s, P.underlying d with
   | some (.slice e), some .string => match P.underlying e with
    | some (.int .u8) => some [x]
    | _ => none
   | _, _ => none
  | _ => none
 | .extract i => match op with
  | .extract x j => if j = i then some [x] else none
  | _ => none
 | .field g off n => match op with
  | .field T x f => match P.underlying T with
   | some (.struct fs) => match fs[f]? with
    | some fl => if fl.offset = off /\ aggOf P fl.type = some g /\ szOk P fl.type g n = true then some [x] else none
    | none => none
   | _ => none
  | _ => none
 | .fieldAddr off => match op with
  | .fieldAddr T x f => match P.underlying T with
   | some (.struct fs) => match fs[f]? with
    | some fl => match P.info? fl.type with
     | some i => if fl.offset = off /\ i.size ≠ 0 then some [x] else none
     | none => none
    | none => none
   | _ => none
  | _ => none
 | .indexAddr t => match op with
  | .indexAddr T x i => match P.underlying T with
   | some (.slice e) => if sizeB P e t.sz = true then some [x, i] else none
   | _ => none
  | _ => none
 | .strIndex => match op with
  | .index T x i => match P.underlying T with
   | some .string => some [x, i]
   | _ => none
  | _ => none
 | .load g n => match op with
  | .load T x => if aggOf P T = some g /\ szOk P T g n = true then some [x] else none
  | _ => none
 | .slice t lo hi => match op with
  | .slice T x l h none => match P.underlying T with
   | some (.slice e) => if sizeB P e t.sz = true /\ l.isSome = lo /\ h.isSome = hi then some (x :: (l.toList ++ h.toList)) else none
   | _ => none
  | _ => none
 | .strSlice lo hi => match op with
  | .slice T x l h none => match P.underlying T with
   | some .string => if l.isSome = lo /\ h.isSome = hi then some (x :: (l.toList ++ h.toList)) else none
   | _ => none
  | _ => none
 | .len => match op with
  | .call c => match c.callee, c.args.toList, c.argTypes.toList with
   | .builtin .len, [x], [T] => match P.underlying T with
    | some (.slice _) => some [x]
    | _ => none
   | _, _, _ => none
  | _ => none
 | .strLen => match op with
  | .call c => match c.callee, c.args.toList, c.argTypes.toList with
   | .builtin .len, [x], [T] => match P.underlying T with
    | some .string => some [x]
    | _ => none
   | _, _, _ => none
  | _ => none
 | .max => match op with
  | .call c => match c.callee, c.args.toList with
   | .builtin .max, [x, y] => some [x, y]
   | _, _ => none
  | _ => none
 | .min => match op with
  | .call c => match c.callee, c.args.toList with
   | .builtin .min, [x, y] => some [x, y]
   | _, _ => none
  | _ => none
 | _ => none
theorem RepVs.one {C : Cx} {v : V} {xs : List Value} (h : RepVs C [v] xs) : ∃ x, xs = [x] /\ RepV C v x := by
 match xs, h with
 | [x], h => exact ⟨x, rfl, h.1⟩
 | [], h => exact h.elim
 | _ :: _ :: _, h => exact h.2.elim
theorem RepVs.cons {C : Cx} {v : V} {vs : List V} {xs : List Value} (h : RepVs C (v :: vs) xs) : ∃ x ys, xs = x :: ys /\ RepV C v x /\ RepVs C vs ys := by
 match xs, h with
 | x :: ys, h => exact ⟨x, ys, rfl, h.1, h.2⟩
 | [], h => exact h.elim
section
variable {P : Program} {C : Cx}
theorem addOff_rep {n : Nat} {c c' : Cell} {v : Value} (h : addOff n c = some c') (hc : yl C c v) :
  ∃ ad, v = .pointer (some ad) /\ yl C c' (.pointer (some (ad.add n))) := by
 cases c <;> simp only [addOff] at h <;> try (cases h; done)
 case ptr o st off =>
  injection h with h; subst h
  obtain ⟨⟨ad, rfl⟩, h1, h2⟩ := hc
  refine ⟨ad, rfl, ⟨_, rfl⟩, h1, fun hm cs hx => ?_⟩
  obtain ⟨b, hb, he⟩ := h2 hm cs hx
  injection he with he; injection he with he; subst he
  exact ⟨b, hb, by rw [zB4 rfl]⟩
 case dptr fr t x off =>
  injection h with h; subst h
  obtain ⟨a, us, rfl, h2⟩ := hc
  exact ⟨_, rfl, a, us, by rw [add_add'], h2⟩
 case eptr o st i off =>
  injection h with h; subst h
  obtain ⟨⟨ad, rfl⟩, h1, h2⟩ := hc
  refine ⟨ad, rfl, ⟨_, rfl⟩, h1, fun hm fr ec t xs hx => ?_⟩
  obtain ⟨hi, b, base, hb, he⟩ := h2 hm fr ec t xs hx
  injection he with he; injection he with he; subst he
  exact ⟨hi, b, base, hb, by rw [zB4 rfl]; simp [Nat.add_assoc]⟩
theorem str_len {b : ByteArray} {s : List UInt8} (h : b.data.toList = s) : b.size = s.length := by
 rw [<- h]; rfl
theorem binOpV_run {op : BinOp} {v u : V} {x y : Value} {r : Cell} (T : TypeId) (h : binOpV op v u = some (true, r)) (hx : RepV C v x) (hy : RepV C u y) (w : World) (X Y : Operand) :
  ∃ z, (do eqGuard op T X Y x y; binOp op T x y).run P w = .ok z w /\ yl C r z := by
 unfold binOpV at h
 split at h
 ·rename_i k a j b
  have hx' : x = .int k a := hx
  have hy' : y = .int j b := hy
  subst hx'; subst hy'
  have hg : (eqGuard op T X Y (.int k a) (.int j b)).run P w = .ok () w := by cases op <;> simp [eqGuard]
  have main : ∃ z, (binOp op T (.int k a) (.int j b)).run P w = .ok z w /\ yl C r z := by
   split at h
   ·injection h with h; injection h with h1 h2; subst h2
    have hb : ¬ b < 0 := by simpa using h1
    exact ⟨.int k (zBS k a b), by simp [binOp, Op.shift, hb, zBS], rfl⟩
   ·injection h with h; injection h with h1 h2; subst h2
    have hb : ¬ b < 0 := by simpa using h1
    exact ⟨.int k (zBy k a b), by simp [binOp, Op.shift, hb, zBy], rfl⟩
   ·split at h
    ·rename_i hb
     have := IntKind.code_inj (eB hb)
     subst this
     exact cmp_run T h rfl w
    ·cases h
  obtain ⟨z, h1, h2⟩ := main
  exact ⟨z, by simp [hg, h1], h2⟩
 ·rename_i a b
  obtain ⟨p, hp, rfl⟩ := (show ∃ b : ByteArray, x = .string b /\ b.data.toList = a from hx)
  obtain ⟨q, hq, rfl⟩ := (show ∃ c : ByteArray, y = .string c /\ c.data.toList = b from hy)
  subst hp; subst hq
  have hg : (eqGuard op T X Y (.string p) (.string q)).run P w = .ok () w := by cases op <;> simp [eqGuard]
  split at h
  ·injection h with h; injection h with h1 h2; subst h2
   have hl : p.size + q.size <= maxN := of_decide_eq_true h1
   refine ⟨.string (p ++ q), ?_, p ++ q, rfl, ?_⟩
   ·have hs : p.size + q.size <= 9223372036854775807 := by unfold maxN at hl; omega
    simp [hg, binOp, run_string_add_sum (P := P) w p q hs]
   ·simp
  ·injection h with h; injection h with h1 h2; subst h2
   exact ⟨.bool (p.toList == q.toList), by simp [hg, binOp, Op.stringOp], by simp [yl, ByteArray.toList_eq]⟩
  ·injection h with h; injection h with h1 h2; subst h2
   exact ⟨.bool (!(p.toList == q.toList)), by simp [hg, binOp, Op.stringOp], by simp [yl, ByteArray.toList_eq]⟩
  ·cases h
 ·cases h
end
end Go.Kb
/- Every quiet operation does what the abstract machine says. -/
namespace Go.Kb
section
variable {P : Program} {tm : Nat -> TypeId} {C : Cx} {look : Nat -> Obj} {ρ : Operand -> Value}
def Gives (P : Program) (C : Cx) (s : Sem Next) (v : V) : Prop := ∃ x, s.run P C.w = .ok (.value x) C.w /\ RepV C v x
theorem Gives.of {s : Sem Value} {v : V} {x : Value} (h : s.run P C.w = .ok x C.w) (hv : RepV C v x) : Gives P C (do pure (Next.value (<- s))) v :=
 ⟨x, by simp [h], hv⟩
theorem zAw {c c' : Bool} {v v' : V} {u u' : List (Nat × Obj)} (h : Res.done c v u = Res.done c' v' u') : c = c' /\ v = v' /\ u = u' := by
 injection h with h1 h2 h3; exact ⟨h1, h2, h3⟩
theorem q_move {x : Operand} {vs : List V} {v : V} {u : List (Nat × Obj)} (he : XK.eval .move look vs = .done true v u) (hr : RepVs C vs ([x].map ρ)) :
  u = [] /\ Gives P C (pure (.value (ρ x))) v := by
 simp only [XK.eval, E.move] at he
 split at he <;> first
  | (obtain ⟨_, rfl, rfl⟩ := zAw he
     exact ⟨rfl, ρ x, rfl, hr.1⟩)
  | cases he
theorem q_nilck {x : Operand} {vs : List V} {v : V} {u : List (Nat × Obj)} (he : XK.eval .nilck look vs = .done true v u) (hr : RepVs C vs ([x].map ρ)) :
  u = [] /\ ∃ ad, ρ x = .pointer (some ad) /\ RepV C v (.pointer (some ad)) := by
 simp only [XK.eval, E.nilck] at he
 split at he
 ·split at he
  ·rename_i c' hc'
   obtain ⟨_, rfl, rfl⟩ := zAw he
   obtain ⟨ad, h1, h2⟩ := addOff_rep hc' hr.1
   rw [add_zero'] at h2
   exact ⟨rfl, ad, h1, h2⟩
  ·cases he
 ·cases he
theorem q_pick {c a b : Operand} {vs : List V} {v : V} {u : List (Nat × Obj)} (he : XK.eval .pick look vs = .done true v u) (hr : RepVs C vs ([c, a, b].map ρ)) :
  u = [] /\ Gives P C (do pure (.value (if <- asBool (ρ c) then ρ a else ρ b))) v := by
 simp only [XK.eval, E.pick] at he
 split at he
 ·rename_i x y z
  obtain ⟨_, rfl, rfl⟩ := zAw he
  obtain ⟨h1, h2, h3, _⟩ := hr
  have hc : ρ c = .bool x := h1
  cases x
  ·exact ⟨rfl, ρ b, by simp [asBool, hc], h3⟩
  ·exact ⟨rfl, ρ a, by simp [asBool, hc], h2⟩
 ·cases he
theorem q_bin {op : BinOp} {T : TypeId} {x y : Operand} {vs : List V} {v : V} {u : List (Nat × Obj)} (he : XK.eval (.bin op) look vs = .done true v u) (hr : RepVs C vs ([x, y].map ρ)) :
  u = [] /\ Gives P C (do pure (Next.value (<- (do eqGuard op T x y (ρ x) (ρ y); binOp op T (ρ x) (ρ y))))) v := by
 simp only [XK.eval, E.bin] at he
 split at he
 ·split at he
  ·rename_i c r hb
   obtain ⟨rfl, rfl, rfl⟩ := zAw he
   obtain ⟨z, h1, h2⟩ := binOpV_run (P := P) T hb hr.1 hr.2.1 C.w x y
   exact ⟨rfl, .of h1 h2⟩
  ·cases he
 ·cases he
theorem run_equal_bool {T : TypeId} (hT : P.underlying T = some .bool) (a b : Bool) (w : World) : (Op.equal T (.bool a) (.bool b)).run P w = .ok (a == b) w :=
 run_equalIn_bool (P := P) w 9999 T a b hT
theorem q_eqBool {ng : Bool} {T : TypeId} (hT : P.underlying T = some .bool) {x y : Operand} {vs : List V} {v : V} {u : List (Nat × Obj)} (he : XK.eval (.eqBool ng) look vs = .done true v u)
  (hr : RepVs C vs ([x, y].map ρ)) :
  u = [] /\ Gives P C (do pure (Next.value (<- (do eqGuard (if ng then .neq else .eql) T x y (ρ x) (ρ y); binOp (if ng then .neq else .eql) T (ρ x) (ρ y))))) v := by
 simp only [XK.eval, E.eqBool] at he
 split at he
 ·rename_i a b
  obtain ⟨_, rfl, rfl⟩ := zAw he
  obtain ⟨h1, h2, _⟩ := hr
  have hx : ρ x = .bool a := h1
  have hy : ρ y = .bool b := h2
  refine ⟨rfl, ?_⟩
  cases ng
  ·refine ⟨.bool (a == b), ?_, rfl⟩
   simp [hx, hy, eqGuard, binOp, run_equal_bool hT]
  ·refine ⟨.bool (a != b), ?_, rfl⟩
   simp [hx, hy, eqGuard, binOp, run_equal_bool hT, bne]
 ·cases he
theorem q_not {_T : TypeId} {x : Operand} {vs : List V} {v : V} {u : List (Nat × Obj)} (he : XK.eval .not look vs = .done true v u) (hr : RepVs C vs ([x].map ρ)) :
  u = [] /\ Gives P C (do pure (Next.value (<- Op.unary .not (ρ x)))) v := by
 simp only [XK.eval, E.not] at he
 split at he
 ·rename_i b
  obtain ⟨_, rfl, rfl⟩ := zAw he
  have hx : ρ x = .bool b := hr.1
  exact ⟨rfl, .bool (!b), by simp [hx, Op.unary], rfl⟩
 ·cases he
theorem q_neg {x : Operand} {vs : List V} {v : V} {u : List (Nat × Obj)} (he : XK.eval .neg look vs = .done true v u) (hr : RepVs C vs ([x].map ρ)) :
  u = [] /\ Gives P C (do pure (Next.value (<- Op.unary .neg (ρ x)))) v := by
 simp only [XK.eval, E.neg] at he
 split at he
 ·rename_i k n
  obtain ⟨_, rfl, rfl⟩ := zAw he
  have hx : ρ x = .int k n := hr.1
  exact ⟨rfl, .int k (k.wrap (0 - n)), by simp [hx, Op.unary, Op.intArith], rfl⟩
 ·cases he
theorem q_conv {k : IntKind} {s d : TypeId} {ds : TypeDesc} (hs : P.underlying s = some ds) (hd : P.underlying d = some (.int k)) {x : Operand} {vs : List V} {v : V} {u : List (Nat × Obj)}
  (he : XK.eval (.conv k) look vs = .done true v u) (hr : RepVs C vs ([x].map ρ)) :
  u = [] /\ Gives P C (do pure (Next.value (<- convert s d (ρ x)))) v := by
 simp only [XK.eval, E.conv] at he
 split at he
 ·rename_i j n
  obtain ⟨_, rfl, rfl⟩ := zAw he
  have hx : ρ x = .int j n := hr.1
  exact ⟨rfl, .int k (k.wrap n), by simp [hx, convert, run_underlying hs, run_underlying hd, Conv.intToInt], rfl⟩
 ·cases he
theorem q_extract {i : Nat} {x : Operand} {vs : List V} {v : V} {u : List (Nat × Obj)} (he : XK.eval (.extract i) look vs = .done true v u) (hr : RepVs C vs ([x].map ρ)) :
  u = [] /\ Gives P C (do pure (Next.value (<- Instr.extract (ρ x) i))) v := by
 simp only [XK.eval, E.extract] at he
 split at he
 ·rename_i l
  split at he
  ·rename_i g cs hl
   obtain ⟨_, rfl, rfl⟩ := zAw he
   obtain ⟨vs', hx, hg⟩ := (show ∃ vs : List Value, ρ x = .tuple vs.toArray /\ RepGs C l vs from hr.1)
   have key : ∀ (l : List (Bool × List Cell)) (vs' : List Value) (i : Nat), RepGs C l vs' -> l[i]? = some (g, cs) -> ∃ y, vs'[i]? = some y /\ RepG C g cs y := by
    intro l
    induction l with
    | nil => intro vs' i _ h; simp at h
    | cons p l ih =>
     intro vs' i hg h
     match vs', hg with
     | y :: ys, hg =>
      cases i with
      | zero => simp at h; subst h; exact ⟨y, rfl, hg.1⟩
      | succ i => simp at h ⊢; exact ih ys i hg.2 h
     | [], hg => exact hg.elim
   obtain ⟨y, hy, hyr⟩ := key l vs' i hg hl
   refine ⟨rfl, y, by simp [hx, Instr.extract, hy], ?_⟩
   cases g with
   | true => exact hyr
   | false => obtain ⟨c, rfl, hc⟩ := hyr; exact hc
  ·cases he
 ·cases he
theorem q_field {g : Bool} {off n f : Nat} {T : TypeId} {fs : Array Field} {fl : Field} (hT : P.underlying T = some (.struct fs)) (hf : fs[f]? = some fl) (hoff : fl.offset = off)
  (hg : aggOf P fl.type = some g) (hn : if g then sizeB P fl.type n = true else n = 1) {x : Operand} {vs : List V} {v : V} {u : List (Nat × Obj)}
  (he : XK.eval (.field g off n) look vs = .done true v u) (hr : RepVs C vs ([x].map ρ)) :
  u = [] /\ Gives P C (do pure (Next.value (<- Instr.field T (ρ x) f))) v := by
 simp only [XK.eval, E.field] at he
 split at he
 ·rename_i cs
  split at he <;> try (cases he; done)
  rename_i hbl
  obtain ⟨_, rfl, rfl⟩ := zAw he
  obtain ⟨us, hx, hcs⟩ := (show ∃ vs : List Value, ρ x = .agg vs.toArray /\ zi C cs vs from hr.1)
  have hl : ((cs.drop off).take n).length = n := eB hbl
  have hsub := (hcs.drop off).take n
  have hul := hsub.len
  refine ⟨rfl, _, ?_, mkV_rep hsub (fun h => by subst h; simp at hn; omega)⟩
  subst hoff
  cases g with
  | true =>
   simp only [if_true] at hn
   simp [hx, Instr.field, run_underlying hT, hf, asAgg, part, run_aggOf hg, run_sizeB hn, ldV]
  | false =>
   simp only [Bool.false_eq_true, if_false] at hn
   subst hn
   have h1 : ((us.drop fl.offset).take 1).length = 1 := by omega
   obtain ⟨y, hy, hy2⟩ : ∃ y, us[fl.offset]? = some y /\ ((us.drop fl.offset).take 1).getD 0 undef = y := by
    have : fl.offset < us.length := by simp at h1; omega
    exact ⟨us[fl.offset], List.getElem?_eq_getElem this, by simp [List.getD, this]⟩
   simp only [ldV, hy2]
   simp [hx, Instr.field, run_underlying hT, hf, asAgg, part, run_aggOf hg, hy]
 ·cases he
theorem q_fieldAddr {off f : Nat} {T : TypeId} {fs : Array Field} {fl : Field} {i : TypeInfo} (hT : P.underlying T = some (.struct fs)) (hf : fs[f]? = some fl) (hoff : fl.offset = off)
  (hi : P.info? fl.type = some i) (hz : i.size ≠ 0) {x : Operand} {vs : List V} {v : V} {u : List (Nat × Obj)}
  (he : XK.eval (.fieldAddr off) look vs = .done true v u) (hr : RepVs C vs ([x].map ρ)) :
  u = [] /\ Gives P C (do pure (Next.value (<- Instr.fieldAt T (ρ x) f))) v := by
 simp only [XK.eval, E.fieldAddr] at he
 split at he
 ·split at he
  ·rename_i c' hc'
   obtain ⟨_, rfl, rfl⟩ := zAw he
   obtain ⟨ad, h1, h2⟩ := addOff_rep hc' hr.1
   subst hoff
   refine ⟨rfl, _, ?_, h2⟩
   simp [h1, Instr.fieldAt, run_underlying hT, hf, Instr.sureAddr, fieldPlace, sizeOf, typeInfo, hi, hz]
  ·cases he
 ·cases he
theorem q_strIndex {T : TypeId} (hT : P.underlying T = some .string) {x i : Operand} {vs : List V} {v : V} {u : List (Nat × Obj)}
  (he : XK.eval .strIndex look vs = .done true v u) (hr : RepVs C vs ([x, i].map ρ)) :
  u = [] /\ Gives P C (do pure (Next.value (<- Instr.index T (ρ x) (ρ i)))) v := by
 simp only [XK.eval, E.strIndex] at he
 split at he
 ·rename_i s k n
  obtain ⟨hc, rfl, rfl⟩ := zAw he
  obtain ⟨b, hx, hb⟩ := (show ∃ b : ByteArray, ρ x = .string b /\ b.data.toList = s from hr.1)
  have hi : ρ i = .int k n := hr.2.1
  simp only [zG, bA, decide_eq_true_eq] at hc
  have hsz := str_len hb
  have h2 : 0 <= n /\ n < (b.size : Int) := by omega
  refine ⟨rfl, .int .u8 (b[n.toNat]'(by omega)).toNat, ?_, ?_⟩
  ·simp [hx, hi, run_index_string (P := P) C.w T b k n hT, h2]
  ·have h3 : n.toNat < s.length := by omega
   have h4 : nth (0 : UInt8) s n = b[n.toNat]'(by omega) := by
    unfold nth
    rw [List.getD_eq_getElem?_getD, List.getElem?_eq_getElem h3]
    subst hb
    rfl
   rw [h4]; rfl
 ·cases he
theorem q_load {T : TypeId} {g : Bool} {n : Nat} (hg : aggOf P T = some g) (hn : if g then sizeB P T n = true else n = 1) (hs : Sees look C.h) (ho : ∀ o, zBU tm C (C.μ o) (C.h o))
  {x : Operand} {vs : List V} {v : V} {u : List (Nat × Obj)} (he : XK.eval (.load g n) look vs = .done true v u) (hr : RepVs C vs ([x].map ρ)) :
  u = [] /\ Gives P C (do pure (Next.value (<- Instr.loadAt T (ρ x)))) v := by
 simp only [XK.eval, E.load] at he
 split at he
 ·split at he
  ·rename_i cs hcs
   split at he
   ·rename_i hle
    obtain ⟨_, rfl, rfl⟩ := zAw he
    obtain ⟨ad, us, h1, h2, h3⟩ := cellsAt_rep hs ho hcs hr.1
    have hl := h2.len
    have hle' := Nat.le_of_ble_eq_true hle
    have hul : (us.take n).length = n := by simp; omega
    have hcell : ∀ j u, (us.take n)[j]? = some u -> C.w.cell? (ad.add j) = some u := fun j u hu => by
     rw [List.getElem?_take] at hu
     split at hu
     ·exact h3 j u hu
     ·cases hu
    have hrun := run_load_rep (P := P) hg hn hul hcell
    exact ⟨rfl, Gives.of (by rw [h1]; exact hrun) (mkV_rep (h2.take n) (fun h => by subst h; simp at hn; simp; omega))⟩
   ·cases he
  ·cases he
 ·cases he
theorem q_len {T e : TypeId} (hT : P.underlying T = some (.slice e)) (hs : Sees look C.h) (ho : ∀ o, zBU tm C (C.μ o) (C.h o))
  {x : Operand} {vs : List V} {v : V} {u : List (Nat × Obj)} {ty : TypeId} (he : XK.eval .len look vs = .done true v u) (hr : RepVs C vs ([x].map ρ)) :
  u = [] /\ Gives P C (do pure (Next.value (<- Builtin.len_ #[T] ty #[ρ x]))) v := by
 simp only [XK.eval, E.len] at he
 split at he
 ·rename_i c
  split at he
  ·rename_i n hn
   obtain ⟨_, rfl, rfl⟩ := zAw he
   have key : ∃ a cap, ρ x = .slice a n cap := by
    have hc : yl C c (ρ x) := hr.1
    unfold lenOf at hn
    split at hn
    ·injection hn with hn; subst hn; exact ⟨none, 0, hc⟩
    ·injection hn with hn; subst hn
     obtain ⟨a, cap, h1, _⟩ := zB5.of_den hc
     exact ⟨a, cap, h1⟩
    ·rename_i o st e
     split at hn
     ·rename_i st' hm fr ec t xs hl
      split at hn
      ·rename_i hb
       injection hn with hn; subst hn
       have hx := hs.row hl trivial
       obtain ⟨_, _, hrw⟩ := hc
       obtain ⟨hok, hrow⟩ := hrw _ _ _ _ _ (by rw [hx]; exact congrArg (fun q => Obj.row q hm fr ec t xs) (eB hb).symm)
       have hob := ho o
       rw [hx] at hob
       obtain ⟨a, cap, h1, _⟩ := row_list hob hok hrow
       exact ⟨a, cap, h1⟩
      ·cases hn
     ·cases hn
    ·cases hn
   obtain ⟨a, cap, h1⟩ := key
   exact ⟨rfl, .int .i64 n, by simp [h1, Builtin.len_, run_underlying hT, goInt], rfl⟩
  ·cases he
 ·cases he
theorem q_strLen {T : TypeId} (hT : P.underlying T = some .string) {x : Operand} {vs : List V} {v : V} {u : List (Nat × Obj)} {ty : TypeId}
  (he : XK.eval .strLen look vs = .done true v u) (hr : RepVs C vs ([x].map ρ)) :
  u = [] /\ Gives P C (do pure (Next.value (<- Builtin.len_ #[T] ty #[ρ x]))) v := by
 simp only [XK.eval, E.strLen] at he
 split at he
 ·rename_i s
  obtain ⟨_, rfl, rfl⟩ := zAw he
  obtain ⟨b, hx, hb⟩ := (show ∃ b : ByteArray, ρ x = .string b /\ b.data.toList = s from hr.1)
  exact ⟨rfl, .int .i64 s.length, by simp [hx, Builtin.len_, run_underlying hT, goInt, str_len hb], rfl⟩
 ·cases he
theorem q_max {x y : Operand} {vs : List V} {v : V} {u : List (Nat × Obj)} {ty : TypeId} {ts : Array TypeId} (he : XK.eval .max look vs = .done true v u) (hr : RepVs C vs ([x, y].map ρ)) :
  u = [] /\ Gives P C (do pure (Next.value (<- Builtin.max_ ts ty #[ρ x, ρ y]))) v := by
 simp only [XK.eval, E.max] at he
 split at he
 ·rename_i k a j b
  split at he
  ·obtain ⟨_, rfl, rfl⟩ := zAw he
   have h1 : ρ x = .int k a := hr.1
   have h2 : ρ y = .int j b := hr.2.1
   exact ⟨rfl, .int k (maxI a b), by simp [h1, h2, Builtin.max_, Builtin.max2, maxI], rfl⟩
  ·cases he
 ·cases he
theorem q_min {x y : Operand} {vs : List V} {v : V} {u : List (Nat × Obj)} {ty : TypeId} {ts : Array TypeId} (he : XK.eval .min look vs = .done true v u) (hr : RepVs C vs ([x, y].map ρ)) :
  u = [] /\ Gives P C (do pure (Next.value (<- Builtin.min_ ts ty #[ρ x, ρ y]))) v := by
 simp only [XK.eval, E.min] at he
 split at he
 ·rename_i k a j b
  split at he
  ·obtain ⟨_, rfl, rfl⟩ := zAw he
   have h1 : ρ x = .int k a := hr.1
   have h2 : ρ y = .int j b := hr.2.1
   exact ⟨rfl, .int k (minI a b), by simp [h1, h2, Builtin.min_, Builtin.min2, minI], rfl⟩
  ·cases he
 ·cases he
end
end Go.Kb
/- More quiet operations: addresses of elements, cuts, building structs, bytes to a string. -/
namespace Go.Kb
section
variable {P : Program} {tm : Nat -> TypeId} {C : Cx} {look : Nat -> Obj} {ρ : Operand -> Value}
theorem run_indexAt {T e : TypeId} {sz : Nat} (hT : P.underlying T = some (.slice e)) (hsz : sizeB P e sz = true) (ad : Addr) (len cap : Nat) (k : IntKind) (n : Int) (h0 : 0 <= n) (h1 : n < (len : Int)) (w : World) :
  (Instr.indexAt T (.slice (some ad) len cap) (.int k n)).run P w = .ok (.pointer (some (ad.add (n.toNat * sz)))) w := by
 simp [Instr.indexAt, asIntOf, run_underlying hT, h0, h1, run_sizeB hsz]
theorem q_indexAddr {t : Ty} {T e : TypeId} (hT : P.underlying T = some (.slice e)) (hsz : sizeB P e t.sz = true) (hs : Sees look C.h) (_ho : ∀ o, zBU tm C (C.μ o) (C.h o))
  {x i : Operand} {vs : List V} {v : V} {u : List (Nat × Obj)} (he : XK.eval (.indexAddr t) look vs = .done true v u) (hr : RepVs C vs ([x, i].map ρ)) :
  u = [] /\ Gives P C (do pure (Next.value (<- Instr.indexAt T (ρ x) (ρ i)))) v := by
 simp only [XK.eval, E.indexAddr] at he
 split at he
 ·obtain ⟨h, _⟩ := zAw he; cases h
 ·rename_i fr ut xs k n
  split at he
  ·rename_i hb
   have := Ty.eq_of_beq hb; subst this
   obtain ⟨hc, rfl, rfl⟩ := zAw he
   have hi : ρ i = .int k n := hr.2.1
   simp only [zG, bA, decide_eq_true_eq] at hc
   obtain ⟨a, cap, hx, _, hblk, hcells⟩ := (show yk C.w C.M C.dl (C.L fr) (.list ut) xs [ρ x] from hr.1)
   simp at hx
   have hlt : n.toNat < xs.length := by omega
   have hget : xs[n.toNat]? = some (nth ut.dflt xs n) := by
    unfold nth; rw [List.getD_eq_getElem?_getD, List.getElem?_eq_getElem hlt]; rfl
   obtain ⟨ad, us, rfl, hl, hcell, hd⟩ := hcells _ _ hget
   rcases hblk with h0 | ⟨ad', he', h1, h2, h3⟩
   ·subst h0; simp at hlt
   ·injection he' with he'; subst he'
    refine ⟨rfl, Gives.of (by rw [hx, hi]; exact run_indexAt hT hsz ad _ _ _ _ hc.1 hc.2 C.w) ?_⟩
    refine ⟨ad.add (n.toNat * ut.sz), us, by rw [add_zero'], hl, by rw [add_block]; exact h1, by rw [add_block]; exact h2, by rw [add_block]; exact h3, fun j u hu => ?_, hd⟩
    rw [add_add']; exact hcell j u hu
  ·cases he
 ·rename_i o st ex k n
  split at he
  ·rename_i st' hm fr ec ut xs hl
   split at he
   ·rename_i hb
    simp only [bA] at hb
    have := Ty.eq_of_beq hb.2; subst this
    have hst := eB hb.1; subst hst
    obtain ⟨hc, rfl, rfl⟩ := zAw he
    have hi : ρ i = .int k n := hr.2.1
    simp only [zG, bA, decide_eq_true_eq] at hc
    have hx := hs.row hl trivial
    obtain ⟨_, hle, hrw⟩ := (show yl C (.ref o st ex) (ρ x) from hr.1)
    obtain ⟨hok, hrow⟩ := hrw _ _ _ _ _ hx
    have hlen := num_cut ex xs hok
    rcases hrow with ⟨_, hn, hv⟩ | ⟨b, base, a, cap, cur, T', hmu, hv, h1, h2, h3, h4, h5, h6, h7⟩
    ·have : (ex.cut xs).length = 0 := by rw [hlen]; cases ex <;> simp_all [Ext.num, Ext.ok]
     omega
    ·have hcap : 0 < cap := by omega
     refine ⟨rfl, Gives.of (by rw [hv, hi, <- hlen]; exact run_indexAt hT hsz a _ _ _ _ hc.1 hc.2 C.w) ?_⟩
     refine ⟨⟨_, rfl⟩, hle, fun hm' fr' ec' t' xs' hx' => ?_⟩
     rw [hx] at hx'
     injection hx' with e1 e2 e3 e4 e5 e6
     subst e2; subst e3; subst e4; subst e5
     have e6 := eq_of_heq e6; subst e6
     have hpos : ex.pos n.toNat = ex.lo + n.toNat := by cases ex <;> simp [Ext.pos, Ext.lo]
     have hlt : ex.lo + n.toNat < xs.length := by
      have h9 : n.toNat < ex.num xs.length := by omega
      cases ex <;> simp [Ext.lo, Ext.num, Ext.ok] at * <;> omega
     refine ⟨by rw [hpos]; exact hlt, b, base, hmu, ?_⟩
     rw [zB4 h4, h3, h5 hcap, hpos, Nat.add_mul]
     simp [Nat.add_assoc]
   ·cases he
  ·cases he
 ·cases he
theorem run_sliceAt {T e : TypeId} {sz : Nat} (hT : P.underlying T = some (.slice e)) (hsz : sizeB P e sz = true) (a : Option Addr) (len cap : Nat) (lo hi : Option Value) (l h : Nat) (w : World)
  (hb : (Instr.sliceBounds true len cap lo hi none).run P w = .ok (l, h, cap) w) :
  (Instr.sliceAt T (.slice a len cap) lo hi none).run P w = .ok (.slice (if cap = l then a else a.map (·.add (l * sz))) (h - l) (cap - l)) w := by
 simp [Instr.sliceAt, Instr.slice, run_underlying hT, hb, run_sizeB hsz]
def loN : Option Int -> Nat
 | none => 0
 | some l => l.toNat
def hiN (len : Nat) : Option Int -> Nat
 | none => len
 | some h => h.toNat
theorem cutOk_le {len : Nat} {lo hi : Option Int} (h : cutOk len lo hi = true) : loN lo <= hiN len hi /\ hiN len hi <= len := by
 cases lo <;> cases hi <;> simp [cutOk, loN, hiN, bounds] at * <;> omega
theorem run_bounds {isS : Bool} {len cap : Nat} (hlc : len <= cap) {lo hi : Option Int} (h : cutOk len lo hi = true) {vlo vhi : Option Value}
  (hlo : ∀ l, lo = some l -> ∃ k, vlo = some (.int k l)) (hlo0 : lo = none -> vlo = none) (hhi : ∀ l, hi = some l -> ∃ k, vhi = some (.int k l)) (hhi0 : hi = none -> vhi = none) (w : World) :
  (Instr.sliceBounds isS len cap vlo vhi none).run P w = .ok (loN lo, hiN len hi, cap) w := by
 cases lo with
 | none =>
  cases hi with
  | none => simp [hlo0, hhi0, Instr.sliceBounds, loN, hiN]
  | some h' =>
   obtain ⟨k, rfl⟩ := hhi h' rfl
   simp [cutOk] at h
   have h2 : h' <= (cap : Int) := by omega
   simp [hlo0, Instr.sliceBounds, loN, hiN, run_sliceBound (P := P) w k h' cap _ h.1 h2]
 | some l' =>
  obtain ⟨k, rfl⟩ := hlo l' rfl
  cases hi with
  | none =>
   simp [cutOk] at h
   simp [hhi0, Instr.sliceBounds, loN, hiN, run_sliceBound (P := P) w k l' len _ h.1 h.2]
  | some h' =>
   obtain ⟨k', rfl⟩ := hhi h' rfl
   simp [cutOk, bounds] at h
   have h2 : h' <= (cap : Int) := by omega
   have h3 : 0 <= h' := by omega
   have h4 : l' <= (h'.toNat : Int) := by omega
   simp [Instr.sliceBounds, loN, hiN, run_sliceBound (P := P) w k' h' cap _ h3 h2, run_sliceBound (P := P) w k l' h'.toNat _ h.1 h4]
theorem cutList_get {α : Type} (xs : List α) (lo hi : Option Int) (i : Nat) (x : α) (h : (cutList xs lo hi)[i]? = some x) : xs[loN lo + i]? = some x := by
 cases lo <;> cases hi <;> simp only [cutList, loN, List.getElem?_drop, Nat.zero_add] at * <;> first
  | exact h
  | (rw [List.getElem?_take] at h; split at h <;> first | exact h | cases h)
theorem cutList_len {α : Type} (xs : List α) (lo hi : Option Int) (h : cutOk xs.length lo hi = true) : (cutList xs lo hi).length = hiN xs.length hi - loN lo := by
 have := cutOk_le h
 cases lo <;> cases hi <;> simp [cutList, loN, hiN] at * <;> omega
theorem den_cut {w : World} {M : Nat -> Prop} {δ : Dl} {L : Nat} {t : Ty} {xs : List t.den} {a : Option Addr} {cap : Nat} {lo hi : Option Int} (hc : cutOk xs.length lo hi = true)
  (h : yk w M δ L (.list t) xs [.slice a xs.length cap]) :
  yk w M δ L (.list t) (cutList xs lo hi) [.slice (if cap = loN lo then a else a.map (·.add (loN lo * t.sz))) (hiN xs.length hi - loN lo) (cap - loN lo)] := by
 obtain ⟨a', cap', hv, hlc, hblk, hcells⟩ := h
 simp at hv
 obtain ⟨rfl, rfl⟩ := hv
 have hle := cutOk_le hc
 have hlen := cutList_len xs lo hi hc
 refine ⟨_, _, by rw [hlen], by rw [hlen]; omega, ?_, ?_⟩
 ·by_cases h0 : hiN xs.length hi - loN lo = 0
  ·exact .inl (List.eq_nil_of_length_eq_zero (by rw [hlen, h0]))
  ·rcases hblk with h1 | ⟨ad, rfl, h1, h2, h3⟩
   ·subst h1; simp only [List.length_nil] at hle h0; omega
   ·refine .inr ⟨ad.add (loN lo * t.sz), ?_, by rw [add_block]; exact h1, by rw [add_block]; exact h2, by rw [add_block]; exact h3⟩
    rw [if_neg (by omega)]; rfl
 ·intro i x hx
  have hi' : i < hiN xs.length hi - loN lo := by rw [<- hlen]; exact (List.getElem?_eq_some_iff.1 hx).1
  obtain ⟨ad, us, rfl, hl, hcell, hd⟩ := hcells _ _ (cutList_get xs lo hi i x hx)
  refine ⟨ad.add (loN lo * t.sz), us, by rw [if_neg (by omega)]; rfl, hl, fun j u hu => ?_, hd⟩
  rw [add_add', <- Nat.add_assoc, <- Nat.add_mul]
  exact hcell j u hu
theorem sliceArgs_rep {lo hi : Bool} {l h : Option Operand} (hl : l.isSome = lo) (hh : h.isSome = hi) {vs : List V} {l' h' : Option Int} (hr : RepVs C vs ((l.toList ++ h.toList).map ρ))
  (he : sliceArgs lo hi vs = some (l', h')) :
  (∀ n, l' = some n -> ∃ k, l.map ρ = some (.int k n)) /\ (l' = none -> l.map ρ = none) /\ (∀ n, h' = some n -> ∃ k, h.map ρ = some (.int k n)) /\ (h' = none -> h.map ρ = none) := by
 subst hl; subst hh
 cases l with
 | none =>
  cases h with
  | none =>
   simp at hr
   match vs, hr with
   | [], _ => simp [sliceArgs] at he; obtain ⟨rfl, rfl⟩ := he; simp
  | some y =>
   simp at hr
   obtain ⟨x, rfl, hx⟩ := (show ∃ v, vs = [v] /\ RepV C v (ρ y) from by
    match vs, hr with
    | [v], hr => exact ⟨v, rfl, hr.1⟩)
   simp [sliceArgs] at he
   split at he <;> try (cases he; done)
   all_goals (try simp_all)
   obtain ⟨rfl, rfl⟩ := he
   refine ⟨?_, ?_, ?_⟩ <;> simp
   exact ⟨_, hx⟩
 | some z =>
  cases h with
  | none =>
   simp at hr
   obtain ⟨x, rfl, hx⟩ := (show ∃ v, vs = [v] /\ RepV C v (ρ z) from by
    match vs, hr with
    | [v], hr => exact ⟨v, rfl, hr.1⟩)
   simp [sliceArgs] at he
   split at he <;> try (cases he; done)
   all_goals (try simp_all)
   obtain ⟨rfl, rfl⟩ := he
   refine ⟨?_, ?_, ?_⟩ <;> simp
   exact ⟨_, hx⟩
  | some y =>
   simp at hr
   obtain ⟨x, x', rfl, hx, hx'⟩ := (show ∃ v v', vs = [v, v'] /\ RepV C v (ρ z) /\ RepV C v' (ρ y) from by
    match vs, hr with
    | [v, v'], hr => exact ⟨v, v', rfl, hr.1, hr.2.1⟩)
   simp [sliceArgs] at he
   split at he <;> try (cases he; done)
   all_goals (try simp_all)
   obtain ⟨rfl, rfl⟩ := he
   refine ⟨?_, ?_, ?_, ?_⟩ <;> simp
   ·exact ⟨_, hx⟩
   ·exact ⟨_, hx'⟩
theorem q_slice {t : Ty} {lo hi : Bool} {T e : TypeId} (hT : P.underlying T = some (.slice e)) (hsz : sizeB P e t.sz = true) (hs : Sees look C.h)
  {x : Operand} {l h : Option Operand} (hl : l.isSome = lo) (hh : h.isSome = hi) {vs : List V} {v : V} {u : List (Nat × Obj)} (he : XK.eval (.slice t lo hi) look vs = .done true v u)
  (hr : RepVs C vs ((x :: (l.toList ++ h.toList)).map ρ)) :
  u = [] /\ Gives P C (do pure (Next.value (<- Instr.sliceAt T (ρ x) (l.map ρ) (h.map ρ) none))) v := by
 simp only [XK.eval, E.slice] at he
 split at he
 ·rename_i c vs'
  split at he
  ·rename_i l' h' hargs
   obtain ⟨a1, a2, a3, a4⟩ := sliceArgs_rep hl hh (show RepVs C vs' ((l.toList ++ h.toList).map ρ) from hr.2) hargs
   split at he
   ·obtain ⟨hc, rfl, rfl⟩ := zAw he
    have hx : ρ x = .slice none 0 0 := hr.1
    have hb := run_bounds (P := P) (isS := true) (nR 0) hc a1 a2 a3 a4 C.w
    have hle := cutOk_le hc
    refine ⟨rfl, Gives.of (by rw [hx]; exact run_sliceAt hT hsz none 0 0 _ _ _ _ C.w hb) ?_⟩
    have h1 : loN l' = 0 := by omega
    have h2 : hiN 0 h' = 0 := by omega
    simp [h1, h2]
    rfl
   ·rename_i fr ut xs
    split at he
    ·rename_i hbt
     have := Ty.eq_of_beq hbt; subst this
     obtain ⟨hc, rfl, rfl⟩ := zAw he
     have hd := (show yk C.w C.M C.dl (C.L fr) (.list ut) xs [ρ x] from hr.1)
     have hd' := hd
     obtain ⟨a, cap, hx, hlc, _⟩ := hd
     simp at hx
     rw [hx] at hd'
     have hb := run_bounds (P := P) (isS := true) hlc hc a1 a2 a3 a4 C.w
     exact ⟨rfl, Gives.of (by rw [hx]; exact run_sliceAt hT hsz a _ _ _ _ _ _ C.w hb) (den_cut hc hd')⟩
    ·cases he
   ·rename_i o st ex
    split at he
    ·rename_i st' hm fr ec ut xs hlk
     split at he
     ·rename_i hbt
      simp only [bA] at hbt
      have := Ty.eq_of_beq hbt.2; subst this
      have hst := eB hbt.1; subst hst
      split at he
      ·rename_i e' hext
       obtain ⟨hc, rfl, rfl⟩ := zAw he
       have hx := hs.row hlk trivial
       obtain ⟨_, hle, hrw⟩ := (show yl C (.ref o st ex) (ρ x) from hr.1)
       obtain ⟨hok, hrow⟩ := hrw _ _ _ _ _ hx
       have hlen := num_cut ex xs hok
       have hcle := cutOk_le hc
       -- the new cover
       have hnew : e'.ok xs.length /\ e'.lo = ex.lo + loN l' /\ e'.num xs.length = hiN (ex.cut xs).length h' - loN l' := by
        unfold sliceExt at hext
        split at hext
        ·injection hext with hext; subst hext
         rename_i hl0 hh0
         refine ⟨hok, by simp [loN], by simp [hiN, loN, hlen]⟩
        all_goals first
         | (cases hext; done)
         | (injection hext with hext; subst hext
            simp [Ext.ok, Ext.lo, Ext.num, Ext.cut, loN, hiN] at *
            try omega)
       obtain ⟨n1, n2, n3⟩ := hnew
       rcases hrow with ⟨hm0, hn, hv⟩ | ⟨b, base, a, cap, cur, T', hmu, hv, h1, h2, h3, h4, h5, h6, h7⟩
       ·have h0 : (ex.cut xs).length = 0 := by rw [hlen]; cases ex <;> simp_all [Ext.num, Ext.ok]
        rw [h0] at hc hcle n3
        have hb := run_bounds (P := P) (isS := true) (nR 0) hc a1 a2 a3 a4 C.w
        have g1 : loN l' = 0 := by omega
        have g2 : hiN 0 h' = 0 := by omega
        refine ⟨rfl, Gives.of (by rw [hv]; exact run_sliceAt hT hsz none 0 0 _ _ _ _ C.w hb) ?_⟩
        refine ⟨⟨_, _, _, rfl⟩, hle, fun hm' fr' ec' t' xs' hx' => ?_⟩
        rw [hx] at hx'
        injection hx' with e1 e2 e3 e4 e5 e6
        subst e2; subst e3; subst e4; subst e5
        have e6 := eq_of_heq e6; subst e6
        exact ⟨n1, .inl ⟨hm0, hn, by simp [g1, g2]⟩⟩
       ·have hb := run_bounds (P := P) (isS := true) (show (ex.cut xs).length <= cap by omega) hc a1 a2 a3 a4 C.w
        refine ⟨rfl, Gives.of (by rw [hv, <- hlen]; exact run_sliceAt hT hsz _ _ _ _ _ _ _ C.w hb) ?_⟩
        refine ⟨⟨_, _, _, rfl⟩, hle, fun hm' fr' ec' t' xs' hx' => ?_⟩
        rw [hx] at hx'
        injection hx' with e1 e2 e3 e4 e5 e6
        subst e2; subst e3; subst e4; subst e5
        have e6 := eq_of_heq e6; subst e6
        refine ⟨n1, .inr ⟨b, base, if cap = loN l' then a else a.add (loN l' * ut.sz), cap - loN l', cur, T', hmu, ?_, by omega, by omega, ?_, ?_, fun hpos => ?_, h6, ?_⟩⟩
        ·rw [n3]; split <;> rfl
        ·split
         ·exact h3
         ·rw [add_block]; exact h3
        ·split
         ·exact h4
         ·rw [zB4 h4]
        ·rw [if_neg (by omega), zB4 h4]
         show a.off + _ = _
         rw [h5 (by omega), n2, Nat.add_mul]; omega
        ·have : ex.lo + loN l' + (cap - loN l') = ex.lo + cap := by omega
         rw [n2, this]; exact h7
      ·cases he
     ·cases he
    ·cases he
   ·cases he
  ·cases he
 ·cases he
end
end Go.Kb
/- The rest of the quiet operations; values and their cells. -/
namespace Go.Kb
section
variable {P : Program} {tm : Nat -> TypeId} {C : Cx} {look : Nat -> Obj} {ρ : Operand -> Value}
theorem q_strSlice {lo hi : Bool} {T : TypeId} (hT : P.underlying T = some .string)
  {x : Operand} {l h : Option Operand} (hl : l.isSome = lo) (hh : h.isSome = hi) {vs : List V} {v : V} {u : List (Nat × Obj)} (he : XK.eval (.strSlice lo hi) look vs = .done true v u)
  (hr : RepVs C vs ((x :: (l.toList ++ h.toList)).map ρ)) :
  u = [] /\ Gives P C (do pure (Next.value (<- Instr.sliceAt T (ρ x) (l.map ρ) (h.map ρ) none))) v := by
 simp only [XK.eval, E.strSlice] at he
 split at he
 ·rename_i s vs'
  split at he
  ·rename_i l' h' hargs
   obtain ⟨a1, a2, a3, a4⟩ := sliceArgs_rep hl hh (show RepVs C vs' ((l.toList ++ h.toList).map ρ) from hr.2) hargs
   obtain ⟨hc, rfl, rfl⟩ := zAw he
   obtain ⟨b, hx, hb⟩ := (show ∃ b : ByteArray, ρ x = .string b /\ b.data.toList = s from hr.1)
   have hsz := str_len hb
   have hbd := run_bounds (P := P) (isS := false) (nR b.size) (by rw [hsz]; exact hc) a1 a2 a3 a4 C.w
   have hle := cutOk_le hc
   refine ⟨rfl, .string (b.extract (loN l') (hiN b.size h')), ?_, _, rfl, ?_⟩
   ·simp [hx, Instr.sliceAt, Instr.slice, run_underlying hT, hbd]
   ·rw [Lib.extract_data, hb, hsz]
    cases l' <;> cases h' <;> simp [cutList, loN, hiN] at *
    ·rw [List.take_of_length_le (by simp)]
    ·rw [List.drop_take]
  ·cases he
 ·cases he
theorem q_b2s {s d e : TypeId} (hs' : P.underlying s = some (.slice e)) (hd' : P.underlying d = some .string) (he' : P.underlying e = some (.int .u8)) (hs : Sees look C.h)
  (ho : ∀ o, zBU tm C (C.μ o) (C.h o)) {x : Operand} {vs : List V} {v : V} {u : List (Nat × Obj)} (he : XK.eval .b2s look vs = .done true v u) (hr : RepVs C vs ([x].map ρ)) :
  u = [] /\ Gives P C (do pure (Next.value (<- convert s d (ρ x)))) v := by
 simp only [XK.eval, E.b2s] at he
 split at he
 ·split at he
  ·rename_i f xs hl
   obtain ⟨_, rfl, rfl⟩ := zAw he
   obtain ⟨a, cap, hx, _, hcells⟩ := listOf_rep hs ho hl hr.1
   refine ⟨rfl, ?_⟩
   by_cases h0 : List.length xs = 0
   ·have hn : xs = [] := List.eq_nil_of_length_eq_zero h0
    subst hn
    refine Gives.of (x := .string .empty) ?_ ⟨.empty, rfl, rfl⟩
    rw [hx, run_convert_bytes_string C.w s d e a _ cap hs' he' hd']
    cases a <;> simp [Conv.bytesToString, loadCells, loadCellsFrom]
   ·have hpos : 0 < List.length xs := Nat.pos_of_ne_zero h0
    obtain ⟨ad, us, rfl, _⟩ := hcells 0 _ (List.getElem?_eq_getElem hpos)
    have hl2 : (loadCells ad (List.length xs)).run P C.w = .ok ((show List Int from xs).map (Value.int .u8)).toArray C.w := by
     have := run_loadCells_list (P := P) C.w ad ((show List Int from xs).map (Value.int .u8)) (fun j v hj => by
      rw [List.getElem?_map] at hj
      cases hxj : (show List Int from xs)[j]? with
      | none => rw [hxj] at hj; cases hj
      | some n =>
       rw [hxj] at hj
       simp at hj
       subst hj
       obtain ⟨ad', us', he2, hl3, hc3, hd3⟩ := hcells j n hxj
       injection he2 with he2; subst he2
       have hd4 : us' = [.int .u8 n] := hd3
       subst hd4
       have := hc3 0 _ rfl
       simpa [Ty.sz] using this)
     simpa using this
    refine Gives.of (x := .string ⟨(bytesOf xs).toArray⟩) ?_ ⟨_, rfl, by simp⟩
    rw [hx, run_convert_bytes_string C.w s d e _ _ cap hs' he' hd', run_bytesToString C.w ad _ cap _ hl2, foldl_push_bytes]
    simp [bytesOf, ByteArray.empty, ByteArray.emptyWithCapacity]
    rfl
  ·cases he
 ·cases he
theorem storable_one {c : Cell} {x : Value} (hs : zBY [c] = true) (h : yl C c x) : x.oneCell' = true := by
 cases c <;> simp [zBY] at hs
 case int k n => have : x = .int k n := h; subst this; rfl
 case bool b => have : x = .bool b := h; subst this; rfl
 case str s => obtain ⟨b, rfl, _⟩ := h; rfl
 case nil => have : x = .slice none 0 0 := h; subst this; rfl
 case sl fr t xs => obtain ⟨a, cap, hx, _⟩ := h; simp at hx; subst hx; rfl
 case ref o st e => obtain ⟨⟨a, n, c, rfl⟩, _⟩ := h; rfl
 case hnd t q => obtain ⟨a, n, c, hx⟩ := hnd_slice (M := C.M) (L := 0) h; simp at hx; subst hx; rfl
theorem cells_one {x : Value} (h : x.oneCell' = true) : x.cells.toList = [x] := by
 cases x <;> simp [Value.oneCell'] at h <;> rfl
theorem storable_cons {c : Cell} {cs : List Cell} (h : zBY (c :: cs) = true) : zBY [c] = true /\ zBY cs = true := by
 cases c <;> simp [zBY] at * <;> exact h
theorem RepV.cells {v : V} {x : Value} (h : RepV C v x) (hs : zBY v.cells = true) (hne : 0 < v.cells.length \/ ∃ cs, v = .agg cs) : zi C v.cells x.cells.toList := by
 cases v with
 | one c =>
  have := cells_one (storable_one (c := c) hs h)
  rw [this]
  exact ⟨h, trivial⟩
 | agg cs =>
  obtain ⟨vs, rfl, hc⟩ := h
  simpa [Value.cells, V.cells] using hc
 | tup l => rcases hne with h0 | ⟨cs, h0⟩ <;> simp [V.cells] at h0
 | junk => rcases hne with h0 | ⟨cs, h0⟩ <;> simp [V.cells] at h0
theorem zi.oneCells : ∀ {cs : List Cell} {vs : List Value}, zBY cs = true -> zi C cs vs -> ∀ u ∈ vs, u.oneCell' = true
 | [], [], _, _, u, hu => by cases hu
 | c :: cs, v :: vs, hs, h, u, hu => by
  obtain ⟨h1, h2⟩ := storable_cons hs
  rcases List.mem_cons.1 hu with rfl | hu
  ·exact storable_one h1 h.1
  ·exact zi.oneCells h2 h.2 u hu
 | [], _ :: _, _, h, _, _ => h.elim
 | _ :: _, [], _, h, _, _ => h.elim
def zBi : List Value -> Nat -> List Value -> List Value
 | vs, _, [] => vs
 | vs, i, u :: r => zBi (vs.set i u) (i + 1) r
theorem zi.setCells : ∀ {ds : List Cell} {us : List Value} (i : Nat) {cs : List Cell} {vs : List Value}, zi C cs vs -> zi C ds us -> zi C (Kb.setCells cs i ds) (zBi vs i us)
 | [], [], _, _, _, h, _ => h
 | _ :: _, _ :: _, i, _, _, h, k => zi.setCells (i + 1) (h.set i k.1) k.2
 | [], _ :: _, _, _, _, _, k => k.elim
 | _ :: _, [], _, _, _, _, k => k.elim
theorem zCK : ∀ (us : List Value) (i : Nat) (vs : List Value), (zBi vs i us).length = vs.length
 | [], _, _ => rfl
 | _ :: us, i, vs => by simp [zBi, zCK us]
theorem setVals_eq : ∀ (us : List Value) (i : Nat) (vs : List Value), i + us.length <= vs.length -> zBi vs i us = vs.take i ++ us ++ vs.drop (i + us.length)
 | [], i, vs, _ => by simp [zBi]
 | u :: us, i, vs, h => by
  simp only [List.length_cons] at h
  rw [zBi, setVals_eq us (i + 1) (vs.set i u) (by simp; omega)]
  have hi : i < vs.length := by omega
  have h1 : (vs.set i u).take (i + 1) = vs.take i ++ [u] := by
   rw [List.take_add_one, List.take_set, List.set_eq_of_length_le (by simp; omega)]
   simp [hi]
  have h2 : (vs.set i u).drop (i + 1 + us.length) = vs.drop (i + (u :: us).length) := by
   rw [List.drop_set]
   rw [if_pos (by omega)]
   congr 1
   simp; omega
  rw [h1, h2]
  simp
theorem fold_set : ∀ (us : List Value) (off k : Nat) (cur : Array Value),
  ((us.zipIdx k).foldl (fun cs (c, j) => cs.setIfInBounds (off + j) c) cur).toList = zBi cur.toList (off + k) us
 | [], _, _, _ => rfl
 | u :: us, off, k, cur => by
  simp only [List.zipIdx_cons, List.foldl_cons]
  rw [fold_set us off (k + 1)]
  simp [zBi, Nat.add_assoc]
theorem fill_rep (place : Nat -> Option (Nat × Nat)) : ∀ (parts : List (Nat × Nat)) (vs : List V) (xs : List Value) (is : List Nat) (cs cs' : List Cell) (cur : Array Value),
  zBn cs parts vs = some cs' -> RepVs C vs xs -> zi C cs cur.toList -> (is.map place = parts.map some) ->
  ∃ cur', Instr.fill place cur (is.zip xs) = some cur' /\ zi C cs' cur'.toList /\ cur'.size = cur.size
 | [], [], [], is, cs, cs', cur, h, _, hc, hp => by
  simp [zBn] at h; subst h
  cases is with
  | nil => exact ⟨cur, rfl, hc, rfl⟩
  | cons _ _ => simp at hp
 | (off, n) :: ps, v :: vs, x :: xs, is, cs, cs', cur, h, hr, hc, hp => by
  cases is with
  | nil => simp at hp
  | cons i is =>
   simp only [List.map_cons, List.cons.injEq] at hp
   simp only [zBn] at h
   split at h
   ·rename_i hb
    simp only [bA] at hb
    have hn := eB hb.1
    have hle := Nat.le_of_ble_eq_true hb.2.1
    have hlen := hc.len
    have h0 : 0 < n := Nat.le_of_ble_eq_true hb.2.2.2
    ·have hcells := RepV.cells hr.1 hb.2.2.1 (.inl (by omega))
     have hl2 := hcells.len
     have hsz : x.cells.size = n := by rw [<- Array.length_toList, <- hl2, <- hn]
     have hfs : (x.cells.zipIdx.foldl (fun cs (c, j) => cs.setIfInBounds (off + j) c) cur).toList = zBi cur.toList off x.cells.toList := by
      have := fold_set x.cells.toList off 0 cur
      rw [Nat.add_zero] at this
      rw [<- this, <- Array.foldl_toList]
      congr 2
      simp
     have ih := fill_rep place ps vs xs is _ cs' (x.cells.zipIdx.foldl (fun cs (c, j) => cs.setIfInBounds (off + j) c) cur) h hr.2 (by rw [hfs]; exact zi.setCells off hc hcells) hp.2
     obtain ⟨cur', h1, h2, h3⟩ := ih
     refine ⟨cur', ?_, h2, ?_⟩
     ·simp only [List.zip_cons_cons, Instr.fill, hp.1]
      rw [if_neg (by rw [hsz]; simp; rw [<- Array.length_toList]; omega)]
      exact h1
     ·rw [h3, <- Array.length_toList, hfs, zCK, Array.length_toList]
   ·cases h
 | [], _ :: _, _, _, _, _, _, h, _, _, _ => by simp [zBn] at h
 | _ :: _, [], _, _, _, _, _, h, _, _, _ => by simp [zBn] at h
 | [], [], _ :: _, _, _, _, _, _, hr, _, _ => hr.elim
 | _ :: _, _ :: _, [], _, _, _, _, _, hr, _, _ => hr.elim
end
end Go.Kb
/- One object changes. -/
namespace Go.Kb
def setMu (μ : Nat -> Option (Nat × Nat)) (o : Nat) (m : Option (Nat × Nat)) : Nat -> Option (Nat × Nat) := fun i => if i = o then m else μ i
def S.setObj (s : S) (o : Nat) (x : Obj) : S := { s with h := s.h.set o x }
theorem zB9 {s : S} {o : Nat} (h : o < s.h.length) : s.obj o = s.h[o] := by
 simp [S.obj, objOf, h]
theorem zBR {s : S} {o : Nat} (h : s.h.length <= o) : s.obj o = beyond s.d s.k o := by
 simp [S.obj, objOf, List.getElem?_eq_none h]
theorem HP_ble {o : Nat} (h : o < HP) : Nat.ble HP o = false := by
 cases hb : Nat.ble HP o with
 | false => rfl
 | true => have := Nat.le_of_ble_eq_true hb; omega
theorem zBg {d : List HRow} {k : List (Nat × Nat × Hnd)} {o : Nat} (h : o < HP) : beyond d k o = .absent 0 := by
 unfold beyond; rw [HP_ble h]
theorem beyond_HP (d : List HRow) (k : List (Nat × Nat × Hnd)) : beyond d k HP = .heap d k := by
 unfold beyond
 rw [Nat.ble_eq_true_of_le (nR HP), Nat.sub_self]
theorem beyond_row (d : List HRow) (k : List (Nat × Nat × Hnd)) (n : Nat) : beyond d k (HP + 1 + n) = hview d[n]? := by
 unfold beyond
 rw [Nat.ble_eq_true_of_le (show HP <= HP + 1 + n by omega), show HP + 1 + n - HP = n + 1 by omega]
theorem zBs {s : S} (h : s.h.length <= HP) : s.obj HP = .heap s.d s.k := by rw [zBR h, beyond_HP]
theorem zBQ {s : S} (h : s.h.length <= HP) (n : Nat) : s.obj (HP + 1 + n) = hview s.d[n]? := by rw [zBR (by omega), beyond_row]
theorem zBm (o : Nat) : o < HP \/ o = HP \/ ∃ n, o = HP + 1 + n := by
 rcases Nat.lt_trichotomy o HP with h | h | h
 ·exact .inl h
 ·exact .inr (.inl h)
 ·exact .inr (.inr ⟨o - (HP + 1), by omega⟩)
theorem zCL (d : List HRow) (k : List (Nat × Nat × Hnd)) (o : Nat) : beyond d k o = .absent 0 \/ (o = HP /\ beyond d k o = .heap d k) \/ ∃ n e t, ∃ xs : List (Ty.den t), o = HP + 1 + n /\ d[n]? = some (.row e t xs) /\ beyond d k o = .hrow e t xs := by
 rcases zBm o with h | rfl | ⟨n, rfl⟩
 ·exact .inl (zBg h)
 ·exact .inr (.inl ⟨rfl, beyond_HP d k⟩)
 ·rw [beyond_row]
  cases hd : d[n]? with
  | none => exact .inl rfl
  | some r =>
   cases r with
   | gone => exact .inl rfl
   | row e t xs => exact .inr (.inr ⟨n, e, t, xs, rfl, hd, rfl⟩)
theorem setObj_obj (s : S) {o : Nat} (ho : o < s.h.length) (x : Obj) (i : Nat) : (s.setObj o x).obj i = if i = o then x else s.obj i := by
 unfold S.obj S.setObj objOf
 simp only []
 by_cases h : i = o
 ·subst h; simp [List.getElem?_set_self ho]
 ·rw [List.getElem?_set_ne (Ne.symm h), if_neg h]
def blockOf (μ : Nat -> Option (Nat × Nat)) (s : S) (o : Nat) (b : Nat) : Prop := yv (s.obj o) /\ ∃ base, μ o = some (b, base)
structure Kept (C C' : Cx) : Prop where
 cell : ∀ c v, yl C c v -> yl C' c v
 den : ∀ (fr : Bool) (t : Ty) (x : t.den) (vs : List Value), yk C.w C.M C.dl (C.L fr) t x vs -> yk C'.w C'.M C'.dl (C'.L fr) t x vs
section
variable {tm : Nat -> TypeId} {F : Fx} {μ : Nat -> Option (Nat × Nat)} {s : S} {a : Act} {w : World}
theorem RepM.upd1 (h : RepM tm F μ s a w) {o : Nat} {x : Obj} (ho : o < s.h.length) {m : Option (Nat × Nat)} {w' : World} (d : Option Nat) {v : V} {y : Value}
  (hstep : Stp (blockOf μ s o) w w')
  (hm : ∀ b base, yv x -> m = some (b, base) -> (w.heap.size <= b \/ (blockOf μ s o b /\ (zBh (s.obj o) -> zBh x))) /\ b < w'.heap.size)
  (hevo : Evo w w' (μ o) m (s.obj o) x)
  (hhome : x.hm = true -> m = F.home o /\ x.shape = F.shape o)
  (hobj : ∀ C', C' = (s.setObj o x).cx (setMu μ o m) w' F -> Kept (s.cx μ w F) C' -> C'.h o = x -> C'.μ o = m -> zBU tm C' m x /\ RepV C' v y) :
  RepM tm F (setMu μ o m) ((s.put d v).setObj o x) (a.put d y) w' := by
 have hobj' : ∀ i, (s.setObj o x).obj i = if i = o then x else s.obj i := setObj_obj s ho x
 -- the two contexts
 obtain ⟨C, hC⟩ : ∃ C, C = s.cx μ w F := ⟨_, rfl⟩
 obtain ⟨C', hC'⟩ : ∃ C', C' = (s.setObj o x).cx (setMu μ o m) w' F := ⟨_, rfl⟩
 have hsM : Stp C.M C.w C'.w := by
  subst hC; subst hC'
  exact hstep.mono fun b _ hb => .inr ⟨o, hb.2.choose, hb.1, hb.2.choose_spec⟩
 have hMM : ∀ b, b < C.w.heap.size -> C'.M b -> C.M b := by
  subst hC; subst hC'
  rintro b hb (hX | ⟨i, base, hp, hmu⟩)
  ·exact .inl hX
  refine .inr ?_
  simp only [S.cx] at hp hmu hb ⊢
  by_cases hi : i = o
  ·subst hi
   rw [hobj' i, if_pos rfl] at hp
   simp only [setMu, if_pos] at hmu
   rcases (hm b base hp hmu).1 with h1 | ⟨h1, _⟩
   ·omega
   ·exact ⟨i, h1.2.choose, h1.1, h1.2.choose_spec⟩
  ·rw [hobj' i, if_neg hi] at hp
   simp only [setMu, if_neg hi] at hmu
   exact ⟨i, base, hp, hmu⟩
 have hother : ∀ i, i ≠ o -> yv (s.obj i) -> ∀ b base, μ i = some (b, base) -> w'.heap[b]? = w.heap[b]? := by
  intro i hi hp b base hmu
  refine hstep.block b (h.lt i b base hp hmu) ?_
  rintro ⟨hpo, base', hmo⟩
  exact hi (h.inj i o b base base' hp hpo hmu hmo)
 have hEvo : ∀ i, Evo C.w C'.w (C.μ i) (C'.μ i) (C.h i) (C'.h i) := by
  subst hC; subst hC'
  intro i
  simp only [S.cx]
  rw [hobj' i]
  by_cases hi : i = o
  ·subst hi; simp only [setMu, if_pos]; exact hevo
  ·simp only [setMu, if_neg hi]
   by_cases hp : yv (s.obj i)
   ·exact Evo.same (hother i hi hp)
   ·cases hx : s.obj i with
    | absent st => exact ⟨nR _, fun _ => trivial⟩
    | box st hm cs => rw [hx] at hp; exact absurd trivial hp
    | row st hm fr e t xs => rw [hx] at hp; exact absurd trivial hp
    | heap D K => exact ⟨nR _, fun _ => trivial⟩
    | hrow e t xs => rw [hx] at hp; exact absurd trivial hp
 have hB : C'.B = C.B := by subst hC; subst hC'; rfl
 have hdl : ∀ k, setMu μ o m (HP + 1 + k) = μ (HP + 1 + k) := fun k => by
  have := h.hl
  simp only [setMu]
  rw [if_neg (by omega)]
 have hD : Dle C.dl C'.dl := by
  subst hC; subst hC'
  intro k m' hk
  simp only [S.cx, S.dl, S.setObj] at hk ⊢
  rw [hdl]; exact hk
 have hkept : Kept C C' := ⟨fun c v hc => yl.keep hB hsM hMM hD hEvo hc, fun fr t x vs hd => yk.keep hsM hMM hD (by simp [Cx.L, hB]) hd⟩
 have hho : C'.h o = x := by subst hC'; simp only [S.cx]; rw [hobj' o, if_pos rfl]
 have hmo : C'.μ o = m := by subst hC'; simp [S.cx, setMu]
 obtain ⟨hro, hrv⟩ := hobj C' hC' (hC ▸ hkept) hho hmo
 have hput : ((s.put d v).setObj o x).obj = (s.setObj o x).obj := by
  funext i; cases d <;> rfl
 have hcx : ((s.put d v).setObj o x).cx (setMu μ o m) w' F = C' := by
  have e : ((s.put d v).setObj o x).dl (setMu μ o m) = (s.setObj o x).dl (setMu μ o m) := by unfold S.dl S.setObj; simp only []; rw [put_d]
  subst hC'; simp [S.cx, hput, e]
 constructor
 ·rw [act_defers]; exact h.defers
 ·rw [act_size]; show _ = (s.put d v).t.length; rw [put_len]; exact h.size
 ·rw [hcx]
  refine put_slots (s := s) h.size (fun i u z hu hz => ?_) hrv
  have := h.slots i u z hu hz
  rw [<- hC] at this
  exact RepV.map hkept.cell this
 ·intro i
  rw [hcx, hput, hobj' i]
  by_cases hi : i = o
  ·subst hi; simp only [setMu, if_pos]; exact hro
  ·simp only [setMu, if_neg hi]
   have hold := h.objs i
   rw [<- hC] at hold
   by_cases hp : yv (s.obj i)
   ·refine zBU.keep hB hsM hMM hD hEvo (fun b base hmu => ?_) hold
    subst hC; subst hC'
    exact hother i hi hp b base hmu
   ·cases hx : s.obj i with
    | absent st => trivial
    | box st hm cs => rw [hx] at hp; exact absurd trivial hp
    | row st hm fr e t xs => rw [hx] at hp; exact absurd trivial hp
    | heap D K => trivial
    | hrow e t xs => rw [hx] at hp; exact absurd trivial hp
 ·intro i j b base base' hp hq hmu hmu'
  rw [hput, hobj'] at hp hq
  by_cases hi : i = o <;> by_cases hj : j = o
  ·rw [hi, hj]
  ·subst hi
   rw [if_pos rfl] at hp; rw [if_neg hj] at hq
   simp only [setMu, if_pos] at hmu
   simp only [setMu, if_neg hj] at hmu'
   rcases (hm b base hp hmu).1 with h1 | ⟨⟨h1, b2, h2⟩, _⟩
   ·have := h.lt j b base' hq hmu'; omega
   ·exact h.inj _ _ _ _ _ h1 hq h2 hmu'
  ·subst hj
   rw [if_neg hi] at hp; rw [if_pos rfl] at hq
   simp only [setMu, if_neg hi] at hmu
   simp only [setMu, if_pos] at hmu'
   rcases (hm b base' hq hmu').1 with h1 | ⟨⟨h1, b2, h2⟩, _⟩
   ·have := h.lt i b base hp hmu; omega
   ·exact h.inj _ _ _ _ _ hp h1 hmu h2
  ·rw [if_neg hi] at hp; rw [if_neg hj] at hq
   simp only [setMu, if_neg hi] at hmu
   simp only [setMu, if_neg hj] at hmu'
   exact h.inj _ _ _ _ _ hp hq hmu hmu'
 ·intro i b base hp hmu
  rw [hput, hobj'] at hp
  by_cases hi : i = o
  ·subst hi; rw [if_pos rfl] at hp; simp only [setMu, if_pos] at hmu; exact (hm b base hp hmu).2
  ·rw [if_neg hi] at hp; simp only [setMu, if_neg hi] at hmu
   exact Nat.lt_of_lt_of_le (h.lt i b base hp hmu) hstep.size
 ·intro i b base hp hmu
  rw [hput, hobj'] at hp ⊢
  by_cases hi : i = o
  ·subst hi; rw [if_pos rfl] at hp ⊢; simp only [setMu, if_pos] at hmu
   rcases (hm b base hp hmu).1 with h1 | ⟨⟨h1, b2, h2⟩, h3⟩
   ·exact .inl (Nat.le_trans h.frame.size h1)
   ·exact (h.own _ _ _ h1 h2).imp id fun h4 => ⟨h4.1, h4.2.imp h3 id⟩
  ·rw [if_neg hi] at hp ⊢; simp only [setMu, if_neg hi] at hmu; exact h.own i b base hp hmu
 ·intro i hi'
  rw [hput, hobj'] at hi' ⊢
  by_cases hi : i = o
  ·subst hi; rw [if_pos rfl] at hi' ⊢; simp only [setMu, if_pos]; exact hhome hi'
  ·rw [if_neg hi] at hi' ⊢; simp only [setMu, if_neg hi]; exact h.home i hi'
 ·refine ⟨hstep.os.trans h.frame.os, hstep.tape.trans h.frame.tape, hstep.output.trans h.frame.output, Nat.le_trans h.frame.size hstep.size, fun b hb hn => ?_, fun i cur T hc => by
   obtain ⟨c1, h1, h2⟩ := h.frame.sz i cur T hc
   obtain ⟨c2, h3, h4⟩ := hstep.sz i c1 T h1
   exact ⟨c2, h3, h4.trans h2⟩⟩
  rw [hstep.block b (Nat.lt_of_lt_of_le hb h.frame.size) ?_, h.frame.block b hb hn]
  rintro ⟨hp, base, hmu⟩
  rcases h.own o b base hp hmu with h1 | h1
  ·omega
  ·exact hn h1.1
 ·show ((s.put d v).h.set o x).length <= HP
  rw [List.length_set, put_h]; exact h.hl
 ·refine h.known.trans fun k m' hk => ?_
  simp only [S.dl, S.setObj, put_d] at hk ⊢
  rw [hdl]; exact hk
 ·have hk : ((s.put d v).setObj o x).k = s.k := by simp only [S.setObj]; exact put_k s d v
  have hd : ((s.put d v).setObj o x).d = s.d := by simp only [S.setObj]; exact put_d s d v
  rw [hk, hd, hput]
  refine h.taken.keep (w := w) (w' := w') (fun i => ?_) (nR _) fun k _ => hdl k
  have := hEvo i
  rw [hC, hC'] at this
  exact this
theorem stp_alloc (M : Nat -> Prop) (w : World) (o : _root_.Go.Obj) : Stp M w (w.alloc o) :=
 ⟨rfl, rfl, rfl, by simp, fun b hb _ => heap_alloc_old w o b hb, fun b cur T h => by
  have hb : b < w.heap.size := (Array.getElem?_eq_some_iff.1 h).1
  exact ⟨cur, by rw [heap_alloc_old w o b hb]; exact h, rfl⟩⟩
theorem RepM.fresh (h : RepM tm F μ s a w) {o : Nat} {x : Obj} (ho : o < s.h.length) {w' : World} {b : Nat} (d : Option Nat) {v : V} {y : Value} (hx : x.stamp = (s.obj o).stamp + 1) (hh : x.hm = false)
  (hstep : Stp (fun _ => False) w w') (hb : w.heap.size <= b) (hb' : b < w'.heap.size)
  (hobj : ∀ C', C' = (s.setObj o x).cx (setMu μ o (some (b, 0))) w' F -> Kept (s.cx μ w F) C' -> C'.h o = x -> C'.μ o = some (b, 0) -> zBU tm C' (some (b, 0)) x /\ RepV C' v y) :
  RepM tm F (setMu μ o (some (b, 0))) ((s.put d v).setObj o x) (a.put d y) w' :=
 h.upd1 ho d (hstep.mono fun _ _ hf => hf.elim) (fun b' base _ he => by injection he with he; injection he with he _; subst he; exact ⟨.inl hb, hb'⟩)
  (Evo.newer (by omega)) (fun hc => by rw [hh] at hc; cases hc) hobj
end
end Go.Kb
/- Several objects change at once. -/
namespace Go.Kb
section
variable {tm : Nat -> TypeId} {F : Fx} {μ μ' : Nat -> Option (Nat × Nat)} {s s' : S} {a : Act} {w w' : World}
theorem RepM.stepN (h : RepM tm F μ s a w) {d : Option Nat} {v : V} {y : Value} (N ch : Nat -> Prop) (ht : s'.t = (s.put d v).t) (hstep : Stp N w w')
  (hN : ∀ b, N b -> ∃ o base, yv (s.obj o) /\ μ o = some (b, base))
  (hkept : ∀ o, ¬ ch o -> s'.obj o = s.obj o /\ μ' o = μ o /\ (yv (s.obj o) -> ∀ b base, μ o = some (b, base) -> ¬ N b))
  (hevo : ∀ o, ch o -> Evo w w' (μ o) (μ' o) (s.obj o) (s'.obj o))
  (hblk : ∀ o, ch o -> yv (s'.obj o) -> ∀ b base, μ' o = some (b, base) -> b < w'.heap.size /\ (w.heap.size <= b \/ N b))
  (hweak : ∀ o, ch o -> yv (s'.obj o) -> ∀ b base, μ' o = some (b, base) -> F.w0.heap.size <= b \/ (F.M0 b /\ (zBh (s'.obj o) \/ F.B <= b)))
  (hinj : ∀ o o' b base base', ch o -> ch o' -> yv (s'.obj o) -> yv (s'.obj o') -> μ' o = some (b, base) -> μ' o' = some (b, base') -> o = o')
  (hhome : ∀ o, ch o -> (s'.obj o).hm = true -> μ' o = F.home o /\ (s'.obj o).shape = F.shape o)
  (hobj : ∀ C', C' = s'.cx μ' w' F -> Kept (s.cx μ w F) C' -> (∀ o, ch o -> zBU tm C' (μ' o) (s'.obj o)) /\ RepV C' v y)
  (hh : s'.h.length = s.h.length) (hk' : s'.k = s.k) (hd' : s.d.length <= s'.d.length) (hdl : ∀ k, k < s.d.length -> μ' (HP + 1 + k) = μ (HP + 1 + k)) :
  RepM tm F μ' s' (a.put d y) w' := by
 obtain ⟨C, hC⟩ : ∃ C, C = s.cx μ w F := ⟨_, rfl⟩
 obtain ⟨C', hC'⟩ : ∃ C', C' = s'.cx μ' w' F := ⟨_, rfl⟩
 have hsM : Stp C.M C.w C'.w := by
  subst hC; subst hC'
  refine hstep.mono fun b _ hb => .inr ?_
  obtain ⟨o, base, h1, h2⟩ := hN b hb
  exact ⟨o, base, h1, h2⟩
 have hMM : ∀ b, b < C.w.heap.size -> C'.M b -> C.M b := by
  subst hC; subst hC'
  rintro b hb (hX | ⟨i, base, hp, hmu⟩)
  ·exact .inl hX
  ·simp only [S.cx] at hp hmu hb
   by_cases hi : ch i
   ·rcases (hblk i hi hp b base hmu).2 with h1 | h1
    ·omega
    ·obtain ⟨o, base', h2, h3⟩ := hN b h1
     exact .inr ⟨o, base', h2, h3⟩
   ·obtain ⟨h1, h2, _⟩ := hkept i hi
    rw [h1] at hp
    rw [h2] at hmu
    exact .inr ⟨i, base, hp, hmu⟩
 have hEvo : ∀ i, Evo C.w C'.w (C.μ i) (C'.μ i) (C.h i) (C'.h i) := by
  subst hC; subst hC'
  intro i
  simp only [S.cx]
  by_cases hi : ch i
  ·exact hevo i hi
  ·obtain ⟨h1, h2, h3⟩ := hkept i hi
   rw [h1, h2]
   by_cases hp : yv (s.obj i)
   ·exact Evo.same fun b base hmu => hstep.block b (h.lt i b base hp hmu) (h3 hp b base hmu)
   ·cases hx : s.obj i with
    | absent st => exact ⟨nR _, fun _ => trivial⟩
    | box st hm cs => rw [hx] at hp; exact absurd trivial hp
    | row st hm fr e t xs => rw [hx] at hp; exact absurd trivial hp
    | heap D K => exact ⟨nR _, fun _ => trivial⟩
    | hrow e t xs => rw [hx] at hp; exact absurd trivial hp
 have hB : C'.B = C.B := by subst hC; subst hC'; rfl
 have hD : Dle C.dl C'.dl := by
  subst hC; subst hC'
  intro k m' hk
  simp only [S.cx, S.dl] at hk ⊢
  split at hk
  ·rename_i hlt
   rw [if_pos (Nat.lt_of_lt_of_le hlt hd'), hdl k hlt]; exact hk
  ·cases hk
 have hk : Kept C C' := ⟨fun c v hc => yl.keep hB hsM hMM hD hEvo hc, fun fr t x vs hd => yk.keep hsM hMM hD (by simp [Cx.L, hB]) hd⟩
 obtain ⟨hro, hrv⟩ := hobj C' hC' (hC ▸ hk)
 constructor
 ·rw [act_defers]; exact h.defers
 ·rw [act_size, ht, put_len]; exact h.size
 ·rw [<- hC']
  have := put_slots (s := s) (a := a) (d := d) (v := v) (x := y) (R := RepV C') h.size (fun i u z hu hz => by
   have := h.slots i u z hu hz
   rw [<- hC] at this
   exact RepV.map hk.cell this) hrv
  rw [ht]
  exact this
 ·intro i
  rw [<- hC']
  by_cases hi : ch i
  ·exact hro i hi
  ·obtain ⟨h1, h2, h3⟩ := hkept i hi
   rw [h1, h2]
   have hold := h.objs i
   rw [<- hC] at hold
   by_cases hp : yv (s.obj i)
   ·refine zBU.keep hB hsM hMM hD hEvo (fun b base hmu => ?_) hold
    subst hC; subst hC'
    exact hstep.block b (h.lt i b base hp hmu) (h3 hp b base hmu)
   ·cases hx : s.obj i with
    | absent st => trivial
    | box st hm cs => rw [hx] at hp; exact absurd trivial hp
    | row st hm fr e t xs => rw [hx] at hp; exact absurd trivial hp
    | heap D K => trivial
    | hrow e t xs => rw [hx] at hp; exact absurd trivial hp
 ·intro i j b base base' hp hq hmu hmu'
  by_cases hi : ch i <;> by_cases hj : ch j
  ·exact hinj i j b base base' hi hj hp hq hmu hmu'
  ·obtain ⟨h1, h2, h3⟩ := hkept j hj
   rw [h1] at hq; rw [h2] at hmu'
   rcases (hblk i hi hp b base hmu).2 with h4 | h4
   ·have := h.lt j b base' hq hmu'; omega
   ·exact absurd h4 (h3 hq b base' hmu')
  ·obtain ⟨h1, h2, h3⟩ := hkept i hi
   rw [h1] at hp; rw [h2] at hmu
   rcases (hblk j hj hq b base' hmu').2 with h4 | h4
   ·have := h.lt i b base hp hmu; omega
   ·exact absurd h4 (h3 hp b base hmu)
  ·obtain ⟨h1, h2, _⟩ := hkept i hi
   obtain ⟨h4, h5, _⟩ := hkept j hj
   rw [h1] at hp; rw [h2] at hmu; rw [h4] at hq; rw [h5] at hmu'
   exact h.inj i j b base base' hp hq hmu hmu'
 ·intro i b base hp hmu
  by_cases hi : ch i
  ·exact (hblk i hi hp b base hmu).1
  ·obtain ⟨h1, h2, _⟩ := hkept i hi
   rw [h1] at hp; rw [h2] at hmu
   exact Nat.lt_of_lt_of_le (h.lt i b base hp hmu) hstep.size
 ·intro i b base hp hmu
  by_cases hi : ch i
  ·exact hweak i hi hp b base hmu
  ·obtain ⟨h1, h2, _⟩ := hkept i hi
   rw [h1] at hp ⊢; rw [h2] at hmu
   exact h.own i b base hp hmu
 ·intro i hm
  by_cases hi : ch i
  ·exact hhome i hi hm
  ·obtain ⟨h1, h2, _⟩ := hkept i hi
   rw [h1] at hm ⊢; rw [h2]
   exact h.home i hm
 ·refine ⟨hstep.os.trans h.frame.os, hstep.tape.trans h.frame.tape, hstep.output.trans h.frame.output, Nat.le_trans h.frame.size hstep.size, fun b hb hn => ?_, fun i cur T hc => by
   obtain ⟨c1, h1, h2⟩ := h.frame.sz i cur T hc
   obtain ⟨c2, h3, h4⟩ := hstep.sz i c1 T h1
   exact ⟨c2, h3, h4.trans h2⟩⟩
  rw [hstep.block b (Nat.lt_of_lt_of_le hb h.frame.size) ?_, h.frame.block b hb hn]
  intro hNb
  obtain ⟨o, base, hp, hmu⟩ := hN b hNb
  rcases h.own o b base hp hmu with h1 | h1
  ·omega
  ·exact hn h1.1
 ·rw [hh]; exact h.hl
 ·refine h.known.trans ?_
  rw [hC, hC'] at hD
  exact hD
 ·rw [hk']
  refine h.taken.keep (w := w) (w' := w') (fun i => ?_) hd' hdl
  have := hEvo i
  rw [hC, hC'] at this
  exact this
end
end Go.Kb
/- Boxes: made, written; data out of cells. -/
namespace Go.Kb
def Does (P : Program) (tm : Nat -> TypeId) (F : Fx) (o : Oper) (s s' : S) : Prop :=
 ∀ (a : Act) (w : World) (Q : Exit -> Act -> World -> Prop), Rep tm F s a w -> o.wp P a w (Rep tm F s') Q
section
variable {P : Program} {tm : Nat -> TypeId} {F : Fx}
theorem L_mono {C : Cx} {f g : Bool} (h : f = true -> g = true) : C.L f <= C.L g := by
 unfold Cx.L
 cases f with
 | false => simp
 | true => rw [h rfl]; exact nR _
theorem zBW {C : Cx} {f g : Bool} (h : f = true -> g = true) {t : Ty} {x : t.den} {vs : List Value} (hd : yk C.w C.M C.dl (C.L g) t x vs) : yk C.w C.M C.dl (C.L f) t x vs :=
 hd.keep (Stp.refl _ _) (fun _ _ h => h) (Dle.refl _) (L_mono h)
theorem ofCells_rep {C : Cx} : ∀ {t : Ty} {cs : List Cell} {f : Bool} {x : t.den} {r : List Cell} {vs : List Value}, t.ofCells noLook cs = some (f, x, r) -> zi C cs vs ->
  ∃ p q, vs = p ++ q /\ yk C.w C.M C.dl (C.L f) t x p /\ zi C r q := by
 intro t
 induction t with
 | int k =>
  intro cs f x r vs h hc
  simp only [Ty.ofCells] at h
  split at h <;> try (cases h; done)
  rename_i j n r'
  split at h <;> try (cases h; done)
  rename_i hb
  have := IntKind.code_inj (eB hb); subst this
  injection h with h; injection h with h1 h2; injection h2 with h2 h3; subst h1; subst h2; subst h3
  match vs, hc with
  | v :: vs, hc => exact ⟨[v], vs, rfl, congrArg (fun q => [q]) hc.1, hc.2⟩
  | [], hc => exact hc.elim
 | bool =>
  intro cs f x r vs h hc
  simp only [Ty.ofCells] at h
  split at h <;> try (cases h; done)
  injection h with h; injection h with h1 h2; injection h2 with h2 h3; subst h1; subst h2; subst h3
  match vs, hc with
  | v :: vs, hc => exact ⟨[v], vs, rfl, congrArg (fun q => [q]) hc.1, hc.2⟩
  | [], hc => exact hc.elim
 | str =>
  intro cs f x r vs h hc
  simp only [Ty.ofCells] at h
  split at h <;> try (cases h; done)
  injection h with h; injection h with h1 h2; injection h2 with h2 h3; subst h1; subst h2; subst h3
  match vs, hc with
  | v :: vs, hc =>
   obtain ⟨b, hv, hb⟩ := hc.1
   exact ⟨[v], vs, rfl, ⟨b, by rw [hv], hb⟩, hc.2⟩
  | [], hc => exact hc.elim
 | unit =>
  intro cs f x r vs h hc
  simp only [Ty.ofCells] at h
  injection h with h; injection h with h1 h2; injection h2 with h2 h3; subst h1; subst h3
  exact ⟨[], vs, rfl, rfl, hc⟩
 | pair t u iht ihu =>
  intro cs f x r vs h hc
  simp only [Ty.ofCells] at h
  split at h <;> try (cases h; done)
  rename_i f1 x1 r1 h1
  split at h <;> try (cases h; done)
  rename_i f2 x2 r2 h2
  injection h with h; injection h with e1 e2; injection e2 with e2 e3; subst e1; subst e2; subst e3
  obtain ⟨p, q, rfl, hp, hq⟩ := iht h1 hc
  obtain ⟨p', q', rfl, hp', hq'⟩ := ihu h2 hq
  exact ⟨p ++ p', q', by simp, ⟨p, p', rfl, zBW (by intro h; simp_all) hp, zBW (by intro h; simp_all) hp'⟩, hq'⟩
 | list t ih =>
  intro cs f x r vs h hc
  simp only [Ty.ofCells] at h
  split at h <;> try (cases h; done)
  rename_i c r'
  split at h <;> try (cases h; done)
  rename_i f1 xs h1
  injection h with h; injection h with e1 e2; injection e2 with e2 e3; subst e1; subst e2; subst e3
  match vs, hc with
  | v :: vs, hc =>
   refine ⟨[v], vs, rfl, ?_, hc.2⟩
   unfold listOf at h1
   split at h1 <;> try (cases h1; done)
   ·injection h1 with h1; injection h1 with e1 e2; subst e1; subst e2
    have hv : v = .slice none 0 0 := hc.1
    subst hv
    exact ⟨none, 0, rfl, nR _, .inl rfl, fun i x hx => by simp at hx⟩
   ·split at h1 <;> try (cases h1; done)
    rename_i hb
    have := Ty.eq_of_beq hb; subst this
    injection h1 with h1; injection h1 with e1 e2; subst e1; subst e2
    exact hc.1
  | [], hc => exact hc.elim
 | hnd t ih =>
  intro cs f x r vs h hc
  simp only [Ty.ofCells] at h
  split at h <;> try (cases h; done)
  ·rename_i u q r'
   split at h <;> try (cases h; done)
   rename_i hb
   have := Ty.eq_of_beq hb; subst this
   injection h with h; injection h with e1 e2; injection e2 with e2 e3; subst e1; subst e2; subst e3
   match vs, hc with
   | v :: vs, hc => exact ⟨[v], vs, rfl, yk.keep (L' := C.L true) (L := C.L true) (Stp.refl _ _) (fun _ _ h => h) (Dle.refl _) (nR _) (by obtain ⟨w1, w2, w3⟩ := hc.1; exact ⟨w1, w2, w3⟩), hc.2⟩
   | [], hc => exact hc.elim
  ·injection h with h; injection h with e1 e2; injection e2 with e2 e3; subst e1; subst e2; subst e3
   match vs, hc with
   | v :: vs, hc =>
    have hv : v = .slice none 0 0 := hc.1
    exact ⟨[v], vs, rfl, ⟨v, rfl, hv⟩, hc.2⟩
   | [], hc => exact hc.elim
theorem does_of_fresh {o : Oper} {s : S} {v : V} {on : Nat} {x : Obj} (d : Option Nat) (hd : o.dst = d) (ho : on < s.h.length) (hx : x.stamp = (s.obj on).stamp + 1) (hh : x.hm = false)
  (hrun : ∀ (μ : Nat -> Option (Nat × Nat)) (a : Act) (w : World), RepM tm F μ s a w -> ∃ (w' : World) (b : Nat) (y : Value), (execOp a.eval o).run P w = .ok (.value y) w' /\
   Stp (fun _ => False) w w' /\ w.heap.size <= b /\ b < w'.heap.size /\
   ∀ C', C' = (s.setObj on x).cx (setMu μ on (some (b, 0))) w' F -> Kept (s.cx μ w F) C' -> C'.h on = x -> C'.μ on = some (b, 0) -> zBU tm C' (some (b, 0)) x /\ RepV C' v y) :
  Does P tm F o s ((s.put d v).setObj on x) := by
 rintro a w Q ⟨μ, h⟩
 obtain ⟨w', b, y, h1, h2, h3, h4, h5⟩ := hrun μ a w h
 subst hd
 exact wp_value h1 ⟨_, h.fresh ho o.dst hx hh h2 h3 h4 h5⟩
theorem alloc_stp (w : World) (c : Array Value) (T : TypeId) : Stp (fun _ => False) w (w.alloc (.cells c T)) := stp_alloc _ _ _
theorem does_box {o : Oper} {T : TypeId} {x : Operand} (hop : o.op = .box T x) {s : S} {on : Nat} {arg : XArg} (harg : argOk arg x = true) (hst : zBY (arg.eval s).cells = true)
  (hne : 0 < (arg.eval s).cells.length \/ ∃ cs, arg.eval s = .agg cs) (ho : on < s.h.length) :
  Does P tm F o s ((s.put o.dst (.one (.ptr on ((s.obj on).stamp + 1) 0))).setObj on (.box ((s.obj on).stamp + 1) false (arg.eval s).cells)) := by
 refine does_of_fresh o.dst rfl ho rfl rfl fun μ a w h => ?_
 have hv := arg_rep h harg
 have hc := RepV.cells hv hst hne
 refine ⟨w.alloc (.cells (a.eval x).cells T), w.heap.size, .pointer (some ⟨w.heap.size, 0, none⟩), ?_, alloc_stp _ _ _, nR _, by simp, ?_⟩
 ·simp [execOp, hop, Instr.box, newVar, newRow]
 ·intro C' hC' hk hho hmo
  have hw : C'.w = w.alloc (.cells (a.eval x).cells T) := by rw [hC']; rfl
  refine ⟨⟨w.heap.size, _, T, rfl, by rw [hw]; exact heap_alloc_new w _, zi.map hk.cell hc⟩, ⟨_, rfl⟩, ?_, fun hm cs hx => ⟨w.heap.size, hmo, rfl⟩⟩
  rw [hho]; exact nR _
theorem does_alloc {o : Oper} {T : TypeId} {i : TypeInfo} {z : Value} (hop : o.op = .alloc T) (hi : P.info? T = some i) (hz : i.zero = some z) {s : S} {on : Nat} {zero : List Cell}
  (hcz : zBc zero z.cells.toList = true) (ho : on < s.h.length) :
  Does P tm F o s ((s.put o.dst (.one (.ptr on ((s.obj on).stamp + 1) 0))).setObj on (.box ((s.obj on).stamp + 1) false zero)) := by
 refine does_of_fresh o.dst rfl ho rfl rfl fun μ a w h => ?_
 refine ⟨w.alloc (.cells z.cells T), w.heap.size, .pointer (some ⟨w.heap.size, 0, none⟩), ?_, alloc_stp _ _ _, nR _, by simp, ?_⟩
 ·simp [execOp, hop, Instr.alloc, zeroValue, typeInfo, hi, hz, newVar, newRow]
 ·intro C' hC' hk hho hmo
  have hw : C'.w = w.alloc (.cells z.cells T) := by rw [hC']; rfl
  refine ⟨⟨w.heap.size, _, T, rfl, by rw [hw]; exact heap_alloc_new w _, zCD hcz⟩, ⟨_, rfl⟩, ?_, fun hm cs hx => ⟨w.heap.size, hmo, rfl⟩⟩
  rw [hho]; exact nR _
end
end Go.Kb
/- Stores into boxes and rows. -/
namespace Go.Kb
section
variable {P : Program} {tm : Nat -> TypeId} {F : Fx}
theorem run_store_lit {T : TypeId} {n : Nat} (hn : sizeB P T n = true) {b off : Nat} {cur : Array Value} {T' : TypeId} {w : World} (hg : w.heap[b]? = some (.cells cur T' (0, 0))) {x : Value} (hx : x.cells.size = n)
  (hle : off + n <= cur.size) (h1 : ∀ u ∈ x.cells.toList, u.oneCell' = true) :
  (Instr.storeAt T (.pointer (some ⟨b, off, none⟩)) x).run P w = .ok () (w.setRow b (zBi cur.toList off x.cells.toList).toArray) := by
 have hl : x.cells.toList.length = n := by simpa using hx
 have := run_storeCells_at P b off T' x.cells.toList 0 cur w hg (by rw [hl]; omega) h1
 simp only [Nat.add_zero] at this
 rw [setVals_eq _ _ _ (by rw [hl]; simpa using hle)]
 simp [Instr.storeAt, Instr.sureAddr, storeVar, run_sizeB hn, hx, this]
theorem setRow_stp {μ : Nat -> Option (Nat × Nat)} {s : S} {o b base : Nat} (hp : yv (s.obj o)) (hmu : μ o = some (b, base)) (w : World) (cs : Array Value) {cur : Array Value} {T : TypeId} (hh : w.heap[b]? = some (.cells cur T (0, 0))) (hsz : cs.size = cur.size) : Stp (blockOf μ s o) w (w.setRow b cs) :=
 ⟨rfl, rfl, rfl, by simp, fun k _ hn => setRow_other w b k cs (fun e => hn ⟨hp, base, by rw [hmu, e]⟩), fun k c T' hk => by
  by_cases he : k = b
  ·subst he
   rw [hh] at hk; injection hk with hk; injection hk with h1 h2 _
   subst h1; subst h2
   exact ⟨cs, setRow_heap w k _ _ _ _ hh, hsz⟩
  ·exact ⟨c, by rw [setRow_other w b k cs he]; exact hk, rfl⟩⟩
theorem does_store_box {o : Oper} {T : TypeId} {n : Nat} {ad x : Operand} (hop : o.op = .store T ad x) (hn : sizeB P T n = true) {s : S} {on st off : Nat} {hm : Bool} {cs : List Cell} {a1 a2 : XArg}
  (h1 : argOk a1 ad = true) (h2 : argOk a2 x = true) (e1 : a1.eval s = .one (.ptr on st off)) (hob : s.obj on = .box st hm cs) (hlen : (a2.eval s).cells.length = n) (hle : off + n <= cs.length)
  (hst : zBY (a2.eval s).cells = true) (hpos : 0 < n) (ho : on < s.h.length) :
  Does P tm F o s ((s.put o.dst (.tup [])).setObj on (.box st hm (setCells cs off (a2.eval s).cells))) := by
 rintro a w Q ⟨μ, h⟩
 have hv := arg_rep h h2
 have hp := arg_rep h h1
 rw [e1] at hp
 obtain ⟨_, _, hpt⟩ := hp
 obtain ⟨b, hmu, hptr⟩ := hpt hm cs hob
 have hc := RepV.cells hv hst (.inl (by omega))
 have hobj := h.objs on
 rw [hob] at hobj
 obtain ⟨b', vs, T', hmu', hh, hcs⟩ := hobj
 simp only [S.cx] at hmu hh
 rw [hmu] at hmu'; injection hmu' with hmu'; injection hmu' with hmu' _; subst hmu'
 have hxs : (a.eval x).cells.size = n := by rw [<- Array.length_toList, <- hc.len, hlen]
 have hvl := hcs.len
 have hrun := run_store_lit (P := P) hn hh hxs (by rw [<- Array.length_toList, <- hvl]; exact hle) (zi.oneCells hst hc)
 refine wp_skipped (w' := w.setRow b (zBi vs.toList off (a.eval x).cells.toList).toArray) (by simp [execOp, hop, hptr, hrun]) ⟨_, h.upd1 ho o.dst (v := .tup []) (y := undef) (m := μ on) ?_ ?_ ?_ ?_ ?_⟩
 ·exact setRow_stp (by rw [hob]; trivial) hmu _ _ hh (by simp [zCK])
 ·intro b2 base _ he
  exact ⟨.inr ⟨⟨by rw [hob]; trivial, base, he⟩, fun _ => trivial⟩, by simp; exact h.lt on b2 base (by rw [hob]; trivial) he⟩
 ·rw [hob]; exact ⟨nR _, fun _ => ⟨⟨st, hm, cs, rfl⟩, rfl⟩⟩
 ·intro hh2; have := h.home on (by rw [hob]; exact hh2); rw [hob] at this; exact ⟨this.1, this.2⟩
 ·intro C' hC' hk hho hmo
  refine ⟨⟨b, _, T', hmu, by rw [hC']; exact setRow_heap w b _ _ T' _ hh, ?_⟩, undef_rep _⟩
  rw [List.toList_toArray]
  exact zi.map hk.cell (zi.setCells off hcs hc)
theorem getD_get {α : Type} {xs : List α} {i : Nat} {d : α} (h : i < xs.length) : xs[i]? = some (xs.getD i d) := by
 rw [List.getD_eq_getElem?_getD, List.getElem?_eq_getElem h]; rfl
theorem take_drop_setVals (cur : List Value) (p sz off : Nat) (us : List Value) (h : off + us.length <= sz) (hle : p + sz <= cur.length) :
  ((zBi cur (p + off) us).drop p).take sz = zBi ((cur.drop p).take sz) off us := by
 rw [setVals_eq _ _ _ (by omega), setVals_eq _ _ _ (by simp; omega)]
 apply List.ext_getElem?
 intro i
 simp only [List.getElem?_take, List.getElem?_drop, List.getElem?_append, lA, List.length_take, List.length_drop]
 by_cases hi : i < sz
 ·simp only [hi, if_true]
  by_cases h1 : i < off
  ·rw [if_pos (by omega), if_pos (by omega), if_pos (by omega), if_pos (by omega), if_pos (by omega), if_pos h1]
  ·by_cases h2 : i < off + us.length
   ·rw [if_pos (by omega), if_neg (by omega), if_pos (by omega), if_neg (by omega)]
    congr 1; omega
   ·rw [if_neg (by omega), if_neg (by omega), if_pos (by omega)]
    congr 1; omega
 ·rw [if_neg hi]
  split
  ·rename_i h3; omega
  ·split
   ·omega
   ·rfl
theorem take_drop_setVals_other (cur : List Value) (p q sz off : Nat) (us : List Value) (h : off + us.length <= sz) (hle : p + sz <= cur.length) (hpq : p + sz <= q \/ q + sz <= p) :
  ((zBi cur (p + off) us).drop q).take sz = (cur.drop q).take sz := by
 rw [setVals_eq _ _ _ (by omega)]
 apply List.ext_getElem?
 intro i
 simp only [List.getElem?_take, List.getElem?_drop, List.getElem?_append, lA, List.length_take]
 by_cases hi : i < sz
 ·simp only [hi, if_true]
  rcases hpq with h1 | h1
  ·rw [if_neg (by omega)]; congr 1; omega
  ·rw [if_pos (by omega), if_pos (by omega), if_pos (by omega)]
 ·rw [if_neg hi, if_neg hi]
theorem does_store_row {o : Oper} {T : TypeId} {n : Nat} {ad x : Operand} (hop : o.op = .store T ad x) (hn : sizeB P T n = true) {s : S} {on st off i e : Nat} {hm fr : Bool} {t : Ty} {xs : List t.den} {a1 a2 : XArg}
  (h1 : argOk a1 ad = true) (h2 : argOk a2 x = true) (e1 : a1.eval s = .one (.eptr on st i off)) (hob : s.obj on = .row st hm fr e t xs) (hlen : (a2.eval s).cells.length = n) (hle : off + n <= t.sz)
  {f : Bool} {y : t.den} (hof : t.ofCells noLook (setCells (t.cells fr (xs.getD i t.dflt)) off (a2.eval s).cells) = some (f, y, []))
  (hst : zBY (a2.eval s).cells = true) (hpos : 0 < n) (ho : on < s.h.length) :
  Does P tm F o s ((s.put o.dst (.tup [])).setObj on (.row st hm (fr && f) e t (xs.set i y))) := by
 rintro a w Q ⟨μ, h⟩
 have hv := arg_rep h h2
 have hp := arg_rep h h1
 rw [e1] at hp
 obtain ⟨_, _, hpt⟩ := hp
 obtain ⟨hi, b, base, hmu, hptr⟩ := hpt hm fr e t xs hob
 have hc := RepV.cells hv hst (.inl (by omega))
 have hobj := h.objs on
 rw [hob] at hobj
 simp only [S.cx] at hmu
 rcases hobj with ⟨hnone, _⟩ | ⟨b', base', cur, hmu', hh, hsz, hel⟩
 ·rw [hmu] at hnone; cases hnone
 rw [hmu] at hmu'; injection hmu' with hmu'; injection hmu' with e2 e3; subst e2; subst e3
 simp only [S.cx] at hh
 have hxs : (a.eval x).cells.size = n := by rw [<- Array.length_toList, <- hc.len, hlen]
 have hxl : (a.eval x).cells.toList.length = n := by simpa using hxs
 have hisz : i * t.sz + t.sz <= xs.length * t.sz := by
  have : (i + 1) * t.sz <= xs.length * t.sz := Nat.mul_le_mul_right _ hi
  rwa [Nat.add_mul, Nat.one_mul] at this
 have hrun := run_store_lit (P := P) (off := base + i * t.sz + off) hn hh hxs (by omega) (zi.oneCells hst hc)
 have hold := hel i _ (getD_get (d := t.dflt) hi)
 have holdc := cells_rep hold
 refine wp_skipped (w' := w.setRow b (zBi cur.toList (base + i * t.sz + off) (a.eval x).cells.toList).toArray) (by simp [execOp, hop, hptr, hrun]) ⟨_, h.upd1 ho o.dst (v := .tup []) (y := undef) (m := μ on) ?_ ?_ ?_ ?_ ?_⟩
 ·exact setRow_stp (by rw [hob]; trivial) hmu _ _ hh (by simp [zCK])
 ·intro b2 base2 _ he
  exact ⟨.inr ⟨⟨by rw [hob]; trivial, base2, he⟩, by rw [hob]; intro h1 h2; exact h1 (by simp at h2; exact h2.1)⟩, by simp; exact h.lt on b2 base2 (by rw [hob]; trivial) he⟩
 ·rw [hob]
  refine ⟨nR _, fun _ => ⟨⟨st, hm, fr, e, xs, rfl, by simp⟩, rfl, fun b2 base2 cur2 T2 hm2 hh2 => ?_⟩⟩
  rw [hmu] at hm2; injection hm2 with hm2; injection hm2 with hm2 _; subst hm2
  rw [hh] at hh2; injection hh2 with hh2; injection hh2 with hh2 hh3; subst hh2; subst hh3
  exact ⟨_, setRow_heap w b _ _ _ _ hh, by simp [zCK]⟩
 ·intro hh2; have := h.home on (by rw [hob]; exact hh2); rw [hob] at this; exact ⟨this.1, by rw [<- this.2]; simp [Obj.shape]⟩
 ·intro C' hC' hk hho hmo
  refine ⟨.inr ⟨b, base, _, hmu, by rw [hC']; exact setRow_heap w b _ _ _ _ hh, by simp [zCK]; omega, ?_⟩, undef_rep _⟩
  intro j z hz
  rw [List.toList_toArray]
  by_cases hij : j = i
  ·subst hij
   rw [List.getElem?_set_self hi] at hz
   injection hz with hz; subst hz
   rw [take_drop_setVals _ _ _ _ _ (by omega) (by simp; omega)]
   obtain ⟨p, q, hpq, hd, hq⟩ := ofCells_rep hof (zi.setCells off holdc hc)
   have hq0 : q = [] := by
    cases q with
    | nil => rfl
    | cons _ _ => exact hq.elim
   subst hq0
   rw [List.append_nil] at hpq
   rw [hpq]
   exact zBW (by intro h; simp_all) (hk.den f t y _ hd)
  ·rw [List.getElem?_set_ne (Ne.symm hij)] at hz
   have hj : j < xs.length := (List.getElem?_eq_some_iff.1 hz).1
   have hjsz : j * t.sz + t.sz <= xs.length * t.sz := by
    have : (j + 1) * t.sz <= xs.length * t.sz := Nat.mul_le_mul_right _ hj
    rwa [Nat.add_mul, Nat.one_mul] at this
   have hsep : base + i * t.sz + t.sz <= base + j * t.sz \/ base + j * t.sz + t.sz <= base + i * t.sz := by
    rcases Nat.lt_or_gt_of_ne hij with h4 | h4
    ·have : (j + 1) * t.sz <= i * t.sz := Nat.mul_le_mul_right _ h4
     rw [Nat.add_mul, Nat.one_mul] at this; omega
    ·have : (i + 1) * t.sz <= j * t.sz := Nat.mul_le_mul_right _ h4
     rw [Nat.add_mul, Nat.one_mul] at this; omega
   rw [take_drop_setVals_other _ _ _ _ _ _ (by omega) (by simp; omega) hsep]
   have := hel j z hz
   have := hk.den fr t z _ this
   exact zBW (by intro h; simp_all) this
end
end Go.Kb
/- Operations that make a row: append, make, slice literals; struct literals. -/
namespace Go.Kb
section
variable {P : Program} {tm : Nat -> TypeId} {F : Fx}
theorem read_src {C : Cx} {L : Nat} {t : Ty} {ys : List t.den} {x : Value} {tx e' : TypeId} (hk : P.underlying tx = some (.slice e')) (h : zB5 C L t ys x) :
  ∃ news, Src P t.sz tx x ys.length news C.w /\ ∀ i y, ys[i]? = some y -> yk C.w C.M C.dl L t y ((news.drop (i * t.sz)).take t.sz) := by
 obtain ⟨a, cap, rfl, hle, hcells⟩ := h
 cases a with
 | none =>
  have hy : ys = [] := by
   cases ys with
   | nil => rfl
   | cons y r => obtain ⟨ad, _, h, _⟩ := hcells 0 y rfl; cases h
  subst hy
  exact ⟨[], Src.ofNil C.w hk cap, fun i y h => by simp at h⟩
 | some ad =>
  have key : ∀ j, j < ys.length * t.sz -> ∃ u, C.w.cell? (ad.add j) = some u /\ u.oneCell' = true := by
   intro j hj
   have h0 : 0 < t.sz := by
    rcases Nat.eq_zero_or_pos t.sz with h0 | h0
    ·rw [h0] at hj; omega
    ·exact h0
   have hi : j / t.sz < ys.length := (Nat.div_lt_iff_lt_mul h0).2 hj
   obtain ⟨ad', us, h1, h2, h3, h4⟩ := hcells (j / t.sz) _ (List.getElem?_eq_getElem hi)
   injection h1 with h1; subst h1
   have hr := Nat.mod_lt j h0
   have hu : us[j % t.sz]? = some (us[j % t.sz]'(by omega)) := List.getElem?_eq_getElem (by omega)
   have := h3 _ _ hu
   rw [show j / t.sz * t.sz + j % t.sz = j by rw [Nat.mul_comm]; exact Nat.div_add_mod j t.sz] at this
   exact ⟨_, this, h4.oneCell _ (List.mem_of_getElem? hu)⟩
  obtain ⟨news, hn⟩ : ∃ news, news = (List.range (ys.length * t.sz)).map fun j => (C.w.cell? (ad.add j)).getD undef := ⟨_, rfl⟩
  have hl : news.length = ys.length * t.sz := by rw [hn]; simp
  have hget : ∀ j, j < ys.length * t.sz -> news[j]? = C.w.cell? (ad.add j) := by
   intro j hj
   obtain ⟨u, hu, _⟩ := key j hj
   rw [hn, List.getElem?_map, List.getElem?_range hj, hu]
   simp [hu]
  have hnews : ∀ j v, news[j]? = some v -> C.w.cell? (ad.add j) = some v := by
   intro j v hv
   have hj : j < news.length := (List.getElem?_eq_some_iff.1 hv).1
   rw [<- hget j (by omega)]; exact hv
  refine ⟨news, Src.ofSlice C.w hk ad ys.length cap news hl hnews ?_, fun i y hy => ?_⟩
  ·intro u hu
   obtain ⟨j, hj, hju⟩ := List.getElem_of_mem hu
   obtain ⟨u', h1, h2⟩ := key j (by omega)
   have := hget j (by omega)
   rw [List.getElem?_eq_getElem hj, hju, h1] at this
   injection this with this; subst this; exact h2
  ·obtain ⟨ad', us, h1, h2, h3, h4⟩ := hcells i y hy
   injection h1 with h1; subst h1
   have hi : i < ys.length := (List.getElem?_eq_some_iff.1 hy).1
   have hisz : i * t.sz + t.sz <= ys.length * t.sz := by
    have : (i + 1) * t.sz <= ys.length * t.sz := Nat.mul_le_mul_right _ hi
    rwa [Nat.add_mul, Nat.one_mul] at this
   have : (news.drop (i * t.sz)).take t.sz = us := by
    apply List.ext_getElem?
    intro k
    rw [List.getElem?_take, List.getElem?_drop]
    by_cases hk : k < t.sz
    ·rw [if_pos hk, hget _ (by omega)]
     have hu : us[k]? = some (us[k]'(by omega)) := List.getElem?_eq_getElem (by omega)
     rw [h3 k _ hu, hu]
    ·rw [if_neg hk, List.getElem?_eq_none (by omega)]
   rw [this]; exact h4
theorem run_append_zero {w : World} {t tx ty e : TypeId} {i : TypeInfo} (ht : P.underlying t = some (.slice e)) (hi : P.info? e = some i) {A : Option Addr} {n c : Nat} {x : Value} (hs : Src P i.size tx x 0 [] w) (hnc : n <= c) :
  (Builtin.append_ #[t, tx] ty #[.slice A n c, x]).run P w = .ok (.slice A n c) w := by
 cases A <;> rcases hs.kind with ⟨e', hk⟩ | hk <;> simp [Builtin.append_, run_underlying ht, run_underlying hk, sizeOf, typeInfo, hi, hs.len, hnc, hs.cells, storeCells]
theorem run_append_room_lit {w : World} {t tx ty e : TypeId} {i : TypeInfo} (ht : P.underlying t = some (.slice e)) (hi : P.info? e = some i) {b off sLen sCap : Nat} {cur : Array Value} {T : TypeId} (hg : w.heap[b]? = some (.cells cur T (0, 0)))
  {x : Value} {n : Nat} {news : List Value} (hs : Src P i.size tx x n news w) (hroom : sLen + n <= sCap) (hfit : off + sLen * i.size + news.length <= cur.size) :
  (Builtin.append_ #[t, tx] ty #[.slice (some ⟨b, off, none⟩) sLen sCap, x]).run P w = .ok (.slice (some ⟨b, off, none⟩) (sLen + n) sCap) (w.setRow b (zBi cur.toList (off + sLen * i.size) news).toArray) := by
 have hst := run_storeCells_at P b (off + sLen * i.size) T news 0 cur w hg (by simpa using hfit) hs.one
 simp only [Nat.add_zero] at hst
 rw [setVals_eq _ _ _ (by simpa using hfit)]
 rcases hs.kind with ⟨e', hk⟩ | hk <;> simp [Builtin.append_, run_underlying ht, run_underlying hk, sizeOf, typeInfo, hi, hs.len, hroom, hs.cells, Addr.add_lit, hst]
structure zCF (tm : Nat -> TypeId) (C : Cx) (fr : Bool) (e : Nat) (t : Ty) (zs : List t.den) (N : Nat -> Prop) (v' : Value) (w' : World) (m' : Option (Nat × Nat)) : Prop where
 ref : zCE w' m' t.sz zs.length 0 zs.length v'
 row : (m' = none /\ zs = []) \/ ∃ b base cur, m' = some (b, base) /\ w'.heap[b]? = some (.cells cur (tm e) (0, 0)) /\ base + zs.length * t.sz <= cur.size /\
  ∀ i z, zs[i]? = some z -> yk C.w C.M C.dl (C.L fr) t z ((cur.toList.drop (base + i * t.sz)).take t.sz)
 step : Stp N C.w w'
 blk : ∀ b base, m' = some (b, base) -> (C.w.heap.size <= b \/ N b) /\ b < w'.heap.size
theorem zCE.slice {w : World} {m : Option (Nat × Nat)} {sz n lo len : Nat} {v : Value} (h : zCE w m sz n lo len v) : ∃ a n c, v = .slice a n c := by
 rcases h with ⟨_, _, rfl⟩ | ⟨_, _, a, cap, _, _, _, rfl, _⟩
 ·exact ⟨_, _, _, rfl⟩
 ·exact ⟨_, _, _, rfl⟩
theorem zCF.fresh {C : Cx} {fr : Bool} {e : Nat} {t : Ty} {zs : List t.den} {N : Nat -> Prop} {w' : World} {cells : Array Value} {cap : Nat} (hw : w'.heap[C.w.heap.size]? = some (.cells cells (tm e) (0, 0))) (hstep : Stp N C.w w') (hlt : C.w.heap.size < w'.heap.size)
  (h1 : zs.length <= cap) (h2 : cap <= maxLen) (h3 : cells.size = cap * t.sz) (hel : ∀ i z, zs[i]? = some z -> yk C.w C.M C.dl (C.L fr) t z ((cells.toList.drop (i * t.sz)).take t.sz)) :
  zCF tm C fr e t zs N (.slice (some ⟨C.w.heap.size, 0, none⟩) zs.length cap) w' (some (C.w.heap.size, 0)) where
 ref := .inr ⟨C.w.heap.size, 0, _, cap, cells, tm e, rfl, rfl, h1, h2, rfl, rfl, fun _ => by simp, hw, by rw [h3]; simp⟩
 row := .inr ⟨C.w.heap.size, 0, cells, rfl, hw, by rw [h3, Nat.zero_add]; exact Nat.mul_le_mul_right _ h1, fun i z hz => by rw [Nat.zero_add]; exact hel i z hz⟩
 step := hstep
 blk := fun b base h => by injection h with h; injection h with h _; subst h; exact ⟨.inl (nR _), hlt⟩
theorem stp_grow (M : Nat -> Prop) (w : World) (o : _root_.Go.Obj) : Stp M w (w.drew.alloc o) := by
 have h1 : Stp M w w.drew := ⟨rfl, rfl, rfl, nR _, fun _ _ _ => rfl, fun _ cur _ h => ⟨cur, h, rfl⟩⟩
 exact h1.trans (stp_alloc M w.drew o)
theorem grown_cells (olds news : List Value) (z : Array Value) (k : Nat) (hz : z.size = k) (c n : Nat) (hc : n <= c) (hl : (olds ++ news).length = n * k) :
  ((olds ++ news).toArray ++ Builtin.zeroCells z (c - n)).size = c * k := by
 rw [Array.size_append, List.size_toArray, hl, size_zeroCells, hz, <- Nat.add_mul]
 congr 1; omega
theorem zCH {α : Type} (l r : List α) (p k : Nat) (h : p + k <= l.length) : ((l ++ r).drop p).take k = (l.drop p).take k := by
 rw [List.drop_append_of_le_length (by omega), List.take_append_of_le_length (by simp; omega)]
theorem elems_two {C : Cx} {L : Nat} {t : Ty} {xs ys : List t.den} {olds news : List Value} (ho : olds.length = xs.length * t.sz) (_hn : news.length = ys.length * t.sz)
  (hx : ∀ i z, xs[i]? = some z -> yk C.w C.M C.dl L t z ((olds.drop (i * t.sz)).take t.sz)) (hy : ∀ i z, ys[i]? = some z -> yk C.w C.M C.dl L t z ((news.drop (i * t.sz)).take t.sz)) :
  ∀ i z, (xs ++ ys)[i]? = some z -> yk C.w C.M C.dl L t z (((olds ++ news).drop (i * t.sz)).take t.sz) := by
 intro i z hz
 rw [List.getElem?_append] at hz
 split at hz
 ·rename_i hi
  have : (i + 1) * t.sz <= xs.length * t.sz := Nat.mul_le_mul_right _ hi
  rw [Nat.add_mul, Nat.one_mul] at this
  rw [zCH _ _ _ _ (by omega)]
  exact hx i z hz
 ·rename_i hi
  have hge : xs.length <= i := by omega
  have : xs.length * t.sz <= i * t.sz := Nat.mul_le_mul_right _ hge
  rw [List.drop_append, List.drop_of_length_le (by omega), List.nil_append, ho, <- Nat.sub_mul]
  exact hy _ z hz
theorem append_nil {C : Cx} {f : Bool} {t : Ty} {ys : List t.den} {x : Value} {T tx ty e' : TypeId} {e : Nat} {i : TypeInfo} {z : Value} (ht : P.underlying T = some (.slice (tm e))) (htx : P.underlying tx = some (.slice e')) (hi : P.info? (tm e) = some i) (hz : i.zero = some z)
  (hsz : i.size = t.sz) (hzs : z.cells.size = t.sz) (hby : i.bytes <= 128) (hx : zB5 C (C.L f) t ys x) (hb : ys.length <= maxN) (N : Nat -> Prop) :
  ∃ v' w' m', (Builtin.append_ #[T, tx] ty #[.slice none 0 0, x]).run P C.w = .ok v' w' /\ zCF tm C f e t ys N v' w' m' := by
 obtain ⟨news, hs, hel⟩ := read_src (P := P) htx hx
 rw [<- hsz] at hs
 unfold maxN at hb
 by_cases h0 : ys.length = 0
 ·have hy : ys = [] := List.eq_nil_of_length_eq_zero h0
  subst hy
  have hn : news = [] := List.eq_nil_of_length_eq_zero (by simpa using hs.newsLen)
  subst hn
  exact ⟨.slice none 0 0, C.w, none, run_append_zero ht hi hs (nR _), ⟨.inl ⟨rfl, rfl, rfl⟩, .inl ⟨rfl, rfl⟩, Stp.refl _ _, fun b base h => by cases h⟩⟩
 ·have hbytes : ys.length * i.bytes <= 1099511627776 * 128 := Nat.mul_le_mul hb hby
  have hr := run_append_grow_src (P := P) C.w T tx ty (tm e) i z ht hi hz none 0 0 [] (run_firstCells_none _ _ _ _ _) x ys.length news hs (by omega) (by omega) (by
   rw [Nat.zero_add]; exact growslice_fits (by omega) (by omega))
  simp only [Nat.zero_add, List.nil_append] at hr
  have hge := grownCap_ge C.w ys.length 0 (tm e)
  have hnl : news.length = ys.length * t.sz := by rw [hs.newsLen, hsz]
  refine ⟨_, _, _, hr, zCF.fresh (heap_alloc_new _ _) (stp_grow _ _ _) (by simp) hge (grownCap_le_maxLen _ _ _ _ (by unfold maxLen; omega)) ?_ ?_⟩
  ·exact grown_cells [] news z.cells t.sz hzs _ _ hge (by simpa using hnl)
  ·intro j y hy
   have hj : j < ys.length := (List.getElem?_eq_some_iff.1 hy).1
   have : (j + 1) * t.sz <= ys.length * t.sz := Nat.mul_le_mul_right _ hj
   rw [Nat.add_mul, Nat.one_mul] at this
   rw [Array.toList_append, List.toList_toArray, zCH _ _ _ _ (by omega)]
   exact hel j y hy
set_option maxHeartbeats 400000 in
theorem append_row {C : Cx} {f fr : Bool} {t : Ty} {st : Nat} {hm : Bool} {xs ys : List t.den} {v x : Value} {T tx ty e' : TypeId} {e len : Nat} {i : TypeInfo} {z : Value} {m : Option (Nat × Nat)} (ht : P.underlying T = some (.slice (tm e))) (htx : P.underlying tx = some (.slice e')) (hi : P.info? (tm e) = some i) (hz : i.zero = some z)
  (hsz : i.size = t.sz) (hzs : z.cells.size = t.sz) (hby : i.bytes <= 128) (hx : zB5 C (C.L f) t ys x) (hobj : zBU tm C m (.row st hm fr e t xs)) (hlen : len <= xs.length) (hrow : zCE C.w m t.sz xs.length 0 len v) (hb : len + ys.length <= maxN) (hlt : ∀ b base, m = some (b, base) -> b < C.w.heap.size) :
  ∃ v' w' m', (Builtin.append_ #[T, tx] ty #[v, x]).run P C.w = .ok v' w' /\ zCF tm C (fr && f) e t (xs.take len ++ ys) (fun b => ∃ base, m = some (b, base)) v' w' m' := by
 have hxw : zB5 C (C.L (fr && f)) t ys x := by
  obtain ⟨a, cap, h1, h2, h3⟩ := hx
  refine ⟨a, cap, h1, h2, fun i y hy => ?_⟩
  obtain ⟨ad, us, h4, h5, h6, h7⟩ := h3 i y hy
  exact ⟨ad, us, h4, h5, h6, zBW (by intro h; simp at h; exact h.2) h7⟩
 rcases hrow with ⟨hm0, hn0, rfl⟩ | ⟨b, base, a, cap, cur, T', hm', rfl, h1, h2, h3, h4, h5, h6, h7⟩
 ·have hx0 : xs = [] := List.eq_nil_of_length_eq_zero hn0
  subst hx0
  rw [List.take_nil, List.nil_append]
  exact append_nil ht htx hi hz hsz hzs hby hxw (by omega) _
 ·rw [Nat.zero_mul, Nat.add_zero] at h5
  rw [Nat.zero_add] at h7
  obtain ⟨news, hs, hel⟩ := read_src (P := P) htx hxw
  rw [<- hsz] at hs
  unfold maxN at hb
  have hnl : news.length = ys.length * t.sz := by rw [hs.newsLen, hsz]
  rcases hobj with ⟨hnone, _⟩ | ⟨b', base', cur', hm2, hh, hcs, hold⟩
  ·rw [hnone] at hm'; cases hm'
  rw [hm2] at hm'; injection hm' with hm'; injection hm' with e1 e2; subst e1; subst e2
  rw [hh] at h6; injection h6 with h6; injection h6 with e3 e4 _; subst e3; subst e4
  have hzl : (xs.take len ++ ys).length = len + ys.length := by simp; omega
  have hlsz : len * t.sz <= xs.length * t.sz := Nat.mul_le_mul_right _ hlen
  have holdW : ∀ j y, (xs.take len)[j]? = some y -> yk C.w C.M C.dl (C.L (fr && f)) t y ((cur'.toList.drop (base' + j * t.sz)).take t.sz) := by
   intro j y hy
   rw [List.getElem?_take] at hy
   split at hy
   ·exact zBW (by intro h; simp at h; exact h.1) (hold j y hy)
   ·cases hy
  by_cases h0 : ys.length = 0
  ·have hy : ys = [] := List.eq_nil_of_length_eq_zero h0
   subst hy
   have hn : news = [] := List.eq_nil_of_length_eq_zero (by simpa using hnl)
   subst hn
   refine ⟨.slice (some a) len cap, C.w, some (b', base'), run_append_zero ht hi hs h1, ⟨?_, .inr ⟨b', base', cur', rfl, hh, ?_, ?_⟩, Stp.refl _ _, ?_⟩⟩
   ·rw [hzl]
    exact .inr ⟨b', base', a, cap, cur', tm e, rfl, by simp, h1, h2, h3, h4, fun hc => by rw [h5 hc]; simp, hh, by simpa using h7⟩
   ·rw [hzl]; simp; omega
   ·intro j y hy
    rw [List.append_nil] at hy
    exact holdW j y hy
   ·intro b base h
    injection h with h; injection h with h h'; subst h
    exact ⟨.inr ⟨_, hm2⟩, hlt _ _ hm2⟩
  ·by_cases hroom : len + ys.length <= cap
   ·have hcap : 0 < cap := by omega
    obtain ⟨ab, ao, asp⟩ := a
    simp only at h3 h4 h5
    have h5 := h5 hcap
    subst h3; subst h4; subst h5
    have hfit : (len + ys.length) * t.sz <= cap * t.sz := Nat.mul_le_mul_right _ hroom
    have hfit' := hfit
    rw [Nat.add_mul] at hfit'
    have hq : ao + len * t.sz + ys.length * t.sz <= cur'.size := by omega
    have hr := run_append_room_lit (P := P) (ty := ty) ht hi hh hs hroom (by rw [hsz, hnl]; exact hq)
    rw [hsz] at hr
    have hrow' := setRow_heap C.w ab cur' (zBi cur'.toList (ao + len * t.sz) news).toArray (tm e) (0, 0) hh
    have hsize : (zBi cur'.toList (ao + len * t.sz) news).toArray.size = cur'.size := by simp [zCK]
    refine ⟨_, _, some (ab, ao), hr, ?_⟩
    obtain ⟨cur2, hcur2⟩ : ∃ c, c = (zBi cur'.toList (ao + len * t.sz) news).toArray := ⟨_, rfl⟩
    rw [<- hcur2] at hrow' hsize ⊢
    refine ⟨?_, .inr ⟨ab, ao, cur2, rfl, hrow', ?_, ?_⟩, ?_, ?_⟩
    ·rw [hzl]
     exact .inr ⟨ab, ao, _, cap, cur2, tm e, rfl, rfl, hroom, h2, rfl, rfl, fun _ => by simp, hrow', by rw [hsize, Nat.zero_add]; exact h7⟩
    ·rw [hzl, hsize, Nat.add_mul]; omega
    ·have hsv := setVals_eq news (ao + len * t.sz) cur'.toList (by rw [hnl]; simp; omega)
     intro j y hy
     have hj : j < len + ys.length := by rw [<- hzl]; exact (List.getElem?_eq_some_iff.1 hy).1
     have hjsz : (j + 1) * t.sz <= (len + ys.length) * t.sz := Nat.mul_le_mul_right _ hj
     rw [Nat.add_mul, Nat.one_mul] at hjsz
     have h8 : ((zBi cur'.toList (ao + len * t.sz) news).drop (ao + j * t.sz)).take t.sz = ((((cur'.toList.drop ao).take (len * t.sz)) ++ news).drop (j * t.sz)).take t.sz := by
      rw [hsv]
      have e5 : cur'.toList.take (ao + len * t.sz) = cur'.toList.take ao ++ (cur'.toList.drop ao).take (len * t.sz) := by rw [List.take_add]
      have ela : (cur'.toList.take ao).length = ao := by
       rw [List.length_take]; apply Nat.min_eq_left; rw [Array.length_toList]; omega
      have elb : ((cur'.toList.drop ao).take (len * t.sz)).length = len * t.sz := by
       rw [List.length_take, List.length_drop]; apply Nat.min_eq_left; rw [Array.length_toList]; omega
      rw [e5, List.append_assoc, List.append_assoc, List.drop_append, List.drop_of_length_le (by rw [ela]; omega), List.nil_append]
      have e6 : ao + j * t.sz - (cur'.toList.take ao).length = j * t.sz := by rw [ela]; omega
      rw [e6, <- List.append_assoc, zCH _ _ _ _ (by rw [lA, elb, hnl]; rw [Nat.add_mul] at hjsz; omega)]
     rw [hcur2, List.toList_toArray, h8]
     have htl : (xs.take len).length = len := by rw [List.length_take]; exact Nat.min_eq_left hlen
     refine elems_two (C := C) (by rw [htl, List.length_take, List.length_drop]; apply Nat.min_eq_left; rw [Array.length_toList]; omega) hnl ?_ hel j y hy
     intro k u hu
     have hk : k < len := by have := (List.getElem?_eq_some_iff.1 hu).1; rw [htl] at this; exact this
     have hksz : (k + 1) * t.sz <= len * t.sz := Nat.mul_le_mul_right _ hk
     rw [Nat.add_mul, Nat.one_mul] at hksz
     have e7 : (((cur'.toList.drop ao).take (len * t.sz)).drop (k * t.sz)).take t.sz = (cur'.toList.drop (ao + k * t.sz)).take t.sz := by
      rw [List.drop_take, List.take_take, List.drop_drop, Nat.min_eq_left (by omega)]
     rw [e7]
     exact holdW k u hu
    ·refine ⟨rfl, rfl, rfl, by simp, fun k _ hn => setRow_other _ _ _ _ (fun e => hn (by rw [e]; exact ⟨_, hm2⟩)), fun k c T' hk => ?_⟩
     by_cases he : k = ab
     ·subst he
      rw [hh] at hk; injection hk with hk; injection hk with g1 g2 _
      subst g1; subst g2
      exact ⟨_, hrow', hsize⟩
     ·exact ⟨c, by rw [setRow_other _ _ _ _ he]; exact hk, rfl⟩
    ·intro b base h
     injection h with h; injection h with h h'; subst h
     exact ⟨.inr ⟨_, hm2⟩, by simp; exact hlt _ _ hm2⟩
   ·have hbytes : (len + ys.length) * i.bytes <= 1099511627776 * 128 := Nat.mul_le_mul hb hby
    obtain ⟨olds, hol⟩ : ∃ olds, olds = (cur'.toList.drop base').take (len * t.sz) := ⟨_, rfl⟩
    have holl : olds.length = len * t.sz := by rw [hol]; simp; omega
    have hcells : ∀ j u, olds[j]? = some u -> C.w.drew.cell? (a.add j) = some u := by
     intro j u hu
     have hj : j < len * t.sz := by rw [<- holl]; exact (List.getElem?_eq_some_iff.1 hu).1
     have hlp : 0 < len := by
      rcases Nat.eq_zero_or_pos len with h0 | h0
      ·rw [h0] at hj; omega
      ·exact h0
     rw [hol, List.getElem?_take, if_pos hj, List.getElem?_drop] at hu
     show C.w.cell? _ = _
     rw [zB4 h4, h3, h5 (by omega), cell_lit C.w _ _ _ _ _ hh, <- Array.getElem?_toList]
     exact hu
    have hr := run_append_grow_src (P := P) C.w T tx ty (tm e) i z ht hi hz (some a) len cap olds (run_firstCells_some C.w.drew i.size len a len cap olds (by rw [hsz]; exact holl) hcells) x ys.length news hs (by omega) (by omega) (growslice_fits (by omega) (by omega))
    have hge := grownCap_ge C.w (len + ys.length) cap (tm e)
    rw [<- hzl] at hr
    refine ⟨_, _, some (C.w.heap.size, 0), hr, zCF.fresh (cap := grownCap C.w (xs.take len ++ ys).length cap (tm e)) (heap_alloc_new C.w.drew _) (stp_grow _ C.w _) (by simp) (by rw [hzl]; exact hge) (grownCap_le_maxLen _ _ _ _ (by rw [hzl]; unfold maxLen; omega)) ?_ ?_⟩
    ·exact grown_cells olds news z.cells t.sz hzs _ _ (by rw [hzl]; exact hge) (by rw [hzl, lA, holl, hnl, Nat.add_mul])
    ·intro j y hy
     have hj : j < len + ys.length := by rw [<- hzl]; exact (List.getElem?_eq_some_iff.1 hy).1
     have hjsz : (j + 1) * t.sz <= (len + ys.length) * t.sz := Nat.mul_le_mul_right _ hj
     rw [Nat.add_mul, Nat.one_mul, Nat.add_mul] at hjsz
     have hfit : j * t.sz + t.sz <= (olds ++ news).length := by rw [lA, holl, hnl]; exact hjsz
     rw [Array.toList_append, List.toList_toArray, zCH _ _ _ _ hfit]
     have htl : (xs.take len).length = len := by rw [List.length_take]; exact Nat.min_eq_left hlen
     refine elems_two (C := C) (by rw [holl, htl]) hnl ?_ hel j y hy
     intro k u hu
     have hk : k < len := by have := (List.getElem?_eq_some_iff.1 hu).1; rw [htl] at this; exact this
     have hksz : (k + 1) * t.sz <= len * t.sz := Nat.mul_le_mul_right _ hk
     rw [Nat.add_mul, Nat.one_mul] at hksz
     have e7 : (olds.drop (k * t.sz)).take t.sz = (cur'.toList.drop (base' + k * t.sz)).take t.sz := by
      rw [hol, List.drop_take, List.take_take, List.drop_drop, Nat.min_eq_left (by omega)]
     rw [e7]
     exact holdW k u hu
end
end Go.Kb
/- A new row becomes an object, or a datum. -/
namespace Go.Kb
section
variable {P : Program} {tm : Nat -> TypeId} {F : Fx} {μ : Nat -> Option (Nat × Nat)} {s : S} {a : Act} {w : World}
theorem nilDen {w : World} {M : Nat -> Prop} {δ : Dl} {L : Nat} (t : Ty) : yk w M δ L (.list t) [] [.slice none 0 0] :=
 ⟨none, 0, rfl, nR _, .inl rfl, fun i x h => by simp at h⟩
theorem zCF.den {C C' : Cx} {fr : Bool} {e : Nat} {t : Ty} {zs : List t.den} {N : Nat -> Prop} {v' : Value} {w' : World} {m' : Option (Nat × Nat)} (h : zCF tm C fr e t zs N v' w' m') (hw : C'.w = w') (hB : C'.B = C.B) (hk : Kept C C')
  (hgone : ∀ b base, m' = some (b, base) -> ¬ C'.M b) (hnew : fr = true -> ∀ b base, m' = some (b, base) -> C.B <= b) : yl C' (.sl fr t zs) v' := by
 show yk C'.w C'.M C'.dl (C'.L fr) (.list t) zs [v']
 rcases h.ref with ⟨_, hn, rfl⟩ | ⟨b, base, ad, cap, cur, T, hm', rfl, h1, h2, h3, h4, h5, h6, h7⟩
 ·have hx : zs = [] := List.eq_nil_of_length_eq_zero hn
  subst hx
  exact nilDen t
 ·refine ⟨some ad, cap, rfl, h1, .inr ⟨ad, rfl, ?_, ?_, ?_⟩, fun i x hx => ?_⟩
  ·unfold Cx.L
   cases hf : fr with
   | false => simp
   | true => simp only [if_true]; rw [hB, h3]; exact hnew hf b base hm'
  ·rw [hw, h3]; exact (h.blk b base hm').2
  ·rw [h3]; exact hgone b base hm'
  ·have hi : i < zs.length := (List.getElem?_eq_some_iff.1 hx).1
   rcases h.row with ⟨hnone, _⟩ | ⟨b', base', cur', hm2, hh, hcs, hel⟩
   ·rw [hnone] at hm'; cases hm'
   rw [hm2] at hm'; injection hm' with hm'; injection hm' with e1 e2; subst e1; subst e2
   rw [hh] at h6; injection h6 with h6; injection h6 with e3 e4 _; subst e3
   have hisz : (i + 1) * t.sz <= zs.length * t.sz := Nat.mul_le_mul_right _ hi
   rw [Nat.add_mul, Nat.one_mul] at hisz
   refine ⟨ad, _, rfl, ?_, fun j u hu => ?_, hk.den fr t x _ (hel i x hx)⟩
   ·simp; omega
   ·rw [hw, zB4 h4, h3, h5 (by omega), cell_lit w' _ _ _ _ _ hh]
    rw [List.getElem?_take, List.getElem?_drop] at hu
    split at hu
    ·rw [<- Array.getElem?_toList, <- hu]; congr 1; omega
    ·cases hu
theorem does_row {o : Oper} {on : Nat} {fr : Bool} {e : Nat} {t : Ty} {zs : List t.den} (ho : on < s.h.length)
  (hrun : ∀ (μ : Nat -> Option (Nat × Nat)) (a : Act) (w : World), RepM tm F μ s a w -> ∃ v' w' m' N, (execOp a.eval o).run P w = .ok (.value v') w' /\ zCF tm (s.cx μ w F) fr e t zs N v' w' m' /\
   ∀ b, N b -> blockOf μ s on b /\ (zBh (s.obj on) -> fr = false)) :
  Does P tm F o s ((s.put o.dst (.one (.ref on ((s.obj on).stamp + 1) .all))).setObj on (.row ((s.obj on).stamp + 1) false fr e t zs)) := by
 rintro a w Q ⟨μ, h⟩
 obtain ⟨v', w', m', N, h1, h2, h3⟩ := hrun μ a w h
 refine wp_value h1 ⟨_, h.upd1 ho o.dst (m := m') (h2.step.mono fun b _ hb => (h3 b hb).1) ?_ (Evo.newer (Nat.lt_succ_self _)) (fun hh => by cases hh) ?_⟩
 ·intro b base _ hm
  obtain ⟨h4, h5⟩ := h2.blk b base hm
  refine ⟨h4.imp id fun hN => ⟨(h3 b hN).1, fun hw hf => ?_⟩, h5⟩
  rw [(h3 b hN).2 hw] at hf
  cases hf
 ·intro C' hC' hk hho hmo
  have hw' : C'.w = w' := by rw [hC']; rfl
  refine ⟨?_, h2.ref.slice, by rw [hho]; exact nR _, fun hm fr' ec t' xs' hx => ?_⟩
  ·rcases h2.row with h4 | ⟨b, base, cur, h4, h5, h6, h7⟩
   ·exact .inl h4
   ·exact .inr ⟨b, base, cur, h4, by rw [hw']; exact h5, h6, fun i z hz => hk.den fr t z _ (h7 i z hz)⟩
  ·rw [hho] at hx
   injection hx with _ _ _ _ hx1 hx2
   subst hx1
   have hx2 := eq_of_heq hx2
   subst hx2
   refine ⟨trivial, ?_⟩
   rw [hmo, hw']
   exact h2.ref
theorem notX (h : RepM tm F μ s a w) {o b base : Nat} (hp : yv (s.obj o)) (hm : μ o = some (b, base)) : ¬ F.X b := by
 intro hb
 have h1 := F.hX b hb
 rcases h.own o b base hp hm with h2 | h2
 ·omega
 ·exact h1.2 h2.1
theorem does_im {o : Oper} {fr : Bool} {e : Nat} {t : Ty} {zs : List t.den}
  (hrun : ∀ (μ : Nat -> Option (Nat × Nat)) (a : Act) (w : World), RepM tm F μ s a w -> ∃ v' w' m', (execOp a.eval o).run P w = .ok (.value v') w' /\ zCF tm (s.cx μ w F) fr e t zs (fun _ => False) v' w' m') :
  Does P tm F o s (s.put o.dst (.one (.sl fr t zs))) := by
 rintro a w Q ⟨μ, h⟩
 obtain ⟨v', w', m', h1, h2⟩ := hrun μ a w h
 have hnew : ∀ b base, m' = some (b, base) -> w.heap.size <= b := fun b base hm => (h2.blk b base hm).1.elim id False.elim
 refine wp_value h1 ⟨μ, h.stepN (fun _ => False) (fun _ => False) rfl h2.step (fun _ h => h.elim) ?_ (fun _ h => h.elim) (fun _ h => h.elim) (fun _ h => h.elim) (fun _ _ _ _ _ h => h.elim) (fun _ h => h.elim) ?_ (by rw [put_h]) (put_k _ _ _) (by rw [put_d]; exact nR _) (fun _ _ => rfl)⟩
 ·intro o' _
  exact ⟨by rw [put_obj], rfl, fun _ _ _ _ h => h⟩
 ·intro C' hC' hk
  refine ⟨fun _ h => h.elim, ?_⟩
  refine h2.den (by rw [hC']; rfl) (by rw [hC']; rfl) hk ?_ ?_
  ·intro b base hm hb
   have := hnew b base hm
   subst hC'
   rcases hb with hb | ⟨o', base', hp, hmo⟩
   ·have := (F.hX b hb).1; have := h.frame.size; omega
   ·simp only [S.cx, put_obj] at hp hmo
    have := h.lt o' b base' hp hmo; omega
  ·intro _ b base hm
   have := hnew b base hm
   have := h.frame.size
   have := F.hB
   show F.B <= b
   omega
theorem does_im_row {o : Oper} {on st : Nat} {fr : Bool} {e : Nat} {t : Ty} {zs : List t.den} (ho : on < s.h.length) (hp : yv (s.obj on)) (hst : (s.obj on).stamp = st)
  (hrun : ∀ (μ : Nat -> Option (Nat × Nat)) (a : Act) (w : World), RepM tm F μ s a w -> ∃ v' w' m', (execOp a.eval o).run P w = .ok (.value v') w' /\ zCF tm (s.cx μ w F) fr e t zs (fun b => ∃ base, μ on = some (b, base)) v' w' m') (hfr : zBh (s.obj on) -> fr = false) :
  Does P tm F o s ((s.put o.dst (.one (.sl fr t zs))).setObj on (.absent (st + 1))) := by
 subst hst
 rintro a w Q ⟨μ, h⟩
 obtain ⟨v', w', m', h1, h2⟩ := hrun μ a w h
 refine wp_value h1 ⟨_, h.upd1 ho o.dst (m := none) (h2.step.mono fun b _ hb => ⟨hp, hb⟩) (fun b base hpp _ => hpp.elim) (Evo.newer (Nat.lt_succ_self _)) (fun hh => by cases hh) ?_⟩
 intro C' hC' hk hho hmo
 refine ⟨trivial, h2.den (by rw [hC']; rfl) (by rw [hC']; rfl) hk ?_ ?_⟩
 ·intro b base hm hb
  subst hC'
  rcases hb with hb | ⟨o', base', hp', hmo'⟩
  ·rcases (h2.blk b base hm).1 with h4 | ⟨base2, h4⟩
   ·have := (F.hX b hb).1; have := h.frame.size; simp only [S.cx] at h4; omega
   ·exact notX h hp h4 hb
  ·simp only [S.cx] at hp' hmo'
   rw [setObj_obj s ho] at hp'
   by_cases he : o' = on
   ·rw [if_pos he] at hp'; exact hp'
   ·rw [if_neg he] at hp'
    simp only [setMu, if_neg he] at hmo'
    rcases (h2.blk b base hm).1 with h4 | ⟨base2, h4⟩
    ·have := h.lt o' b base' hp' hmo'; simp only [S.cx] at h4; omega
    ·exact he (h.inj o' on b base' base2 hp' hp hmo' h4)
 ·intro hf b base hm
  show F.B <= b
  have hFB := F.hB
  rcases (h2.blk b base hm).1 with h4 | ⟨base2, h4⟩
  ·have := h.frame.size; simp only [S.cx] at h4; omega
  ·rcases h.own on b base2 hp h4 with h5 | ⟨_, h5 | h5⟩
   ·omega
   ·rw [hfr h5] at hf; cases hf
   ·exact h5
def zCV : Ty -> List Value -> Option (List Value)
 | .int k, vs => match vs with
  | .int j n :: r => match j == k && n == 0 with
   | true => some r
   | false => none
  | _ => none
 | .bool, vs => match vs with
  | .bool false :: r => some r
  | _ => none
 | .str, vs => match vs with
  | .string b :: r => match b.data.toList with
   | [] => some r
   | _ => none
  | _ => none
 | .unit, vs => some vs
 | .pair a b, vs => match zCV a vs with
  | some r => zCV b r
  | none => none
 | .list _, vs => match vs with
  | .slice none 0 0 :: r => some r
  | _ => none
 | .hnd _, vs => match vs with
  | .slice none 0 0 :: r => some r
  | _ => none
def dfltOk (t : Ty) (vs : List Value) : Bool := match zCV t vs with
 | some [] => true
 | _ => false
theorem dfltRest_rep {w : World} {M : Nat -> Prop} {δ : Dl} {L : Nat} : ∀ {t : Ty} {vs r : List Value}, zCV t vs = some r -> ∃ p, vs = p ++ r /\ yk w M δ L t t.dflt p := by
 intro t
 induction t with
 | int k =>
  intro vs r h
  simp only [zCV] at h
  split at h <;> try (cases h; done)
  split at h <;> try (cases h; done)
  rename_i hb
  injection h with h; subst h
  simp only [bA, beq_iff_eq] at hb
  obtain ⟨rfl, rfl⟩ := hb
  exact ⟨[_], rfl, rfl⟩
 | bool =>
  intro vs r h
  simp only [zCV] at h
  split at h <;> try (cases h; done)
  injection h with h; subst h
  exact ⟨[_], rfl, rfl⟩
 | str =>
  intro vs r h
  simp only [zCV] at h
  split at h <;> try (cases h; done)
  split at h <;> try (cases h; done)
  rename_i hb
  injection h with h; subst h
  exact ⟨[_], rfl, _, rfl, hb⟩
 | unit =>
  intro vs r h
  simp only [zCV] at h
  injection h with h; subst h
  exact ⟨[], rfl, rfl⟩
 | pair t u iht ihu =>
  intro vs r h
  simp only [zCV] at h
  split at h <;> try (cases h; done)
  rename_i r1 h1
  obtain ⟨p, rfl, hp⟩ := iht h1
  obtain ⟨q, rfl, hq⟩ := ihu h
  exact ⟨p ++ q, by simp, p, q, rfl, hp, hq⟩
 | list t _ =>
  intro vs r h
  simp only [zCV] at h
  split at h <;> try (cases h; done)
  injection h with h; subst h
  exact ⟨[_], rfl, nilDen t⟩
 | hnd t _ =>
  intro vs r h
  simp only [zCV] at h
  split at h <;> try (cases h; done)
  injection h with h; subst h
  exact ⟨[_], rfl, _, rfl, rfl⟩
theorem dfltOk_rep {w : World} {M : Nat -> Prop} {δ : Dl} {L : Nat} {t : Ty} {vs : List Value} (h : dfltOk t vs = true) : yk w M δ L t t.dflt vs := by
 unfold dfltOk at h
 split at h <;> try (cases h; done)
 rename_i hr
 obtain ⟨p, rfl, hp⟩ := dfltRest_rep (w := w) (M := M) (δ := δ) (L := L) hr
 rw [List.append_nil]; exact hp
def repVals (z : List Value) : Nat -> List Value
 | 0 => []
 | n + 1 => z ++ repVals z n
theorem repVals_len (z : List Value) : ∀ n, (repVals z n).length = n * z.length
 | 0 => by simp [repVals]
 | n + 1 => by simp [repVals, repVals_len z n, Nat.add_mul]; omega
theorem repVals_get (z : List Value) (hz : 0 < z.length) : ∀ (n j : Nat), j < n * z.length -> (repVals z n)[j]? = z[j % z.length]?
 | 0, j, h => by simp at h
 | n + 1, j, h => by
  simp only [repVals, List.getElem?_append]
  split
  ·rename_i h1; rw [Nat.mod_eq_of_lt h1]
  ·rename_i h1
   rw [Nat.add_mul, Nat.one_mul] at h
   rw [repVals_get z hz n _ (by omega)]
   congr 1
   have : j = (j - z.length) + z.length := by omega
   conv => rhs; rw [this, Nat.add_mod_right]
theorem madeCells_list (z : Array Value) (n : Nat) : (madeCells z (n * z.size)).toList = repVals z.toList n := by
 rcases Nat.eq_zero_or_pos z.size with h0 | h0
 ·have : z.toList = [] := List.eq_nil_of_length_eq_zero (by simpa using h0)
  have h1 : (madeCells z (n * z.size)).toList = [] := List.eq_nil_of_length_eq_zero (by simp [madeCells, h0])
  have h2 : repVals z.toList n = [] := List.eq_nil_of_length_eq_zero (by rw [repVals_len, this]; simp)
  rw [h1, h2]
 ·apply List.ext_getElem?
  intro j
  by_cases hj : j < n * z.size
  ·rw [repVals_get _ (by simpa using h0) _ _ (by simpa using hj)]
   have hm := Nat.mod_lt j h0
   simp [madeCells, hj, Array.getElem!_eq_getD, Array.getD_eq_getD_getElem?, hm]
  ·rw [List.getElem?_eq_none (by simp [madeCells]; omega), List.getElem?_eq_none (by rw [repVals_len]; simpa using Nat.le_of_not_lt hj)]
theorem repVals_elem (z : List Value) : ∀ (n i : Nat), i < n -> ((repVals z n).drop (i * z.length)).take z.length = z
 | n + 1, 0, _ => by simp [repVals]
 | n + 1, i + 1, h => by
  rw [Nat.add_mul, Nat.one_mul]
  simp only [repVals]
  rw [List.drop_append, List.drop_of_length_le (by omega), List.nil_append, show i * z.length + z.length - z.length = i * z.length by omega]
  exact repVals_elem z n i (by omega)
theorem repCells_rep {C : Cx} {zero : List Cell} {z : List Value} (h : zi C zero z) : ∀ n, zi C (repeatCells zero n) (repVals z n)
 | 0 => trivial
 | n + 1 => h.append (repCells_rep h n)
theorem elems_rep {C : Cx} {t : Ty} : ∀ {m : Nat} {cs : List Cell} {f : Bool} {xs : List t.den} {vs : List Value}, t.elems m cs = some (f, xs) -> zi C cs vs ->
  xs.length = m /\ vs.length = m * t.sz /\ ∀ i z, xs[i]? = some z -> yk C.w C.M C.dl (C.L f) t z ((vs.drop (i * t.sz)).take t.sz) := by
 intro m
 induction m with
 | zero =>
  intro cs f xs vs h hc
  cases cs with
  | cons _ _ => simp [Ty.elems] at h
  | nil =>
   simp only [Ty.elems] at h
   injection h with h; injection h with h1 h2; subst h2
   cases vs with
   | cons _ _ => exact hc.elim
   | nil => exact ⟨rfl, by simp, fun i z h => by simp at h⟩
 | succ m ih =>
  intro cs f xs vs h hc
  simp only [Ty.elems] at h
  split at h <;> try (cases h; done)
  rename_i f1 x r h1
  split at h <;> try (cases h; done)
  rename_i g ys h2
  injection h with h; injection h with e1 e2; subst e1; subst e2
  obtain ⟨p, q, rfl, hd, hq⟩ := ofCells_rep h1 hc
  obtain ⟨i1, i2, i3⟩ := ih h2 hq
  have hp := hd.len
  refine ⟨by simp [i1], by simp [hp, i2, Nat.add_mul]; omega, fun i z hz => ?_⟩
  cases i with
  | zero =>
   simp at hz; subst hz
   rw [Nat.zero_mul, List.drop_zero, List.take_left' hp]
   exact zBW (by intro h; simp at h; exact h.1) hd
  | succ i =>
   rw [Nat.add_mul, Nat.one_mul, List.drop_append, List.drop_of_length_le (by omega), List.nil_append, hp, show i * t.sz + t.sz - t.sz = i * t.sz by omega]
   exact zBW (by intro h; simp at h; exact h.2) (i3 i z (by simpa using hz))
theorem make_new {C : Cx} {t : Ty} {e : Nat} {T : TypeId} {i : TypeInfo} {z : Value} {kl kc : IntKind} {n : Int} (ht : P.underlying T = some (.slice (tm e))) (hi : P.info? (tm e) = some i) (hz : i.zero = some z)
  (hsz : i.size = t.sz) (hzs : z.cells.size = t.sz) (hby : i.bytes <= 128) (hd : dfltOk t z.cells.toList = true) (h0 : 0 <= n) (h1 : n <= (maxN : Int)) (N : Nat -> Prop) :
  ∃ v' w' m', (Instr.makeSlice T (.int kl n) (.int kc n)).run P C.w = .ok v' w' /\ zCF tm C true e t (List.replicate n.toNat t.dflt) N v' w' m' := by
 obtain ⟨k, rfl⟩ := Int.eq_ofNat_of_zero_le h0
 unfold maxN at h1
 have hk : k <= 1099511627776 := by omega
 have hb : i.bytes * k <= 128 * 1099511627776 := Nat.mul_le_mul hby hk
 have hbi : (i.bytes : Int) * (k : Int) <= 281474976710656 := by
  have : ((i.bytes * k : Nat) : Int) <= 281474976710656 := by omega
  rwa [Int.natCast_mul] at this
 have hr := run_make (P := P) C.w T (tm e) i z ht hi hz kl kc k k h0 (Int.le_refl _) hbi (by omega)
 simp only [Int.toNat_natCast] at hr ⊢
 have hrl : (List.replicate k t.dflt).length = k := List.length_replicate
 rw [<- hrl] at hr
 refine ⟨_, _, some (C.w.heap.size, 0), by rw [hrl] at hr; rw [hrl]; exact hr, zCF.fresh (cap := k) (heap_alloc_new _ _) (stp_alloc _ _ _) (by simp) (by rw [hrl]; exact nR _) (by unfold maxLen; omega) ?_ ?_⟩
 ·rw [size_madeCells, hsz]
 ·intro j y hy
  rw [List.getElem?_replicate] at hy
  split at hy <;> try (cases hy; done)
  rename_i hj
  injection hy with hy; subst hy
  rw [hsz, <- hzs, madeCells_list]
  have := repVals_elem z.cells.toList k j hj
  simp only [Array.length_toList] at this
  rw [this]
  exact dfltOk_rep hd
def partsOk (place : Nat -> Option (Nat × Nat)) : List (Nat × Operand) -> List (Nat × Nat) -> Bool
 | [], [] => true
 | (i, _) :: r, (off, n) :: q => (match place i with
  | some (a, b) => Nat.beq a off && Nat.beq b n
  | none => false) && partsOk place r q
 | _, _ => false
theorem partsOk_map {place : Nat -> Option (Nat × Nat)} : ∀ {ps : List (Nat × Operand)} {parts : List (Nat × Nat)}, partsOk place ps parts = true -> (ps.map (·.1)).map place = parts.map some
 | [], [], _ => rfl
 | (i, x) :: r, (off, n) :: q, h => by
  simp only [partsOk, bA] at h
  obtain ⟨h1, h2⟩ := h
  split at h1 <;> try (cases h1; done)
  rename_i a b hp
  simp only [bA] at h1
  have e1 := eB h1.1
  have e2 := eB h1.2
  subst e1; subst e2
  simp only [List.map_cons, hp, partsOk_map h2]
 | [], _ :: _, h => by simp [partsOk] at h
 | _ :: _, [], h => by simp [partsOk] at h
theorem zip_parts (f : Operand -> Value) : ∀ (ps : List (Nat × Operand)), (ps.map (·.1)).zip ((ps.map (·.2)).map f) = ps.map fun p => (p.1, f p.2)
 | [] => rfl
 | (i, x) :: r => by simp only [List.map_cons, List.zip_cons_cons, zip_parts f r]
theorem toList_parts (f : Operand -> Value) (ps : Array (Nat × Operand)) : (ps.map fun (i, x) => (i, f x)).toList = ps.toList.map fun p => (p.1, f p.2) := by simp
theorem build_new {C : Cx} {t : Ty} {e m : Nat} {T : TypeId} {i : TypeInfo} {z : Value} {zero : List Cell} {ps : Array (Nat × Operand)} {parts : List (Nat × Nat)} {ρ : Operand -> Value} {vs : List V} {cs : List Cell} {f : Bool} {xs : List t.den}
  (ht : P.underlying T = some (.slice (tm e))) (hi : P.info? (tm e) = some i) (hz : i.zero = some z) (hsz : i.size = t.sz) (hzs : z.cells.size = t.sz) (hzero : zBc zero z.cells.toList = true)
  (hm : 1 <= t.sz) (hm2 : m * t.sz <= 16777216) (hm3 : m <= maxLen) (hp : partsOk (fun i => some (i * t.sz, t.sz)) ps.toList parts = true) (hvs : RepVs C vs ((ps.toList.map (·.2)).map ρ)) (hfill : zBn (repeatCells zero m) parts vs = some cs) (hel : t.elems m cs = some (f, xs)) (N : Nat -> Prop) :
  ∃ v' w' m', (Instr.buildSlice T m (ps.map fun (i, x) => (i, ρ x))).run P C.w = .ok v' w' /\ zCF tm C f e t xs N v' w' m' := by
 rcases Nat.eq_zero_or_pos m with h0 | hmp
 ·subst h0
  have hpar : parts = [] := by
   cases parts with
   | nil => rfl
   | cons p r =>
    obtain ⟨off, n⟩ := p
    cases vs with
    | nil => simp [zBn] at hfill
    | cons v vs =>
     simp only [zBn, repeatCells, List.length_nil] at hfill
     split at hfill <;> try (cases hfill; done)
     rename_i hb
     simp only [bA] at hb
     have := Nat.le_of_ble_eq_true hb.2.1
     have := Nat.le_of_ble_eq_true hb.2.2.2
     omega
  subst hpar
  have hps : ps.toList = [] := by
   cases hp' : ps.toList with
   | nil => rfl
   | cons p r => rw [hp'] at hp; simp [partsOk] at hp
  have hvs0 : vs = [] := by
   rw [hps] at hvs
   cases vs with
   | nil => rfl
   | cons _ _ => exact hvs.elim
  subst hvs0
  simp only [zBn, repeatCells] at hfill
  injection hfill with hfill
  subst hfill
  simp only [Ty.elems] at hel
  injection hel with hel; injection hel with _ hel
  subst hel
  have hps' : ps = #[] := by rw [<- Array.toList_inj, hps]
  subst hps'
  refine ⟨.slice (some ⟨C.w.heap.size, 0, none⟩) 0 0, C.w.alloc (.cells #[] (tm e)), some (C.w.heap.size, 0), ?_, zCF.fresh (cap := 0) (cells := #[]) (heap_alloc_new _ _) (stp_alloc _ _ _) (by simp) (nR _) (Nat.zero_le _) (by simp) (fun i z h => by simp at h)⟩
  simp [Instr.buildSlice, run_underlying ht, sizeOf, typeInfo, hi, Instr.fill, newRow, Array.range_zero']
 have hm : 1 <= m * t.sz := Nat.mul_pos hmp hm
 have hbase := repCells_rep (zCD (C := C) hzero) m
 have hml := madeCells_list z.cells m
 rw [<- hml] at hbase
 obtain ⟨cur', h1, h2, h3⟩ := fill_rep _ parts vs _ (ps.toList.map (·.1)) _ _ _ hfill hvs hbase (partsOk_map hp)
 rw [zip_parts] at h1
 obtain ⟨i1, i2, i3⟩ := elems_rep hel h2
 have hr := run_buildSlice (P := P) C.w T (tm e) m (ps.map fun (i, x) => (i, ρ x)) cur' i z ht hi hz (by rw [hsz]; omega) (by rw [hsz]; omega) (by
  rw [toList_parts, hsz]
  rw [hzs] at h1
  exact h1)
 refine ⟨_, _, some (C.w.heap.size, 0), ?_, zCF.fresh (cap := m) (heap_alloc_new _ _) (stp_alloc _ _ _) (by simp) (by omega) hm3 ?_ i3⟩
 ·rw [i1]; exact hr
 ·rw [<- Array.length_toList, i2]
theorem run_build_rep {C : Cx} {T : TypeId} {fs : Array Field} {it : TypeInfo} {z : Value} {places : List (Nat × Nat)} {zero : List Cell} {ps : Array (Nat × Operand)} {parts : List (Nat × Nat)} {ρ : Operand -> Value} {vs : List V} {cs : List Cell}
  (ht : P.underlying T = some (.struct fs)) (hi : P.info? T = some it) (hz : it.zero = some z) (hpl : fs.toList.mapM (fun f => (P.info? f.type).map fun i => (f.offset, i.size)) = some places) (hzero : zBc zero z.cells.toList = true)
  (hp : partsOk (places.toArray[·]?) ps.toList parts = true) (hvs : RepVs C vs ((ps.toList.map (·.2)).map ρ)) (hfill : zBn zero parts vs = some cs) :
  ∃ x, (Instr.build T (ps.map fun (i, x) => (i, ρ x))).run P C.w = .ok x C.w /\ RepV C (.agg cs) x := by
 obtain ⟨cur', h1, h2, h3⟩ := fill_rep _ parts vs _ (ps.toList.map (·.1)) _ _ _ hfill hvs (zCD (C := C) hzero) (partsOk_map hp)
 rw [zip_parts] at h1
 refine ⟨.agg cur', run_build C.w T _ cur' ?_, ⟨cur'.toList, by simp, h2⟩⟩
 unfold Program.built
 rw [hi, ht]
 simp only [hz, hpl]
 rw [toList_parts]
 exact h1
end
end Go.Kb
/- Comparing structs of whole numbers and bools. -/
namespace Go.Kb
def leafB (P : Program) (f : Field) (t : Ty) (off : Nat) : Bool :=
 f.name != "_" && (f.offset == off && (match P.underlying f.type with
  | some (.int _) => (match t with | .int _ => true | _ => false)
  | some .bool => (match t with | .bool => true | _ => false)
  | _ => false))
def eqFieldsB (P : Program) : List Field -> Ty -> Nat -> Bool
 | [f], t, off => leafB P f t off
 | f :: fs, .pair a b, off => leafB P f a off && eqFieldsB P fs b (off + 1)
 | _, _, _ => false
def eqTB (P : Program) (T : TypeId) (t : Ty) : Bool := match P.underlying T with
 | some (.struct fs) => !P.stoodInHeld T && (!P.eqGuardType P.depth T && eqFieldsB P fs.toList t 0)
 | _ => false
section
variable {P : Program} {C : Cx} {look : Nat -> Obj} {ρ : Operand -> Value}
theorem leaf_part {f : Field} {t : Ty} {off : Nat} (h : leafB P f t off = true) {xs : List Value} {v : Value} {r : List Value} (hx : xs.drop off = v :: r) (w : World) : (part f.type xs.toArray f.offset).run P w = .ok v w := by
 unfold leafB at h
 simp only [bA, beq_iff_eq] at h
 obtain ⟨_, h2, h3⟩ := h
 have ha : aggOf P f.type = some false := by
  unfold aggOf
  split at h3
  ·rename_i k hk; rw [hk]
  ·rename_i hk; rw [hk]
  ·cases h3
 have hv : xs[off]? = some v := by
  have := congrArg (fun l => l[0]?) hx
  simpa using this
 rw [h2]
 simp [part, run_aggOf ha, hv]
theorem leaf_eq {f : Field} {t : Ty} {off : Nat} (h : leafB P f t off = true) {cs ds cs' ds' : List Cell} {r : Bool} (he : eqCells t cs ds = some (r, cs', ds')) {vs us : List Value} (hc : zi C cs vs) (hd : zi C ds us) :
  ∃ v vs' u us', vs = v :: vs' /\ us = u :: us' /\ zi C cs' vs' /\ zi C ds' us' /\ ∀ (d : Nat) (w : World), (Op.equalIn (d + 1) f.type v u).run P w = .ok r w := by
 unfold leafB at h
 simp only [bA, beq_iff_eq] at h
 obtain ⟨_, _, h3⟩ := h
 split at h3
 ·rename_i k hk
  split at h3 <;> try (cases h3; done)
  unfold eqCells at he
  split at he <;> try (cases he; done)
  rename_i k1 a r1 k2 b r2
  split at he <;> try (cases he; done)
  injection he with he; injection he with e1 he; injection he with e2 e3
  subst e1; subst e2; subst e3
  match vs, us, hc, hd with
  | v :: vs', u :: us', hc, hd =>
   have hv : v = .int k1 a := hc.1
   have hu : u = .int k2 b := hd.1
   rename_i hkk
   have hkk := IntKind.code_inj (eB hkk)
   subst hkk
   exact ⟨v, vs', u, us', rfl, rfl, hc.2, hd.2, fun d w => by rw [hv, hu]; exact run_equalIn_int w d f.type k1 k a b hk⟩
  | [], _, hc, _ => exact hc.elim
  | _ :: _, [], _, hd => exact hd.elim
 ·rename_i hk
  split at h3 <;> try (cases h3; done)
  unfold eqCells at he
  split at he <;> try (cases he; done)
  rename_i a r1 b r2
  injection he with he; injection he with e1 he; injection he with e2 e3
  subst e1; subst e2; subst e3
  match vs, us, hc, hd with
  | v :: vs', u :: us', hc, hd =>
   have hv : v = .bool a := hc.1
   have hu : u = .bool b := hd.1
   exact ⟨v, vs', u, us', rfl, rfl, hc.2, hd.2, fun d w => by rw [hv, hu]; exact run_equalIn_bool' w d f.type a b hk⟩
  | [], _, hc, _ => exact hc.elim
  | _ :: _, [], _, hd => exact hd.elim
 ·cases h3
theorem eqFields_rep : ∀ (fs : List Field) (t : Ty) (off : Nat) (cs ds cs' ds' : List Cell) (r : Bool) (vs us xs ys : List Value), eqFieldsB P fs t off = true -> eqCells t cs ds = some (r, cs', ds') -> zi C cs vs -> zi C ds us ->
  xs.drop off = vs -> ys.drop off = us -> ∀ (d : Nat) (w : World), (Op.eqFields (d + 1) xs.toArray ys.toArray fs).run P w = .ok r w := by
 intro fs
 induction fs with
 | nil => intro t off cs ds cs' ds' r vs us xs ys h; cases t <;> cases h
 | cons f fs ih =>
  intro t off cs ds cs' ds' r vs us xs ys h he hc hd hx hy d w
  have one : ∀ {a : Ty} {c1 d1 : List Cell} {p : Bool}, leafB P f a off = true -> eqCells a cs ds = some (p, c1, d1) -> ∃ v vs' u us', vs = v :: vs' /\ us = u :: us' /\ zi C c1 vs' /\ zi C d1 us' /\
    (Op.eqFields (d + 1) xs.toArray ys.toArray (f :: fs)).run P w = (if (!p) = true then .ok false w else (Op.eqFields (d + 1) xs.toArray ys.toArray fs).run P w) := by
   intro a c1 d1 p hl hp
   obtain ⟨v, vs', u, us', e1, e2, e3, e4, e5⟩ := leaf_eq hl hp hc hd
   refine ⟨v, vs', u, us', e1, e2, e3, e4, ?_⟩
   have hname : f.name ≠ "_" := by
    unfold leafB at hl
    simp only [bA, bne_iff_ne] at hl
    exact hl.1
   rw [e1] at hx
   rw [e2] at hy
   simp only [Op.eqFields, if_pos hname, Sem.run_bind, leaf_part hl hx, leaf_part hl hy, Result.andThen_ok, e5, Sem.run_ite, Sem.run_pure]
  cases fs with
  | nil =>
   have hl : leafB P f t off = true := by unfold eqFieldsB at h; exact h
   obtain ⟨v, vs', u, us', _, _, _, _, e⟩ := one hl he
   rw [e]
   cases r with
   | false => rfl
   | true => simp [Op.eqFields]
  | cons g fs =>
   cases t with
   | pair a b =>
    simp only [eqFieldsB, bA] at h
    unfold eqCells at he
    split at he <;> try (cases he; done)
    rename_i p c1 d1 hp
    split at he <;> try (cases he; done)
    rename_i q c2 d2 hq
    injection he with he; injection he with e1 he; injection he with e2 e3
    subst e1; subst e2; subst e3
    obtain ⟨v, vs', u, us', e1, e2, e3, e4, e⟩ := one h.1 hp
    rw [e]
    cases p with
    | false => rfl
    | true =>
     have hx' : xs.drop (off + 1) = vs' := by
      have := congrArg (List.drop 1) hx
      rw [List.drop_drop, e1] at this
      exact this
     have hy' : ys.drop (off + 1) = us' := by
      have := congrArg (List.drop 1) hy
      rw [List.drop_drop, e2] at this
      exact this
     have := ih b (off + 1) c1 d1 c2 d2 q vs' us' xs ys h.2 hq e3 e4 hx' hy' d w
     simpa using this
   | _ => simp [eqFieldsB] at h
theorem q_eqAgg {ng : Bool} {t : Ty} {T : TypeId} (hT : eqTB P T t = true) {x y : Operand} {vs : List V} {v : V} {u : List (Nat × Obj)} (he : XK.eval (.eqAgg ng t) look vs = .done true v u) (hr : RepVs C vs ([x, y].map ρ)) :
  u = [] /\ Gives P C (do pure (Next.value (<- (do eqGuard (if ng then .neq else .eql) T x y (ρ x) (ρ y); binOp (if ng then .neq else .eql) T (ρ x) (ρ y))))) v := by
 simp only [XK.eval, E.eqAgg] at he
 split at he
 ·rename_i a b
  split at he
  ·rename_i r heq
   obtain ⟨_, rfl, rfl⟩ := zAw he
   obtain ⟨h1, h2, _⟩ := hr
   obtain ⟨xs, hx, hxr⟩ := h1
   obtain ⟨ys, hy, hyr⟩ := h2
   unfold eqTB at hT
   split at hT
   ·rename_i fs hfs
    simp only [bA, Bool.not_eq_true'] at hT
    obtain ⟨t1, t2, t3⟩ := hT
    have hf : P.fieldsOf T = fs := by unfold Program.fieldsOf; rw [hfs]
    have hun : P.underlying T = some (.struct (P.fieldsOf T)) := by rw [hf]; exact hfs
    have hrun : (Op.equalIn 10000 T (.agg xs.toArray) (.agg ys.toArray)).run P C.w = .ok r C.w := by
     rw [show (10000 : Nat) = 9998 + 1 + 1 from rfl, run_equalIn_agg C.w (9998 + 1) T _ _ hun t1, hf]
     exact eqFields_rep fs.toList t 0 a b [] [] r xs ys xs ys t3 heq hxr hyr rfl rfl 9998 C.w
    refine ⟨rfl, ?_⟩
    have hx : ρ x = .agg xs.toArray := hx
    have hy : ρ y = .agg ys.toArray := hy
    cases ng with
    | false =>
     refine ⟨.bool r, ?_, rfl⟩
     simp [hx, hy, run_eqGuard_agg C.w .eql T x y _ _ t2, run_eql_struct, hrun, Result.andThen]
    | true =>
     refine ⟨.bool (!r), ?_, rfl⟩
     simp [hx, hy, run_eqGuard_agg C.w .neq T x y _ _ t2, run_neq_struct, hrun, Result.andThen]
   ·cases hT
  ·cases he
 ·cases he
end
end Go.Kb
/- Each operation of a text does what the abstract operation does. -/
namespace Go.Kb
structure Env1 where
 P : Program
 tm : Nat -> TypeId
 fm : Nat -> FuncId
 eqT : TypeId -> Ty -> Bool
 sg : Nat -> Option (Sig × Bool)
 G : Nat -> Prop
 Q : World -> Prop
def zCP : List XPar -> List FPar -> Bool
 | [], [] => true
 | .val g n :: r, .val g' n' :: q => (g == g') && (Nat.beq n n' && ((g || Nat.beq n 1) && zCP r q))
 | .box _ n :: r, .box _ n' :: q => Nat.beq n n' && zCP r q
 | _, _ => false
def zB6 : List (Option (Nat × Nat)) -> List (Option (Nat × Nat)) -> Bool
 | [], [] => true
 | none :: r, none :: q => zB6 r q
 | some (_, e) :: r, some (_, e') :: q => Nat.beq e e' && zB6 r q
 | _, _ => false
def retsOk : List RetC -> List RetS -> Bool
 | [], [] => true
 | .val g n :: r, .val g' n' :: q => (g == g') && (Nat.beq n n' && retsOk r q)
 | .box _ n :: r, .ptr n' :: q => Nat.beq n n' && retsOk r q
 | _, _ => false
def pairOk : List (Option (Nat × Nat)) -> List (Option (Nat × Nat)) -> Nat -> Nat -> Bool
 | some (o, _) :: r, some (oc, _) :: q, a, b => (Nat.beq o a && Nat.beq oc b) || pairOk r q a b
 | none :: r, none :: q, a, b => pairOk r q a b
 | _, _, _, _ => false
def outsOk (c : zCJ) (g : Sig) : List OutC -> List OutF -> Bool
 | [], [] => true
 | .imm :: r, .imm :: q => outsOk c g r q
 | .imm :: r, .own _ :: q => outsOk c g r q
 | .own _ e :: r, .own e' :: q => Nat.beq e e' && outsOk c g r q
 | .back o :: r, .back oc :: q => pairOk c.rowsIn g.rowsIn o oc && outsOk c g r q
 | _, _ => false
def ownC : List OutC -> List Nat
 | [] => []
 | .own o _ :: r => o :: ownC r
 | .imm :: r => ownC r
 | .back _ :: r => ownC r
def zB8 : List OutC -> List Nat
 | [] => []
 | .own o _ :: r => o :: zB8 r
 | .imm :: r => zB8 r
 | .back o :: r => o :: zB8 r
def backC : List OutC -> List Nat
 | [] => []
 | .back o :: r => o :: backC r
 | .imm :: r => backC r
 | .own _ _ :: r => backC r
def boxC : List RetC -> List Nat
 | [] => []
 | .box o _ :: r => o :: boxC r
 | .val _ _ :: r => boxC r
def allIn : List Nat -> List Nat -> Bool
 | [], _ => true
 | n :: r, l => memb n l && allIn r l
def sigOk (c : zCJ) (g : Sig) (ro : List Nat) : Bool :=
 zCP c.pars g.pars && (zB6 c.rowsIn g.rowsIn && (retsOk c.rets g.rets && (outsOk c g c.outs g.outs &&
  (nodup (zBJ c.pars ++ zAb c.rowsIn) && (nodup (zBI g.pars ++ zAb g.rowsIn) && (nodup (zB8 c.outs ++ (boxC c.rets ++ zBJ c.pars)) &&
  (allIn (zBJ c.pars ++ zAb c.rowsIn) ro && (allIn (ownC c.outs ++ boxC c.rets) ro &&
  (allBelow (zBJ c.pars ++ zAb c.rowsIn) && (allBelow (zB8 c.outs ++ (boxC c.rets ++ zBJ c.pars)) && allBelow (zBI g.pars ++ zAb g.rowsIn)))))))))))
def callOk (E : Env1) (x : XOp) (hp : Bool) (c : zCJ) (op : Op) : Bool :=
 match op with
 | .call cl => match cl.callee with
  | .value (.func fid) => match E.P.funcs[fid]?, E.sg c.fn with
   | some fn, some (g, fresh) => !(fn.name == "runtime.NumGoroutine") && (fn.body.isSome && (fid == E.fm c.fn && (c.fresh == fresh && (g.hp == hp && (argsOk x.args cl.args.toList && sigOk c g x.ro)))))
   | _, _ => false
  | _ => false
 | _ => false
def elemOk (P : Program) (eT : TypeId) (t : Ty) : Bool :=
 match P.info? eT with
 | some i => match i.zero with
  | some z => Nat.beq i.size t.sz && (Nat.beq z.cells.size t.sz && Nat.ble i.bytes 128)
  | none => false
 | none => false
theorem elemOk_spec {P : Program} {eT : TypeId} {t : Ty} (h : elemOk P eT t = true) : ∃ i z, P.info? eT = some i /\ i.zero = some z /\ i.size = t.sz /\ z.cells.size = t.sz /\ i.bytes <= 128 := by
 unfold elemOk at h
 split at h <;> try (cases h; done)
 rename_i i hi
 split at h <;> try (cases h; done)
 rename_i z hz
 simp only [bA] at h
 exact ⟨i, z, hi, hz, eB h.1, eB h.2.1, Nat.le_of_ble_eq_true h.2.2⟩
def zeroOf (P : Program) (eT : TypeId) : List Value :=
 match P.info? eT with
 | some i => match i.zero with
  | some z => z.cells.toList
  | none => []
 | none => []
def sameArg : XArg -> XArg -> Bool
 | .slot n, .slot m => Nat.beq n m
 | .const (.one (.int k n)), .const (.one (.int j m)) => Nat.beq (IntKind.code k) (IntKind.code j) && n == m
 | _, _ => false
theorem sameArg_eval {a b : XArg} (h : sameArg a b = true) (s : S) : a.eval s = b.eval s := by
 unfold sameArg at h
 split at h <;> try (cases h; done)
 ·rw [eB h]
 ·simp only [bA, beq_iff_eq] at h
  rw [IntKind.code_inj (eB h.1), h.2]
def appendOk (E : Env1) (e : Nat) (t : Ty) (op : Op) (args : List XArg) : Bool :=
 match op, args with
 | .call cl, [a, b] => match cl.callee, cl.args.toList, cl.argTypes.toList with
  | .builtin .append, [y, z], [T, T2] => argOk a y && (argOk b z && (match E.P.underlying T, E.P.underlying T2 with
   | some (.slice eT), some (.slice _) => (eT == E.tm e) && elemOk E.P eT t
   | _, _ => false))
  | _, _, _ => false
 | _, _ => false
def effOk (E : Env1) (x : XOp) (op : Op) : Bool :=
 match x.kind with
 | .dead => true
 | .call c => callOk E x false c op
 | .callH _ c => callOk E x true c op && (memb HP x.ro && memb HP x.wo)
 | .box o => memb o x.ro && (match op, x.args with
  | .box _ y, [a] => argOk a y
  | _, _ => false)
 | .alloc o zero => memb o x.ro && (match op, x.args with
  | .alloc T, [] => match E.P.info? T with
   | some i => match i.zero with
    | some z => zBc zero z.cells.toList
    | none => false
   | none => false
  | _, _ => false)
 | .store n => match op, x.args with
  | .store T y z, [a, b] => argOk a y && (argOk b z && sizeB E.P T n)
  | _, _ => false
 | .append im o e t => (im || memb o x.ro) && appendOk E e t op x.args
 | .appendDel _ e t => appendOk E e t op x.args
 | .makeSlice o e t => memb o x.ro && (match op, x.args with
  | .makeSlice T y z, [a, b] => argOk a y && (argOk b z && (sameArg a b && (match E.P.underlying T with
   | some (.slice eT) => (eT == E.tm e) && (elemOk E.P eT t && dfltOk t (zeroOf E.P eT))
   | _ => false)))
  | _, _ => false)
 | .buildSlice im o e t m parts zero => (im || memb o x.ro) && (match op with
  | .buildSlice T len ps => Nat.beq len m && (argsOk x.args (ps.toList.map (·.2)) && (partsOk (fun i => some (i * t.sz, t.sz)) ps.toList parts && (Nat.ble 1 t.sz && (Nat.ble (m * t.sz) 16777216 && (Nat.ble m 16777216 && (match E.P.underlying T with
   | some (.slice eT) => (eT == E.tm e) && (elemOk E.P eT t && zBc zero (zeroOf E.P eT))
   | _ => false))))))
  | _ => false)
 | .build zero parts => match op with
  | .build T ps => argsOk x.args (ps.toList.map (·.2)) && (match E.P.underlying T, E.P.info? T with
   | some (.struct fs), some it => match it.zero, fs.toList.mapM (fun f => (E.P.info? f.type).map fun i => (f.offset, i.size)) with
    | some z, some places => zBc zero z.cells.toList && partsOk (places.toArray[·]?) ps.toList parts
    | _, _ => false
   | _, _ => false)
  | _ => false
 | _ => false
def allLt (n : Nat) : List Nat -> Bool
 | [] => true
 | m :: r => Nat.blt m n && allLt n r
def isCallH : XK -> Bool
 | .callH _ _ => true
 | _ => false
def allLtH (n : Nat) : List Nat -> Bool
 | [] => true
 | m :: r => (Nat.blt m n || Nat.beq m HP) && allLtH n r
def postOk (nobj : Nat) (x : XOp) : Bool :=
 match x.post with
 | .none => true
 | .pub o => Nat.blt o nobj && (memb o x.ro && (memb HP x.ro && x.dst.isSome))
 | .take o _ _ => Nat.blt o nobj && (memb o x.ro && (memb HP x.ro && x.dst.isSome))
def opOk (E : Env1) (nobj : Nat) (o : Oper) (x : XOp) : Bool :=
 o.dst == x.dst && (postOk nobj x && ((allLt nobj x.wo || (isCallH x.kind && allLtH nobj x.wo)) && (match quietOk E.P E.eqT x.kind o.op with
  | some as => argsOk x.args as
  | none => effOk E x o.op)))
theorem zBz {s : S} {o : Nat} {x : Obj} (h : o ≠ HP) : s.setO o x = s.setObj o x := by
 unfold S.setO S.setObj
 cases hb : Nat.beq o HP with
 | true => exact absurd (eB hb) h
 | false => rfl
theorem setO_HP {s : S} {x : Obj} : s.setO HP x = { s with d := hrows x, k := htaken x } := by
 unfold S.setO
 rw [show Nat.beq HP HP = true from Nat.beq_refl HP]
theorem ups_one (s : S) {o : Nat} (x : Obj) (h : o ≠ HP) : s.ups [(o, x)] = s.setObj o x := by
 simp only [S.ups]; exact zBz h
theorem allLt_memb {n : Nat} : ∀ {l : List Nat} {m : Nat}, allLt n l = true -> memb m l = true -> m < n
 | k :: r, m, h, hm => by
  simp [allLt] at h
  simp [memb] at hm
  rcases hm with h1 | h1
  ·subst h1; simpa using h.1
  ·exact allLt_memb h.2 h1
 | [], m, _, hm => by simp [memb] at hm
section
variable {E : Env1} {F : Fx}
theorem does_quiet {o : Oper} {s : S} {v : V} (h : ∀ (μ : Nat -> Option (Nat × Nat)) (a : Act) (w : World), RepM E.tm F μ s a w -> Gives E.P (s.cx μ w F) (execOp a.eval o) v) :
  Does E.P E.tm F o s (s.put o.dst v) := by
 rintro a w Q ⟨μ, hr⟩
 obtain ⟨x, h1, h2⟩ := h μ a w hr
 exact wp_value h1 ⟨μ, hr.put o.dst h2⟩
theorem exec_builtin {ρ : Operand -> Value} {dst : Option Tmp} {c : Call} {ty : TypeId} {pos : String} {after : Array Edge} {guard : Option (Nat × Bool)} {b : Builtin} (hc : c.callee = .builtin b) :
  execOp ρ ⟨dst, .call c, ty, pos, after, guard⟩ = builtin b c.argTypes ty (c.args.map fun | .const _ => true | _ => false) (c.args.map ρ) := by
 simp only [execOp, resolve, hc]
 rfl
theorem gives_congr {P : Program} {C : Cx} {s s' : Sem Next} {v : V} {u : List (Nat × Obj)} (h : s' = s) (g : u = [] /\ Gives P C s v) : u = [] /\ Gives P C s' v := h ▸ g
theorem arr_one {α : Type} {a : Array α} {x : α} (h : a.toList = [x]) : a = #[x] := by rw [<- Array.toList_inj, h]
theorem arr_two {α : Type} {a : Array α} {x y : α} (h : a.toList = [x, y]) : a = #[x, y] := by rw [<- Array.toList_inj, h]
theorem op_quiet_run {o : Oper} {k : XK} {C : Cx} {look : Nat -> Obj} {ρ : Operand -> Value} {vs : List V} {as : List Operand} {v : V} {u : List (Nat × Obj)} (heqT : ∀ T t, E.eqT T t = true -> eqTB E.P T t = true)
  (hq : quietOk E.P E.eqT k o.op = some as) (he : k.eval look vs = .done true v u) (hargs : RepVs C vs (as.map ρ)) (hs : Sees look C.h) (ho : ∀ o, zBU E.tm C (C.μ o) (C.h o)) :
  u = [] /\ Gives E.P C (execOp ρ o) v := by
 obtain ⟨dst, op, ty, pos, after, guard⟩ := o
 simp only at hq
 cases k <;> simp only [quietOk] at hq <;> try (cases hq; done)
 case move =>
  split at hq <;> try (cases hq; done)
  ·injection hq with hq; subst hq; exact q_move he hargs
  ·injection hq with hq; subst hq; exact q_move he hargs
 case nilck =>
  split at hq <;> try (cases hq; done)
  injection hq with hq; subst hq
  obtain ⟨h1, ad, h2, h3⟩ := q_nilck he hargs
  exact ⟨h1, _, by simp only [execOp, h2]; rfl, h3⟩
 case pick =>
  split at hq <;> try (cases hq; done)
  injection hq with hq; subst hq; exact q_pick he hargs
 case bin b =>
  split at hq <;> try (cases hq; done)
  split at hq <;> try (cases hq; done)
  rename_i hb; subst hb
  injection hq with hq; subst hq; exact q_bin he hargs
 case eqBool ng =>
  split at hq <;> try (cases hq; done)
  split at hq <;> try (cases hq; done)
  rename_i hb; subst hb
  split at hq <;> try (cases hq; done)
  rename_i hT
  injection hq with hq; subst hq
  cases ng <;> exact q_eqBool hT he hargs
 case eqAgg ng t =>
  split at hq <;> try (cases hq; done)
  split at hq <;> try (cases hq; done)
  rename_i hb
  obtain ⟨rfl, hT⟩ := hb
  injection hq with hq; subst hq
  cases ng <;> exact q_eqAgg (heqT _ _ hT) he hargs
 case not =>
  split at hq <;> try (cases hq; done)
  injection hq with hq; subst hq; exact q_not (_T := 0) he hargs
 case neg =>
  split at hq <;> try (cases hq; done)
  injection hq with hq; subst hq; exact q_neg he hargs
 case conv =>
  split at hq <;> try (cases hq; done)
  split at hq <;> try (cases hq; done)
  rename_i h1 h2
  split at hq <;> try (cases hq; done)
  rename_i hb; subst hb
  injection hq with hq; subst hq; exact q_conv h1 h2 he hargs
 case b2s =>
  split at hq <;> try (cases hq; done)
  split at hq <;> try (cases hq; done)
  rename_i h1 h2
  split at hq <;> try (cases hq; done)
  rename_i h3
  injection hq with hq; subst hq; exact q_b2s h1 h2 h3 hs ho he hargs
 case extract =>
  split at hq <;> try (cases hq; done)
  split at hq <;> try (cases hq; done)
  rename_i hb; subst hb
  injection hq with hq; subst hq; exact q_extract he hargs
 case field =>
  split at hq <;> try (cases hq; done)
  split at hq <;> try (cases hq; done)
  rename_i h1
  split at hq <;> try (cases hq; done)
  rename_i h2
  split at hq <;> try (cases hq; done)
  rename_i h3
  injection hq with hq; subst hq; exact q_field h1 h2 h3.1 h3.2.1 (szOk_iff h3.2.2) he hargs
 case fieldAddr =>
  split at hq <;> try (cases hq; done)
  split at hq <;> try (cases hq; done)
  rename_i h1
  split at hq <;> try (cases hq; done)
  rename_i h2
  split at hq <;> try (cases hq; done)
  rename_i h4
  split at hq <;> try (cases hq; done)
  rename_i h3
  injection hq with hq; subst hq; exact q_fieldAddr h1 h2 h3.1 h4 h3.2 he hargs
 case indexAddr =>
  split at hq <;> try (cases hq; done)
  split at hq <;> try (cases hq; done)
  rename_i h1
  split at hq <;> try (cases hq; done)
  rename_i h2
  injection hq with hq; subst hq; exact q_indexAddr h1 h2 hs ho he hargs
 case strIndex =>
  split at hq <;> try (cases hq; done)
  split at hq <;> try (cases hq; done)
  rename_i h1
  injection hq with hq; subst hq; exact q_strIndex h1 he hargs
 case load =>
  split at hq <;> try (cases hq; done)
  split at hq <;> try (cases hq; done)
  rename_i h1
  injection hq with hq; subst hq; exact q_load h1.1 (szOk_iff h1.2) hs ho he hargs
 case slice =>
  split at hq <;> try (cases hq; done)
  split at hq <;> try (cases hq; done)
  rename_i h1
  split at hq <;> try (cases hq; done)
  rename_i h2
  injection hq with hq; subst hq; exact q_slice h1 h2.1 hs h2.2.1 h2.2.2 he hargs
 case strSlice =>
  split at hq <;> try (cases hq; done)
  split at hq <;> try (cases hq; done)
  rename_i h1
  split at hq <;> try (cases hq; done)
  rename_i h2
  injection hq with hq; subst hq; exact q_strSlice h1 h2.1 h2.2 he hargs
 case len =>
  split at hq <;> try (cases hq; done)
  split at hq <;> try (cases hq; done)
  rename_i c _ _ _ x T h1 h2 h3
  split at hq <;> try (cases hq; done)
  rename_i h4
  injection hq with hq; subst hq
  refine gives_congr ?_ (q_len (ty := ty) h4 hs ho he hargs)
  rw [exec_builtin h1, arr_one h2, arr_one h3, show (#[x] : Array Operand).map ρ = #[ρ x] by simp]; rfl
 case strLen =>
  split at hq <;> try (cases hq; done)
  split at hq <;> try (cases hq; done)
  rename_i c _ _ _ x T h1 h2 h3
  split at hq <;> try (cases hq; done)
  rename_i h4
  injection hq with hq; subst hq
  refine gives_congr ?_ (q_strLen (ty := ty) h4 he hargs)
  rw [exec_builtin h1, arr_one h2, arr_one h3, show (#[x] : Array Operand).map ρ = #[ρ x] by simp]; rfl
 case max =>
  split at hq <;> try (cases hq; done)
  split at hq <;> try (cases hq; done)
  rename_i c _ _ x y h1 h2
  injection hq with hq; subst hq
  refine gives_congr ?_ (q_max (ty := ty) (ts := c.argTypes) he hargs)
  rw [exec_builtin h1, arr_two h2, show (#[x, y] : Array Operand).map ρ = #[ρ x, ρ y] by simp]; rfl
 case min =>
  split at hq <;> try (cases hq; done)
  split at hq <;> try (cases hq; done)
  rename_i c _ _ x y h1 h2
  injection hq with hq; subst hq
  refine gives_congr ?_ (q_min (ty := ty) (ts := c.argTypes) he hargs)
  rw [exec_builtin h1, arr_two h2, show (#[x, y] : Array Operand).map ρ = #[ρ x, ρ y] by simp]; rfl
end
end Go.Kb
/- An operation, guard and all: what it decides, and that the text's operation does it. -/
namespace Go.Kb
theorem zBL {α β : Type} {x : Option α} {f : α -> Option β} {b : β} (h : bindO x f = some b) : ∃ a, x = some a /\ f a = some b := by
 cases x with
 | none => cases h
 | some a => exact ⟨a, rfl, h⟩
def isOneBool : V -> Bool
 | .one (.bool _) => true
 | _ => false
def chk (op : XOp) (p : V × List (Nat × Obj)) : Option (V × List (Nat × Obj)) :=
 match (!op.split || isOneBool p.1) && upsIn op.wo p.2 with
 | true => some p
 | false => none
def FS.callO (f : FS) (inp : List Cell) (D : List HRow) : Option (List Cell × List HRow) :=
 match f.arg.ofCells noLook inp with
 | some (fl, x, []) => match f.hp with
  | false => bindO (f.F x) fun r => some (f.ret.cells ((f.fresh && !f.keep) || (f.keep && fl)) r, [])
  | true => bindO (f.H x D) fun p => some (f.ret.cells ((f.fresh && !f.keep) || (f.keep && fl)) p.1, p.2)
 | _ => none
theorem FS.call_eq (f : FS) (inp : List Cell) (D : List HRow) {R : Type} (k : List Cell -> List HRow -> Option R) : f.call inp D k = bindO (f.callO inp D) fun p => k p.1 p.2 := by
 unfold FS.call FS.callO
 generalize f.arg.ofCells noLook inp = z
 match z with
 | none => rfl
 | some (_, x, []) =>
  cases hh : f.hp with
  | false => simp only []; cases f.F x <;> rfl
  | true => simp only []; cases f.H x D <;> rfl
 | some (_, x, _ :: _) => rfl
def postO (op : XOp) (look : Nat -> Obj) (p : V × List (Nat × Obj)) : Option (V × List (Nat × Obj)) :=
 match op.post with
 | .none => some p
 | q => match postRun look q p.1 p.2 with
  | some (b, v', u') => bif b then some (v', u') else none
  | none => none
def chk2 (op : XOp) (s : S) (p : V × List (Nat × Obj)) : Option (V × List (Nat × Obj)) := bindO (chk op p) (postO op (op.look s))
def XOp.bodyO (fs : Nat -> FS) (op : XOp) (s : S) : Option (V × List (Nat × Obj)) :=
 match op.res s with
 | .bad => none
 | .done c v u => bif c then chk2 op s (v, u) else none
 | .call c g inp D fin => bif c then bindO ((fs g).callO inp D) fun out => bindO (fin out.1 out.2) (chk2 op s) else none
def XOp.dec (fs : Nat -> FS) (op : XOp) (s : S) : Option (V × List (Nat × Obj)) :=
 match op.guard with
 | none => op.bodyO fs s
 | some (g, want) => match s.slot g with
  | .one (.bool b) => bif (b == want) then op.bodyO fs s else some (.tup [], [])
  | .tup [] => some (.tup [], [])
  | _ => none
def S.eff (s : S) (op : XOp) (p : V × List (Nat × Obj)) : S := (s.put op.dst p.1).ups p.2
theorem upd_eq {R : Type} (op : XOp) (s : S) (v : V) (u : List (Nat × Obj)) (k : S -> Option R) (hu : upsIn op.wo u = true) :
  s.updK op v u k = bindO (postO op (op.look s) (v, u)) fun q => k (s.eff op q) := by
 unfold S.updK postO
 rw [hu]
 cases op.post with
 | none => rfl
 | pub o =>
  simp only []
  cases postRun (op.look s) (.pub o) v u with
  | none => rfl
  | some x => obtain ⟨b, v', u'⟩ := x; cases b <;> rfl
 | take o e i =>
  simp only []
  cases postRun (op.look s) (.take o e i) v u with
  | none => rfl
  | some x => obtain ⟨b, v', u'⟩ := x; cases b <;> rfl
theorem split_eq {R : Type} (op : XOp) (s : S) (p : V × List (Nat × Obj)) (k : S -> Option R) :
  splitK op p.1 (fun v' => s.updK op v' p.2 k) = bindO (chk2 op s p) fun q => k (s.eff op q) := by
 obtain ⟨v, u⟩ := p
 unfold splitK chk2 chk
 cases hu : upsIn op.wo u with
 | false =>
  have hn : ∀ v, s.updK op v u k = none := fun v => by
   unfold S.updK; rw [hu]
  simp only [hn, Bool.and_false, bindO]
  cases op.split with
  | false => rfl
  | true =>
   cases v with
   | one c => cases c <;> try rfl
              rename_i b; cases b <;> rfl
   | _ => rfl
 | true =>
  simp only [upd_eq op s _ u k hu]
  cases hs : op.split
  ·simp [bindO]
  ·simp only [Bool.not_true, Bool.false_or, Bool.and_true]
   cases v with
   | one c =>
    cases c with
    | bool b => cases b <;> simp [isOneBool, bindO]
    | _ => rfl
   | _ => rfl
theorem XOp.stepK_eq {R : Type} (fs : Nat -> FS) (op : XOp) (s : S) (k : S -> Option R) :
  op.stepK (envOf fs) s k = bindO (op.dec fs s) fun p => k (s.eff op p) := by
 have hb : op.bodyK (envOf fs) s k = bindO (op.bodyO fs s) fun p => k (s.eff op p) := by
  unfold XOp.bodyK XOp.bodyO
  cases op.res s with
  | bad => rfl
  | done c v u =>
   cases c
   ·rfl
   ·exact split_eq op s (v, u) k
  | call c g inp D fin =>
   cases c
   ·rfl
   simp only [envOf, FS.call_eq, cond_true]
   cases (fs g).callO inp D with
   | none => rfl
   | some out =>
    simp only [bindO]
    cases fin out.1 out.2 with
    | none => rfl
    | some p => exact split_eq op s p k
 unfold XOp.stepK XOp.dec
 cases op.guard with
 | none => exact hb
 | some p =>
  obtain ⟨g, want⟩ := p
  simp only []
  generalize s.slot g = z
  match z with
  | .one (.bool b) =>
   simp only []
   cases hbw : (b == want)
   ·rfl
   ·exact hb
  | .tup [] => rfl
  | .tup (_ :: _) => rfl
  | .agg _ => rfl
  | .junk => rfl
  | .one (.int _ _) => rfl
  | .one (.str _) => rfl
  | .one .nil => rfl
  | .one (.sl _ _ _) => rfl
  | .one (.hnd _ _) => rfl
  | .one (.ref _ _ _) => rfl
  | .one (.ptr _ _ _) => rfl
  | .one (.dptr _ _ _ _) => rfl
  | .one (.eptr _ _ _ _) => rfl
  | .one .junk => rfl
theorem setO_h (s : S) (o : Nat) (x : Obj) : (s.setO o x).h.length = s.h.length := by
 unfold S.setO; split <;> simp
theorem setO_t (s : S) (o : Nat) (x : Obj) : (s.setO o x).t = s.t := by
 unfold S.setO; split <;> rfl
theorem ups_len : ∀ (u : List (Nat × Obj)) (s : S), (s.ups u).h.length = s.h.length
 | [], _ => rfl
 | (o, x) :: r, s => by simp [S.ups, ups_len r, setO_h]
theorem ups_t : ∀ (u : List (Nat × Obj)) (s : S), (s.ups u).t = s.t
 | [], _ => rfl
 | (o, x) :: r, s => by simp [S.ups, ups_t r, setO_t]
theorem eff_len (s : S) (op : XOp) (p : V × List (Nat × Obj)) : (s.eff op p).h.length = s.h.length := by
 simp [S.eff, ups_len, put_h]
theorem chk_some {op : XOp} {p q : V × List (Nat × Obj)} (h : chk op p = some q) : q = p /\ upsIn op.wo p.2 = true := by
 unfold chk at h
 split at h
 ·rename_i hh
  injection h with h
  simp at hh
  exact ⟨h.symm, hh.2⟩
 ·cases h
def guardOk (ops : Array Oper) (o : Oper) (x : XOp) : Bool :=
 match o.guard, x.guard with
 | none, none => true
 | some (j, w), some (g, w') => w == w' && (match (ops[j]?).bind (·.dst) with | some d => Nat.beq d g | none => false)
 | _, _ => false
def XOp.base (x : XOp) : XOp := { x with post := .none }
def isCall : XK -> Bool
 | .call _ => true
 | .callH _ _ => true
 | _ => false
def CallOk (E : Env1) (F : Fx) (fs : Nat -> FS) (nobj : Nat) : Prop :=
 ∀ (o : Oper) (x : XOp), isCall x.kind = true -> x.post = .none -> opOk E nobj o x = true -> ∀ (s : S) (p : V × List (Nat × Obj)), s.h.length = nobj -> x.bodyO fs s = some p -> Does E.P E.tm F o s (s.eff x p)
section
variable {E : Env1} {F : Fx}
theorem exec_append {o : Oper} {ρ : Operand -> Value} {cl : Call} {y z : Operand} {T T2 : TypeId} (hop : o.op = .call cl) (hc : cl.callee = .builtin .append) (ha : cl.args.toList = [y, z]) (ht : cl.argTypes.toList = [T, T2]) :
  execOp ρ o = (do pure (Next.value (<- Builtin.append_ #[T, T2] o.type #[ρ y, ρ z]))) := by
 obtain ⟨dst, op, ty, pos, after, guard⟩ := o
 simp only at hop
 subst hop
 rw [exec_builtin hc, arr_two ha, arr_two ht, show (#[y, z] : Array Operand).map ρ = #[ρ y, ρ z] by simp]
 rfl
theorem zCF.weaken {tm : Nat -> TypeId} {C : Cx} {f g : Bool} {e : Nat} {t : Ty} {zs : List t.den} {N : Nat -> Prop} {v' : Value} {w' : World} {m' : Option (Nat × Nat)} (h : zCF tm C f e t zs N v' w' m') (hg : g = true -> f = true) : zCF tm C g e t zs N v' w' m' where
 ref := h.ref
 row := h.row.imp id fun ⟨b, base, cur, h1, h2, h3, h4⟩ => ⟨b, base, cur, h1, h2, h3, fun i z hz => zBW hg (h4 i z hz)⟩
 step := h.step
 blk := h.blk
theorem flat_den {w : World} {M : Nat -> Prop} {δ : Dl} {L L' : Nat} : ∀ {t : Ty} {x : t.den} {vs : List Value}, t.flat = true -> yk w M δ L t x vs -> yk w M δ L' t x vs := by
 intro t
 induction t with
 | int k => exact fun _ h => h
 | bool => exact fun _ h => h
 | str => exact fun _ h => h
 | unit => exact fun _ h => h
 | pair t u iht ihu =>
  intro x vs hf h
  simp only [Ty.flat, bA] at hf
  obtain ⟨p, q, rfl, hp, hq⟩ := h
  exact ⟨p, q, rfl, iht hf.1 hp, ihu hf.2 hq⟩
 | list t _ => intro x vs hf; cases hf
 | hnd t _ => exact fun _ h => h
theorem flat_list {C : Cx} {f : Bool} {t : Ty} {ys : List t.den} {x : Value} (h : zB5 C (C.L f) t ys x) : zB5 C (C.L (f || t.flat)) t ys x := by
 cases ht : t.flat with
 | false => rw [Bool.or_false]; exact h
 | true =>
  obtain ⟨a, cap, h1, h2, h3⟩ := h
  refine ⟨a, cap, h1, h2, fun i y hy => ?_⟩
  obtain ⟨ad, us, h4, h5, h6, h7⟩ := h3 i y hy
  exact ⟨ad, us, h4, h5, h6, flat_den ht h7⟩
theorem does_append {P : Program} {tm : Nat -> TypeId} {F : Fx} {o : Oper} {s : S} {look : Nat -> Obj} {im : Bool} {on e : Nat} {t : Ty} {a1 a2 : XArg} {v : V} {u : List (Nat × Obj)} {cl : Call} {y z : Operand} {T T2 e2 : TypeId} {i : TypeInfo} {zz : Value}
  (hop : o.op = .call cl) (hcl : cl.callee = .builtin .append) (hya : cl.args.toList = [y, z]) (hTa : cl.argTypes.toList = [T, T2]) (hT : P.underlying T = some (.slice (tm e))) (hT2 : P.underlying T2 = some (.slice e2)) (hi : P.info? (tm e) = some i) (hz : i.zero = some zz)
  (hsz : i.size = t.sz) (hzs : zz.cells.size = t.sz) (hby : i.bytes <= 128) (h1 : argOk a1 y = true) (h2 : argOk a2 z = true) (hs : Sees look s.obj) (hHP : s.h.length <= HP) (hst : im = false -> look on = s.obj on) (ho : ∀ i yy, (i, yy) ∈ u -> i < s.h.length)
  (hres : Kb.E.append look im on e t [a1.eval s, a2.eval s] = .done true v u) : Does P tm F o s ((s.put o.dst v).ups u) := by
 have hr1 : ∀ (μ : Nat -> Option (Nat × Nat)) (a : Act) (w : World), RepM tm F μ s a w -> RepV (s.cx μ w F) (a1.eval s) (a.eval y) := fun μ a w h => arg_rep h h1
 have hr2 : ∀ (μ : Nat -> Option (Nat × Nat)) (a : Act) (w : World), RepM tm F μ s a w -> RepV (s.cx μ w F) (a2.eval s) (a.eval z) := fun μ a w h => arg_rep h h2
 generalize a1.eval s = v1 at hres hr1
 generalize a2.eval s = v2 at hres hr2
 unfold Kb.E.append at hres
 split at hres <;> try (cases hres; done)
 rename_i sc xc heq
 injection heq with q1 q2
 injection q2 with q2 _
 subst q1; subst q2
 split at hres <;> try (cases hres; done)
 rename_i f0 ys hlist0
 obtain ⟨f, hf⟩ : ∃ f, f = (f0 || t.flat) := ⟨_, rfl⟩
 rw [<- hf] at hres
 have hlist : ∀ (μ : Nat -> Option (Nat × Nat)) (a : Act) (w : World), RepM tm F μ s a w -> zB5 (s.cx μ w F) ((s.cx μ w F).L f) t ys (a.eval z) := fun μ a w h => by
  have := listOf_rep hs h.objs hlist0 (hr2 μ a w h)
  rw [hf]
  exact flat_list this
 split at hres <;> try (cases hres; done)
 ·split at hres
  ·obtain ⟨hb, rfl, rfl⟩ := zAw hres
   have hb : ys.length <= maxN := by simpa using hb
   rw [hst rfl, ups_one _ _ (by have := ho on _ (List.mem_singleton_self _); omega)]
   refine does_row (ho on _ (List.mem_singleton_self _)) fun μ a w h => ?_
   have hv : a.eval y = .slice none 0 0 := hr1 μ a w h
   obtain ⟨v', w', m', g1, g2⟩ := append_nil (P := P) (C := s.cx μ w F) (tx := T2) (ty := o.type) hT hT2 hi hz hsz hzs hby (hlist μ a w h) hb (fun _ => False)
   exact ⟨v', w', m', _, by rw [exec_append hop hcl hya hTa, hv]; exact run_v g1, g2, fun b h => h.elim⟩
  ·obtain ⟨hb, rfl, rfl⟩ := zAw hres
   have hb : ys.length <= maxN := by simpa using hb
   refine does_im (e := e) fun μ a w h => ?_
   have hv : a.eval y = .slice none 0 0 := hr1 μ a w h
   obtain ⟨v', w', m', g1, g2⟩ := append_nil (P := P) (C := s.cx μ w F) (tx := T2) (ty := o.type) hT hT2 hi hz hsz hzs hby (hlist μ a w h) hb (fun _ => False)
   exact ⟨v', w', m', by rw [exec_append hop hcl hya hTa, hv]; exact run_v g1, g2⟩
 ·rename_i o' st ex
  split at hres <;> try (cases hres; done)
  rename_i st' hm fr e' uu xs hlook
  split at hres <;> try (cases hres; done)
  rename_i hbq
  simp only [bA] at hbq
  have b1 := eB hbq.1
  have b2 := eB hbq.2.1
  have b3 := eB hbq.2.2
  subst b1; subst b2; subst b3
  split at hres <;> try (cases hres; done)
  rename_i hbt
  have := Ty.eq_of_beq hbt
  subst this
  have hob := hs.row hlook trivial
  have hlen : ∀ b : Bool, decide (xs.length + (Ty.cast (a := .list t) (b := .list t) hbt ys).length <= maxN) = true -> xs.length + ys.length <= maxN := fun _ h => (of_decide_eq_true h : xs.length + (Ty.cast (a := .list t) (b := .list t) hbt ys).length <= maxN)
  have core : xs.length + ys.length <= maxN -> ∀ (μ : Nat -> Option (Nat × Nat)) (a : Act) (w : World), RepM tm F μ s a w -> ex = .all -> ∃ v' w' m', (execOp a.eval o).run P w = .ok (.value v') w' /\ zCF tm (s.cx μ w F) (fr && f && !hm) e t (xs ++ ys) (fun b => ∃ base, μ on = some (b, base)) v' w' m' := by
   intro hb μ a w h hex
   subst hex
   obtain ⟨_, _, hrow⟩ := hr1 μ a w h
   obtain ⟨_, hrow⟩ := hrow hm fr e t xs hob
   have hobj := h.objs on
   rw [hob] at hobj
   obtain ⟨v', w', m', g1, g2⟩ := append_row (P := P) (C := s.cx μ w F) (tx := T2) (ty := o.type) hT hT2 hi hz hsz hzs hby (hlist μ a w h) hobj (nR _) hrow hb
    (fun b base hm => h.lt on b base (by rw [hob]; trivial) hm)
   rw [List.take_length] at g2
   exact ⟨v', w', m', by rw [exec_append hop hcl hya hTa]; exact run_v g1, g2.weaken (by intro h; simp at h; simp [h.1])⟩
  have hweak : zBh (s.obj on) -> (fr && f && !hm) = false := by
   rw [hob]
   intro hw
   cases hfr : fr with
   | false => simp
   | true => rw [hw hfr]; simp
  split at hres <;> try (cases hres; done)
  ·obtain ⟨hb, rfl, rfl⟩ := zAw hres
   rw [ups_one _ _ (by have := ho on _ (List.mem_singleton_self _); omega)]
   exact does_im_row (e := e) (ho on _ (List.mem_singleton_self _)) (by rw [hob]; trivial) (by rw [hob]; rfl) (fun μ a w h => core (hlen true hb) μ a w h rfl) hweak
  ·obtain ⟨hb, rfl, rfl⟩ := zAw hres
   rw [ups_one _ _ (by have := ho on _ (List.mem_singleton_self _); omega)]
   have hsto : (s.obj on).stamp = st := by rw [hob]; rfl
   have := does_row (P := P) (tm := tm) (F := F) (o := o) (s := s) (on := on) (fr := fr && f && !hm) (e := e) (t := t) (zs := xs ++ ys) (ho on _ (List.mem_singleton_self _)) fun μ a w h => by
    obtain ⟨v', w', m', g1, g2⟩ := core (hlen true hb) μ a w h rfl
    exact ⟨v', w', m', _, g1, g2, fun b hN => ⟨⟨by rw [hob]; trivial, hN⟩, hweak⟩⟩
   rw [hsto] at this
   exact this
theorem does_appendDel {P : Program} {tm : Nat -> TypeId} {F : Fx} {o : Oper} {s : S} {look : Nat -> Obj} {on e : Nat} {t : Ty} {a1 a2 : XArg} {v : V} {u : List (Nat × Obj)} {cl : Call} {y z : Operand} {T T2 e2 : TypeId} {i : TypeInfo} {zz : Value}
  (hop : o.op = .call cl) (hcl : cl.callee = .builtin .append) (hya : cl.args.toList = [y, z]) (hTa : cl.argTypes.toList = [T, T2]) (hT : P.underlying T = some (.slice (tm e))) (hT2 : P.underlying T2 = some (.slice e2)) (hi : P.info? (tm e) = some i) (hz : i.zero = some zz)
  (hsz : i.size = t.sz) (hzs : zz.cells.size = t.sz) (hby : i.bytes <= 128) (h1 : argOk a1 y = true) (h2 : argOk a2 z = true) (hs : Sees look s.obj) (hHP : s.h.length <= HP) (ho : ∀ i yy, (i, yy) ∈ u -> i < s.h.length)
  (hres : Kb.E.appendDel look on e t [a1.eval s, a2.eval s] = .done true v u) : Does P tm F o s ((s.put o.dst v).ups u) := by
 have hr1 : ∀ (μ : Nat -> Option (Nat × Nat)) (a : Act) (w : World), RepM tm F μ s a w -> RepV (s.cx μ w F) (a1.eval s) (a.eval y) := fun μ a w h => arg_rep h h1
 have hr2 : ∀ (μ : Nat -> Option (Nat × Nat)) (a : Act) (w : World), RepM tm F μ s a w -> RepV (s.cx μ w F) (a2.eval s) (a.eval z) := fun μ a w h => arg_rep h h2
 generalize a1.eval s = v1 at hres hr1
 generalize a2.eval s = v2 at hres hr2
 unfold Kb.E.appendDel at hres
 split at hres <;> try (cases hres; done)
 rename_i o1 st1 hi1 o2 st2 k heq
 injection heq with q1 q2
 injection q2 with q2 _
 subst q1; subst q2
 split at hres <;> try (cases hres; done)
 rename_i st hm fr e' uu xs hlook
 split at hres <;> try (cases hres; done)
 rename_i hbq
 simp only [bA] at hbq
 have b1 := eB hbq.1
 have b2 := eB hbq.2.1
 have b3 := eB hbq.2.2.1
 have b4 := eB hbq.2.2.2.1
 have b5 := eB hbq.2.2.2.2.1
 have b6 := Ty.eq_of_beq hbq.2.2.2.2.2
 subst b1; subst b2; subst b3; subst b4; subst b5; subst b6
 have hob := hs.row hlook trivial
 obtain ⟨hb, rfl, rfl⟩ := zAw hres
 simp only [bA, decide_eq_true_eq] at hb
 rw [ups_one _ _ (by have := ho on _ (List.mem_singleton_self _); omega)]
 have hsto : (s.obj on).stamp = st := by rw [hob]; rfl
 have := does_row (P := P) (tm := tm) (F := F) (o := o) (s := s) (on := on) (fr := fr && !hm) (e := e) (t := t) (zs := xs.take hi1 ++ xs.drop k) (ho on _ (List.mem_singleton_self _)) fun μ a w h => by
  have hc1 := hr1 μ a w h
  have hc2 := hr2 μ a w h
  obtain ⟨_, _, hrow⟩ := hc1
  obtain ⟨hok, hrow⟩ := hrow hm fr e t xs hob
  have hobj := h.objs on
  rw [hob] at hobj
  have hx : listOf look t (.ref on st (.tail k)) = some (fr, xs.drop k) := by
   simp only [listOf, hlook]
   rw [show Nat.beq st st = true from Nat.beq_refl st]
   simp only []
   have hself : Ty.beq t t = true := hbq.2.2.2.2.2
   split
   ·rfl
   ·rename_i hh; rw [hself] at hh; cases hh
  have hok : (0 : Nat) <= hi1 /\ hi1 <= xs.length := hok
  have hrow : zCE w (μ on) t.sz xs.length 0 (hi1 - 0) (a.eval y) := hrow
  obtain ⟨v', w', m', g1, g2⟩ := append_row (P := P) (C := s.cx μ w F) (tx := T2) (ty := o.type) (len := hi1) hT hT2 hi hz hsz hzs hby (listOf_rep hs h.objs hx hc2) hobj hok.2 hrow (by simp; omega)
   (fun b base hm => h.lt on b base (by rw [hob]; trivial) hm)
  exact ⟨v', w', m', _, by rw [exec_append hop hcl hya hTa]; exact run_v g1, g2.weaken (by intro h; simp at h; simp [h.1]), fun b hN => ⟨⟨by rw [hob]; trivial, hN⟩, by
   rw [hob]
   intro hw
   cases hfr : fr with
   | false => simp
   | true => rw [hw hfr]; simp⟩⟩
 rw [hsto] at this
 exact this
theorem eff_one {s : S} {x : XOp} {v : V} {o : Nat} {y : Obj} (h : o < s.h.length) (hl : s.h.length <= HP) : s.eff x (v, [(o, y)]) = (s.put x.dst v).setObj o y := by
 unfold S.eff
 exact ups_one _ _ (by omega)
theorem does_done (heqT : ∀ T t, E.eqT T t = true -> eqTB E.P T t = true) {o : Oper} {x : XOp} {s : S} {v : V} {u : List (Nat × Obj)} (hHP : s.h.length <= HP) (hcl : isCall x.kind = false) (hok : opOk E s.h.length o x = true) (hres : x.res s = .done true v u) (hu : upsIn x.wo u = true) :
  Does E.P E.tm F o s (s.eff x (v, u)) := by
 unfold opOk at hok
 simp only [bA] at hok
 obtain ⟨hdst, _, hwo, hk⟩ := hok
 have hwo : allLt s.h.length x.wo = true := by
  rw [Bool.or_eq_true] at hwo
  rcases hwo with h | h
  ·exact h
  ·rw [bA] at h
   cases hx : x.kind <;> rw [hx] at h hcl <;> first | (cases h.1; done) | cases hcl
 have hdst : o.dst = x.dst := by simpa using hdst
 unfold XOp.res at hres
 split at hk
 ·rename_i as hq
  have main : ∀ (μ : Nat -> Option (Nat × Nat)) (a : Act) (w : World), RepM E.tm F μ s a w -> u = [] /\ Gives E.P (s.cx μ w F) (execOp a.eval o) v := by
   intro μ a w hr
   exact op_quiet_run heqT hq hres (args_rep hr hk) (sees_look x s) hr.objs
  rintro a w Q ⟨μ, hr⟩
  obtain ⟨h1, _⟩ := main μ a w hr
  subst h1
  have := does_quiet (fun μ a w hr => (main μ a w hr).2) a w Q ⟨μ, hr⟩
  simp only [S.eff, S.ups]
  rw [<- hdst]
  exact this
 ·have hlook : ∀ i, memb i x.ro = true -> x.look s i = s.obj i := fun i hi => by simp [XOp.look, hi]
  have hmem : ∀ i y, (i, y) ∈ u -> i < s.h.length := by
   intro i y hm
   have : ∀ (l : List (Nat × Obj)), upsIn x.wo l = true -> (i, y) ∈ l -> memb i x.wo = true := by
    intro l
    induction l with
    | nil => intro _ h; cases h
    | cons p r ih =>
     intro h hm
     simp [upsIn] at h
     cases hm with
     | head => exact h.1
     | tail _ hm => exact ih h.2 hm
   exact allLt_memb hwo (this u hu hm)
  unfold effOk at hk
  cases hx : x.kind <;> rw [hx] at hk hres <;> simp only [] at hk <;> try (cases hk; done)
  case dead => cases hres
  case call c => rw [hx] at hcl; cases hcl
  case callH f c => rw [hx] at hcl; cases hcl
  case box on =>
   rw [bA] at hk
   obtain ⟨hro, hk⟩ := hk
   split at hk <;> try (cases hk; done)
   rename_i T y a hop hargs
   rw [hargs] at hres
   have hne : 0 < (a.eval s).cells.length \/ ∃ cs, a.eval s = .agg cs := by
    simp only [XK.eval, Kb.E.box, zCG] at hres
    generalize a.eval s = z at *
    match z with
    | .one c => exact .inl (by simp [V.cells])
    | .agg cs => exact .inr ⟨cs, rfl⟩
    | .tup _ => cases hres
    | .junk => cases hres
   have hkey : zBY (a.eval s).cells = true /\ v = .one (.ptr on ((x.look s on).stamp + 1) 0) /\ u = [(on, .box ((x.look s on).stamp + 1) false (a.eval s).cells)] := by
    simp only [XK.eval, Kb.E.box, zCG] at hres
    generalize a.eval s = z at *
    match z with
    | .one c =>
     simp only [] at hres
     split at hres <;> try (cases hres; done)
     rename_i hst
     obtain ⟨_, h1, h2⟩ := zAw hres
     exact ⟨hst, h1.symm, h2.symm⟩
    | .agg cs =>
     simp only [] at hres
     split at hres <;> try (cases hres; done)
     rename_i hst
     obtain ⟨_, h1, h2⟩ := zAw hres
     exact ⟨hst, h1.symm, h2.symm⟩
    | .tup _ => cases hres
    | .junk => cases hres
   obtain ⟨hst, rfl, rfl⟩ := hkey
   rw [hlook on hro] at *
   have := does_box (P := E.P) (tm := E.tm) (F := F) hop hk hst hne (hmem on _ (List.mem_singleton_self _))
   rw [hdst] at this
   rw [eff_one (hmem on _ (List.mem_singleton_self _)) hHP]
   exact this
  case alloc on zero =>
   rw [bA] at hk
   obtain ⟨hro, hk⟩ := hk
   split at hk <;> try (cases hk; done)
   rename_i T hop hargs
   split at hk <;> try (cases hk; done)
   rename_i i hi
   split at hk <;> try (cases hk; done)
   rename_i z hz
   rw [hargs] at hres
   simp only [XK.eval, Kb.E.alloc, zCG] at hres
   obtain ⟨_, rfl, rfl⟩ := zAw hres
   rw [hlook on hro] at *
   have := does_alloc (P := E.P) (tm := E.tm) (F := F) hop hi hz hk (hmem on _ (List.mem_singleton_self _))
   rw [hdst] at this
   rw [eff_one (hmem on _ (List.mem_singleton_self _)) hHP]
   exact this
  case append im on e t =>
   rw [bA] at hk
   obtain ⟨hro, hk⟩ := hk
   unfold appendOk at hk
   split at hk <;> try (cases hk; done)
   rename_i cl a b hop hargs
   split at hk <;> try (cases hk; done)
   rename_i y z T T2 hcl hya hTa
   simp only [bA] at hk
   obtain ⟨h1, h2, hk⟩ := hk
   split at hk <;> try (cases hk; done)
   rename_i eT e2 hT hT2
   rw [bA] at hk
   obtain ⟨heT, hel⟩ := hk
   have heT : eT = E.tm e := by simpa using heT
   subst heT
   obtain ⟨i, zz, hi, hz, hsz, hzs, hby⟩ := elemOk_spec hel
   rw [hargs] at hres
   have := does_append (P := E.P) (tm := E.tm) (F := F) (s := s) hop hcl hya hTa hT hT2 hi hz hsz hzs hby h1 h2 (sees_look x s) hHP (fun him => hlook on (by rw [him] at hro; simpa using hro)) hmem hres
   rw [hdst] at this
   exact this
  case appendDel on e t =>
   unfold appendOk at hk
   split at hk <;> try (cases hk; done)
   rename_i cl a b hop hargs
   split at hk <;> try (cases hk; done)
   rename_i y z T T2 hcl hya hTa
   simp only [bA] at hk
   obtain ⟨h1, h2, hk⟩ := hk
   split at hk <;> try (cases hk; done)
   rename_i eT e2 hT hT2
   rw [bA] at hk
   obtain ⟨heT, hel⟩ := hk
   have heT : eT = E.tm e := by simpa using heT
   subst heT
   obtain ⟨i, zz, hi, hz, hsz, hzs, hby⟩ := elemOk_spec hel
   rw [hargs] at hres
   have := does_appendDel (P := E.P) (tm := E.tm) (F := F) (s := s) hop hcl hya hTa hT hT2 hi hz hsz hzs hby h1 h2 (sees_look x s) hHP hmem hres
   rw [hdst] at this
   exact this
  case makeSlice on e t =>
   rw [bA] at hk
   obtain ⟨hro, hk⟩ := hk
   split at hk <;> try (cases hk; done)
   rename_i T y z a b hop hargs
   simp only [bA] at hk
   obtain ⟨h1, h2, hsame, hk⟩ := hk
   split at hk <;> try (cases hk; done)
   rename_i eT hT
   simp only [bA] at hk
   obtain ⟨heT, hel, hdf⟩ := hk
   have heT : eT = E.tm e := by simpa using heT
   subst heT
   obtain ⟨i, zz, hi, hz, hsz, hzs, hby⟩ := elemOk_spec hel
   simp only [zeroOf, hi, hz] at hdf
   rw [hargs] at hres
   simp only [XK.eval, Kb.E.makeSlice, zCG] at hres
   rw [<- sameArg_eval hsame s] at hres
   cases hae : a.eval s with
   | one c =>
    cases c with
    | int k n =>
     rw [hae] at hres
     simp only [] at hres
     obtain ⟨hb, rfl, rfl⟩ := zAw hres
     simp only [bA, decide_eq_true_eq] at hb
     rw [hlook on hro]
     have := does_row (P := E.P) (tm := E.tm) (F := F) (o := o) (s := s) (on := on) (fr := true) (e := e) (t := t) (zs := List.replicate n.toNat t.dflt) (hmem on _ (List.mem_singleton_self _)) fun μ a' w h => by
      have hy := arg_rep h h1
      have hz2 := arg_rep h h2
      rw [<- sameArg_eval hsame s] at hz2
      rw [hae] at hy hz2
      have hy : a'.eval y = .int k n := hy
      have hz2 : a'.eval z = .int k n := hz2
      obtain ⟨v', w', m', g1, g2⟩ := make_new (P := E.P) (C := s.cx μ w F) (tm := E.tm) (kl := k) (kc := k) hT hi hz hsz hzs hby hdf hb.1 hb.2 (fun _ => False)
      exact ⟨v', w', m', _, by simp only [execOp, hop, hy, hz2]; exact run_v g1, g2, fun b h => h.elim⟩
     rw [hdst] at this
     rw [eff_one (hmem on _ (List.mem_singleton_self _)) hHP]
     exact this
    | _ => rw [hae] at hres; cases hres
   | _ => rw [hae] at hres; cases hres
  case buildSlice im on e t m parts zero =>
   rw [bA] at hk
   obtain ⟨hro, hk⟩ := hk
   split at hk <;> try (cases hk; done)
   rename_i T len ps hop
   simp only [bA] at hk
   obtain ⟨hlen, hargs, hparts, hp1, hp2, hp3, hk⟩ := hk
   have hlen := eB hlen
   subst hlen
   split at hk <;> try (cases hk; done)
   rename_i eT hT
   simp only [bA] at hk
   obtain ⟨heT, hel, hzero⟩ := hk
   have heT : eT = E.tm e := by simpa using heT
   subst heT
   obtain ⟨i, zz, hi, hz, hsz, hzs, hby⟩ := elemOk_spec hel
   simp only [zeroOf, hi, hz] at hzero
   simp only [XK.eval, Kb.E.buildSlice] at hres
   split at hres <;> try (cases hres; done)
   rename_i cs hfill
   split at hres <;> try (cases hres; done)
   rename_i f xs helems
   have core : ∀ (μ : Nat -> Option (Nat × Nat)) (a : Act) (w : World), RepM E.tm F μ s a w -> ∃ v' w' m', (execOp a.eval o).run E.P w = .ok (.value v') w' /\ zCF E.tm (s.cx μ w F) f e t xs (fun _ => False) v' w' m' := by
    intro μ a w h
    obtain ⟨v', w', m', g1, g2⟩ := build_new (P := E.P) (C := s.cx μ w F) (tm := E.tm) (ρ := a.eval) hT hi hz hsz hzs hzero (Nat.le_of_ble_eq_true hp1) (Nat.le_of_ble_eq_true hp2) (by have := Nat.le_of_ble_eq_true hp3; unfold maxLen; omega) hparts (args_rep h hargs) hfill helems (fun _ => False)
    exact ⟨v', w', m', by simp only [execOp, hop]; exact run_v g1, g2⟩
   split at hres
   ·obtain ⟨_, rfl, rfl⟩ := zAw hres
    rw [hlook on (by simpa using hro)]
    have := does_row (P := E.P) (tm := E.tm) (F := F) (o := o) (s := s) (on := on) (fr := f) (e := e) (t := t) (zs := xs) (hmem on _ (List.mem_singleton_self _)) fun μ a w h => by
     obtain ⟨v', w', m', g1, g2⟩ := core μ a w h
     exact ⟨v', w', m', _, g1, g2, fun b h => h.elim⟩
    rw [hdst] at this
    rw [eff_one (hmem on _ (List.mem_singleton_self _)) hHP]
    exact this
   ·obtain ⟨_, rfl, rfl⟩ := zAw hres
    have := does_im (P := E.P) (tm := E.tm) (F := F) (o := o) (s := s) (fr := f) (e := e) (t := t) (zs := xs) core
    rw [hdst] at this
    exact this
  case build zero parts =>
   split at hk <;> try (cases hk; done)
   rename_i T ps hop
   rw [bA] at hk
   obtain ⟨hargs, hk⟩ := hk
   split at hk <;> try (cases hk; done)
   rename_i fs it hT hi
   split at hk <;> try (cases hk; done)
   rename_i z places hz hpl
   rw [bA] at hk
   simp only [XK.eval, Kb.E.build] at hres
   split at hres <;> try (cases hres; done)
   rename_i cs hfill
   split at hres <;> try (cases hres; done)
   obtain ⟨_, rfl, rfl⟩ := zAw hres
   have := does_quiet (E := E) (F := F) (o := o) (s := s) (v := .agg cs) fun μ a w h => by
    obtain ⟨y, g1, g2⟩ := run_build_rep (P := E.P) (C := s.cx μ w F) (ρ := a.eval) hT hi hz hpl hk.1 hk.2 (args_rep h hargs) hfill
    exact ⟨y, by simp only [execOp, hop]; exact run_v g1, g2⟩
   simp only [S.eff, S.ups]
   rw [<- hdst]
   exact this
  case store n =>
   split at hk <;> try (cases hk; done)
   rename_i T y z a b hop hargs
   simp only [bA] at hk
   obtain ⟨h1, h2, hsz⟩ := hk
   rw [hargs] at hres
   simp only [XK.eval, Kb.E.store, zCG] at hres
   have hsees := sees_look x s
   split at hres
   ·rename_i o st off v' heq
    injection heq with e1 e2
    injection e2 with e2 _
    subst e2
    split at hres <;> try (cases hres; done)
    rename_i st' hm cs hl
    split at hres <;> try (cases hres; done)
    rename_i hc
    simp only [bA] at hc
    obtain ⟨c1, c2, c3, c4, c5⟩ := hc
    obtain ⟨_, rfl, rfl⟩ := zAw hres
    have hob := hsees.row hl trivial
    have c1 := eB c1
    subst c1
    have := does_store_box (P := E.P) (tm := E.tm) (F := F) hop hsz h1 h2 e1 hob (eB c2) (by simpa using c3) c4 (Nat.le_of_ble_eq_true c5) (hmem o _ (List.mem_singleton_self _))
    rw [hdst] at this
    rw [eff_one (hmem o _ (List.mem_singleton_self _)) hHP]
    exact this
   ·rename_i o st i off v' heq
    injection heq with e1 e2
    injection e2 with e2 _
    subst e2
    split at hres <;> try (cases hres; done)
    rename_i st' hm fr e t xs hl
    split at hres <;> try (cases hres; done)
    rename_i hc
    simp only [bA] at hc
    obtain ⟨c1, c2, c3, c4, c5⟩ := hc
    split at hres <;> try (cases hres; done)
    rename_i f z' hof
    obtain ⟨_, rfl, rfl⟩ := zAw hres
    have hob := hsees.row hl trivial
    have c1 := eB c1
    subst c1
    have := does_store_row (P := E.P) (tm := E.tm) (F := F) hop hsz h1 h2 e1 hob (eB c2) (by simpa using c3) hof c4 (Nat.le_of_ble_eq_true c5) (hmem o _ (List.mem_singleton_self _))
    rw [hdst] at this
    rw [eff_one (hmem o _ (List.mem_singleton_self _)) hHP]
    exact this
   ·cases hres
end
end Go.Kb
