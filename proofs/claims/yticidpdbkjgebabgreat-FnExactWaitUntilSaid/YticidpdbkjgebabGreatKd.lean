/- A function of the library by its contract; the entry from a row that lists variables. -/
import Derived.Test.YticidpdbkjgebabGreatKc
import Derived.Lib.SplitLaws
import Derived.Handed
import Derived.ProofKit
import Derived.Sort.Grow
/- A function of the library's: strings.Split, by its contract. -/
namespace Go.Kb
def splitL (s sep : List UInt8) : List (List UInt8) := (Lib.splitB ⟨sep.toArray⟩ 0 (Lib.countB ⟨s.toArray⟩ ⟨sep.toArray⟩) ⟨s.toArray⟩).map fun b => b.data.toList
def ext_strings_Split.sig : Sig := ⟨[.val false 1, .val false 1], [none, none], [.val false 1], [.imm], false⟩
def ext_strings_Split.F (_ : Nat) (x : List UInt8 × List UInt8) : Option (List (List UInt8)) := bif Nat.blt x.1.length 4294967281 && Nat.ble 1 x.2.length then some (splitL x.1 x.2) else none
def ext_strings_Split.fs (N : Nat) : FS := { arg := .pair .str .str, ret := .list .str, fresh := true, F := ext_strings_Split.F N }
end Go.Kb
/- The entry from a row that lists variables: the world's shape is kept beside the laid ones. -/
namespace Go.Kb
variable {H : Type} {enc : TypeId × Value -> H}
end Go.Kb
/- A function of the library's: sort.Ints, by its contract. -/
namespace Go.Kb
def sortI (x : List Int) : List Int := x.mergeSort fun a b => decide (a <= b)
theorem sortI_len (x : List Int) : (sortI x).length = x.length := List.length_mergeSort _
theorem sortI_nil : sortI [] = [] := by simp [sortI]
def ext_sort_Ints.sig : Sig := ⟨[.val false 1], [some (0, 2)], [], [.back 0], false⟩
def ext_sort_Ints.F (_ : Nat) (x : List Int) : Option (List Int) := bif Nat.blt x.length 4611686018427387904 then some (sortI x) else none
def ext_sort_Ints.fs (N : Nat) : FS := { arg := .list (.int .i64), ret := .list (.int .i64), fresh := true, F := ext_sort_Ints.F N }
theorem put_heap (w : World) (n b base : Nat) (d : Array Int) (os : Array Go.Obj) (c : Array Value) (T : TypeId) (h : w.heap[b]? = some (.cells c T (0, 0))) :
  (Sort.grow (Sort.putRow (Value.int .i64) (Sort.ahead w n) b base d) os).heap[b]? = some (.cells (Sort.putCells (Value.int .i64) base d c) T (0, 0)) := by
 have hb : b < w.heap.size := (Array.getElem?_eq_some_iff.1 h).1
 rw [Sort.heap_grow_old _ _ (by simpa using hb)]
 show (w.heap.modify b (Sort.onCells (Sort.putCells (Value.int .i64) base d)))[b]? = _
 rw [Array.getElem?_modify, if_pos rfl, h]
 rfl
theorem put_other (w : World) (n b base : Nat) (d : Array Int) (os : Array Go.Obj) (b' : Nat) (hb' : b' < w.heap.size) (hne : b' ≠ b) :
  (Sort.grow (Sort.putRow (Value.int .i64) (Sort.ahead w n) b base d) os).heap[b']? = w.heap[b']? := by
 rw [Sort.heap_grow_old _ _ (by simpa using hb')]
 show (w.heap.modify b (Sort.onCells (Sort.putCells (Value.int .i64) base d)))[b']? = _
 rw [Array.getElem?_modify, if_neg (Ne.symm hne)]
theorem put_stp (M : Nat -> Prop) (w : World) (n b base : Nat) (d : Array Int) (os : Array Go.Obj) (hM : M b) (c : Array Value) (T : TypeId) (h : w.heap[b]? = some (.cells c T (0, 0))) :
  Stp M w (Sort.grow (Sort.putRow (Value.int .i64) (Sort.ahead w n) b base d) os) := by
 refine ⟨rfl, rfl, rfl, by simp, fun b' h1 h2 => put_other w n b base d os b' h1 (fun e => h2 (by rw [e]; exact hM)), fun b' cur T' h1 => ?_⟩
 by_cases e : b' = b
 ·subst e
  rw [h] at h1
  injection h1 with h1
  injection h1 with h1 h2
  subst h1; subst h2
  exact ⟨_, put_heap w n b' base d os c T h, by simp [Sort.putCells]⟩
 ·exact ⟨cur, by rw [put_other w n b base d os b' (Array.getElem?_eq_some_iff.1 h1).1 e]; exact h1, rfl⟩
theorem one_at {c : Array Value} {k : Nat} {v : Value} : (c.toList.drop k).take 1 = [v] ↔ c[k]? = some v := by
 constructor
 ·intro h
  have h1 : ((c.toList.drop k).take 1)[0]? = some v := by rw [h]; rfl
  simpa using h1
 ·intro h
  obtain ⟨hk, hv⟩ := Array.getElem?_eq_some_iff.1 h
  have : c.toList.drop k = v :: c.toList.drop (k + 1) := by
   rw [List.drop_eq_getElem_cons (by simpa using hk)]
   simp [hv]
  rw [this]; rfl
theorem sort_sound {P : Program} {tm : Nat -> TypeId} {G : Nat -> Prop} {Q : World -> Prop} {fid : FuncId}
  (hc : ∀ (blk off cap : Nat) (zs : List Int) (w : World), Sort.Holds (Value.int .i64) w blk off zs.toArray -> blk < w.heap.size -> zs.length < 4611686018427387904 ->
   Calls P fid #[.slice (some ⟨blk, off, none⟩) zs.length cap] w fun e w' =>
    e = .returned (.tuple #[]) /\ ∃ n os, w' = Sort.grow (Sort.putRow (Value.int .i64) (Sort.ahead w n) blk off (zs.mergeSort fun x y => decide (x <= y)).toArray) os)
  (h0 : ∀ (p : Option Addr) (cap : Nat) (w : World), Calls P fid #[.slice p 0 cap] w fun e w' => e = .returned (.tuple #[]) /\ w' = w) (N : Nat) :
  Sound P tm G Q fid ext_sort_Ints.sig (ext_sort_Ints.fs N) := by
 refine ⟨⟨rfl, rfl⟩, ?_⟩
 intro w B X home shape args raw D (x : List Int) (r : List Int) D' hG hQ hBw hB1 hB2 hX hin hlt hD hpars hrows hF0
 obtain rfl : D = [] := hD.1 rfl
 have hF1 : ext_sort_Ints.F N x = some r /\ D' = [] := hF0
 clear hF0
 obtain ⟨hF, hD'⟩ := hF1
 subst hD'
 have fin : ∀ w', Stp (ext_sort_Ints.sig.inBlocks home) w w' ->
   (shape 0 = some (2, .int .i64, r.length) /\ ∀ M δ, RowAt tm w' M δ B (home 0) true 2 (.int .i64) r) ->
   OutPost tm ext_sort_Ints.sig (ext_sort_Ints.fs N) w B X home shape [] r [] (.tuple #[]) w' := by
  intro w' hst ⟨hsh, hrow⟩
  refine ⟨hst.mono (fun _ _ h => Or.inl h), [], [], [], [], [], home, rfl, ⟨rfl, rfl⟩, rfl, ⟨(fun h => Bool.noConfusion (show false = true from h)), fun _ _ => rfl, by intro k e t xs h; simp at h⟩, ?_, ?_, ?_⟩
  ·exact ⟨⟨2, hsh, hrow _ _⟩, rfl⟩
  ·show List.Pairwise Apart [home 0]
   exact List.pairwise_singleton _ _
  ·intro b base hb
   have hb : some (b, base) ∈ [home 0] := hb
   have hb := (List.mem_singleton.1 hb).symm
   have hl := hlt 0 b base (by show 0 ∈ [0]; simp) hb
   exact ⟨Or.inr (Or.inl ⟨0, base, by show 0 ∈ [0]; simp, hb⟩), Nat.lt_of_lt_of_le hl hst.size⟩
 match args, hpars with
 | [v], hp =>
  obtain ⟨rest, _, rfl, hr⟩ := hp
  have hr : rest = [] := hr
  subst hr
  obtain ⟨⟨hrep, hrow, hsh⟩, _⟩ := hrows
  unfold ext_sort_Ints.F at hF
  cases hcnd : Nat.blt (x.length) 4611686018427387904 with
  | false => rw [hcnd] at hF; cases hF
  | true =>
   rw [hcnd, cond_true] at hF
   injection hF with hF
   subst hF
   have hlt' : x.length < 4611686018427387904 := Nat.le_of_ble_eq_true hcnd
   by_cases hx : x = ([] : List Int)
   ·subst hx
    have hv : ∃ p cap, v = .slice p 0 cap := by
     rcases hrep with ⟨_, _, h⟩ | ⟨b, base, a, cap, cur, T, _, h, _⟩
     ·exact ⟨_, _, h⟩
     ·exact ⟨_, _, h⟩
    obtain ⟨p, cap, rfl⟩ := hv
    refine (h0 p cap w).mono ?_
    rintro e w' ⟨rfl, rfl⟩
    refine ⟨_, rfl, fin _ (Stp.refl _ _) ⟨(by rw [sortI_len]; exact hsh), fun M δ => ?_⟩⟩
    rcases hrow with ⟨h1, h2⟩ | ⟨b, base, cur, h1, h2, h3, h4⟩
    ·exact Or.inl ⟨h1, sortI_nil⟩
    ·exact Or.inr ⟨b, base, cur, h1, h2, (by rw [sortI_len]; exact h3), fun i y hy => by rw [sortI_nil] at hy; cases hy⟩
   ·have hpos : 0 < x.length := List.length_pos_iff.2 hx
    rcases hrep with ⟨_, h, _⟩ | ⟨b, base, a, cap, cur, T, hm, rfl, hlc, _, hab, hasp, haoff, hheap, _⟩
    ·have h : x.length = 0 := h
     omega
    ·rcases hrow with ⟨_, h⟩ | ⟨b', base', cur', hm', hheap', hsz', hel⟩
     ·exact absurd h hx
     ·rw [hm] at hm'
      injection hm' with hm'
      injection hm' with e1 e2
      subst e1; subst e2
      have hblt : b < w.heap.size := hlt 0 b base (by show 0 ∈ [0]; simp) hm
      have hoff : a.off = base := by
       have hlc : x.length <= cap := hlc
       have := haoff (by omega)
       simpa using this
      have ha : a = ⟨b, base, none⟩ := by
       obtain ⟨a1, a2, a3⟩ := a
       simp only at hab hasp hoff
       subst hab; subst hasp; subst hoff; rfl
      have hget : ∀ (i : Nat) (y : Int), x[i]? = some y -> cur'[base + i]? = some (.int .i64 y) := by
       intro i y hy
       have := hel i y hy
       have h1 : (cur'.toList.drop (base + i)).take 1 = [.int .i64 y] := by simpa [yk, Ty.sz] using this
       exact one_at.1 h1
      have hH : Sort.Holds (Value.int .i64) w b base (x.toArray) := by
       intro j hj
       have hj : j < x.length := by simpa using hj
       have hg := hget j (x[j]) (List.getElem?_eq_getElem hj)
       constructor
       ·have e : (x.toArray)[j]! = x[j] := by
         rw [getElem!_pos (x.toArray) j (by simpa using hj)]
         simp
        rw [e]
        simp only [World.cell?, hheap']
        simpa using hg
       ·simp [World.frozen?, hheap']
      subst ha
      refine (hc b base cap x w hH hblt hlt').mono ?_
      rintro e w' ⟨rfl, n, os, rfl⟩
      have hsl := sortI_len x
      refine ⟨_, rfl, fin _ (put_stp _ w n b base _ os ⟨0, base, by show 0 ∈ [0]; simp, hm⟩ cur' _ hheap') ⟨by rw [hsl]; exact hsh, fun M δ => Or.inr ⟨b, base, _, hm, put_heap w n b base _ os cur' _ hheap', ?_, ?_⟩⟩⟩
      ·simp only [Sort.putCells, Array.size_mapIdx]
       rw [hsl]
       exact hsz'
      ·intro i y hy
       have hy : (sortI x)[i]? = some y := hy
       have hi : i < (sortI x).length := (List.getElem?_eq_some_iff.1 hy).1
       have hi' : i < x.length := by rw [hsl] at hi; exact hi
       have hg := hget i (x[i]) (List.getElem?_eq_getElem hi')
       show ((Sort.putCells (Value.int .i64) base (sortI x).toArray cur').toList.drop (base + i * 1)).take 1 = [.int .i64 y]
       rw [Nat.mul_one]
       refine one_at.2 ?_
       simp only [Sort.putCells, Array.getElem?_mapIdx, hg, Option.map_some]
       rw [if_pos ⟨by omega, by simp; omega⟩, show base + i - base = i by omega, getElem!_pos (sortI x).toArray i (by simpa using hi)]
       obtain ⟨_, h2⟩ := List.getElem?_eq_some_iff.1 hy
       simp [h2]
 | [], hp => exact hp.elim
 | _ :: _ :: _, hp => obtain ⟨_, _, _, h⟩ := hp; exact h.elim
end Go.Kb
