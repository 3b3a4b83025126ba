/- A function of the library by its contract; the entry from a row that lists variables. -/
import Derived.Test.YtggbkpkapkcoeaaDoorKc
import Derived.Lib.SplitLaws
import Derived.Handed
import Derived.ProofKit
import Derived.Sort.Grow
/- A function of the library's: strings.Split, by its contract. -/
namespace Go.Kb

def splitL (s sep : List UInt8) : List (List UInt8) := (Lib.splitB ⟨sep.toArray⟩ 0 (Lib.countB ⟨s.toArray⟩ ⟨sep.toArray⟩) ⟨s.toArray⟩).map fun b => b.data.toList

def ext_strings_Split.sig : Sig := ⟨[.val false 1, .val false 1], [none, none], [.val false 1], [.imm]⟩
def ext_strings_Split.F (_ : Nat) (x : List UInt8 × List UInt8) : Option (List (List UInt8)) := bif Nat.blt x.1.length 4294967281 && Nat.ble 1 x.2.length then some (splitL x.1 x.2) else none
def ext_strings_Split.fs (N : Nat) : FS := { arg := .pair .str .str, ret := .list .str, fresh := true, F := ext_strings_Split.F N }

theorem bytes_eta (b : ByteArray) : (⟨b.data.toList.toArray⟩ : ByteArray) = b := by
  cases b; simp

theorem split_sound {P : Program} {tm : Nat → TypeId} {G : Nat → Prop} {Q : World → Prop} {fid : FuncId} {T : TypeId}
    (hc : ∀ (s sep : ByteArray) (w : World), Q w → s.size < 4294967281 → 1 ≤ sep.size → Calls P fid #[.string s, .string sep] w fun e w' => e = .returned (.slice (some ⟨w.heap.size, 0, none⟩) (Lib.countB s sep + 1) (Lib.countB s sep + 1)) ∧
      w' = w.alloc (.cells ((Lib.splitB sep 0 (Lib.countB s sep) s).map Value.string).toArray T)) (N : Nat) : Sound P tm G Q fid ext_strings_Split.sig (ext_strings_Split.fs N) := by
  intro w B X home shape args raw x r hG hQ hBw hB1 hB2 hX hin hlt hpars hrows hF
  obtain ⟨s, sep⟩ := x
  match args, hpars with
  | [v1, v2], hp =>
    obtain ⟨rest, _, rfl, rest2, _, rfl, hr⟩ := hp
    have hr : rest2 = [] := hr
    subst hr
    obtain ⟨⟨b1, hb1, hs1⟩, ⟨b2, hb2, hs2⟩, _⟩ := hrows
    subst hb1; subst hb2; subst hs1; subst hs2
    have hF : ext_strings_Split.F N (b1.data.toList, b2.data.toList) = some r := hF
    unfold ext_strings_Split.F at hF
    cases hcnd : Nat.blt b1.data.toList.length 4294967281 && Nat.ble 1 b2.data.toList.length with
    | false => rw [hcnd] at hF; cases hF
    | true =>
      rw [hcnd, cond_true] at hF
      injection hF with hF
      subst hF
      simp only [Bool.and_eq_true] at hcnd
      have h1 : b1.size < 4294967281 := by
        have := Nat.le_of_ble_eq_true hcnd.1
        rw [Array.length_toList] at this
        exact this
      have h2 : 1 ≤ b2.size := by
        have := Nat.le_of_ble_eq_true hcnd.2
        rw [Array.length_toList] at this
        exact this
      refine (hc b1 b2 w hQ h1 h2).mono ?_
      rintro e w' ⟨rfl, rfl⟩
      have hlen := Lib.splitB_all b2 h2 0 _ b1 rfl
      have hsp : splitL b1.data.toList b2.data.toList = (Lib.splitB b2 0 (Lib.countB b1 b2) b1).map fun b => b.data.toList := by
        unfold splitL; rw [bytes_eta, bytes_eta]
      generalize hL : Lib.splitB b2 0 (Lib.countB b1 b2) b1 = L at *
      refine ⟨_, rfl, ⟨alloc_stp w _ T |>.mono (fun _ _ h => h.elim), ?_⟩⟩
      refine ⟨[.slice (some ⟨w.heap.size, 0, none⟩) (Lib.countB b1 b2 + 1) (Lib.countB b1 b2 + 1)], [.slice (some ⟨w.heap.size, 0, none⟩) (Lib.countB b1 b2 + 1) (Lib.countB b1 b2 + 1)], [], [], [], rfl, ⟨[], rfl, rfl, rfl, rfl⟩, rfl, ?_, List.Pairwise.nil, by intro b base h; cases h⟩
      refine ⟨?_, rfl⟩
      simp only [FlatRep, ext_strings_Split.fs, Bool.or_false, if_true]
      rw [hsp]
      refine ⟨some ⟨w.heap.size, 0, none⟩, Lib.countB b1 b2 + 1, by rw [List.length_map, hlen], by rw [List.length_map, hlen]; exact Nat.le_refl _, ?_, ?_⟩
      · right
        refine ⟨_, rfl, by simpa using hBw, ?_, ?_⟩
        · simp
        · rintro (hb | ⟨base, hb⟩)
          · have := (hX _ hb).1; simp at this
          · cases hb
      · intro i y hy
        refine ⟨_, [.string (L.getD i ByteArray.empty)], rfl, rfl, ?_, ?_⟩
        · intro j u hu
          cases j with
          | zero =>
            simp at hu; subst hu
            rw [List.getElem?_map] at hy
            cases hLi : L[i]? with
            | none => rw [hLi] at hy; cases hy
            | some z =>
              have hblk : (w.alloc (.cells (L.map Value.string).toArray T)).heap[w.heap.size]? = some (.cells (L.map Value.string).toArray T (0, 0)) := heap_alloc_new w _
              rw [addr_add rfl, cell_lit _ _ _ _ _ _ hblk]
              simp [Ty.sz, hLi]
          | succ j => simp at hu
        · rw [List.getElem?_map] at hy
          cases hLi : L[i]? with
          | none => rw [hLi] at hy; cases hy
          | some z =>
            rw [hLi] at hy
            injection hy with hy
            rw [List.getD_eq_getElem?_getD, hLi]
            exact ⟨z, rfl, hy⟩
  | [], hp => exact hp.elim
  | [_], hp => obtain ⟨_, _, _, h⟩ := hp; exact h.elim
  | _ :: _ :: _ :: _, hp => obtain ⟨_, _, _, _, _, _, h⟩ := hp; exact h.elim
end Go.Kb

/- The entry from a row that lists variables: the world's shape is kept beside the laid ones. -/
namespace Go.Kb
variable {H : Type} {enc : TypeId × Value → H}

theorem returns_laid_shaped {a : Assume} {C : Checked} {os : Os} {f : FuncId} {fn : Func} {s : ChangeSpec} {conds : List PathCond} {apart fresh handsOn again : Bool} {X : World → Array Value → Prop}
    (own : ownKnob C.prog.godebug = none) (started : os.Started) (noInit : C.prog.inits.idxOf? f = none) (hfn : C.prog.funcs[f]? = some fn)
    (witness : ∃ (w : World) (tape : Tape) (i : Input), w.os = os ∧ (w.forCall tape i).Shaped C.prog ∧ i.vars = [] ∧ Input.okWide C.prog (w.forCall tape i) .any w.heap.size f i ∧
      ((s.pre enc C.prog fn conds apart (w.forCall tape i).memory i.args ∧ X (w.forCall tape i).memory i.args) ∧ sizedMet enc C.prog fn (OpenSpec.ofChange s) apart (w.forCall tape i).memory i.args) ∧ a.holds C.prog (lone (Frame.enter C.prog f i.args .normal) [] (w.forCall tape i)))
    (contract : ∀ (W : World) (base : Nat) (args : Array Value) (ds gs : List (DataW H)) (before : List MemPlace),
      (∀ (j : Nat) t v, fn.params[j]? = some t → args[j]? = some v → Value.okWide C.prog W .any base t v) →
      DataW.Whole enc C.prog fn.params.toList s.vars apart W args.toList ds gs before → W.ShapedOpen C.prog →
      Calls C.prog f args W fun e W' => ∃ v, e = .returned v ∧ s.post enc C.prog fn apart fresh handsOn again W args v W') :
    ReturnsInHanded a C os f .any (fun w args => (s.pre enc C.prog fn conds apart w args ∧ X w args) ∧ sizedMet enc C.prog fn (OpenSpec.ofChange s) apart w args) (s.post enc C.prog fn apart fresh handsOn again) := by
  refine returnsInHanded_of_calls own started noInit witness ?_
  intro w tape i _ hsh _ hok hpre _
  obtain ⟨_, _, _, fn', hfn', _, _, _, _, hval⟩ := hok
  have e : fn' = fn := Option.some.inj (hfn'.symm.trans hfn)
  subst e
  obtain ⟨⟨⟨ds, gs, before, hw, _⟩, _⟩, _⟩ := hpre
  have hw' := DataW.Whole.of_heap (w' := w.forCall tape i) (by rfl) hw
  refine (contract (w.forCall tape i) w.heap.size i.args ds gs before hval hw' hsh).mono fun e W' ⟨v, he, hp⟩ => ?_
  subst he
  exact ChangeSpec.post_blind hp

theorem size_of_cell {w : World} {b : Nat} {v : Value} (h : w.cell? ⟨b, 0, none⟩ = some v) : b < w.heap.size := by
  by_cases hb : b < w.heap.size
  · exact hb
  · have : w.heap[b]? = none := by simp; omega
    simp [World.cell?, this] at h
end Go.Kb

/- A function of the library's: sort.Ints, by its contract, at rows of at most one number. -/
namespace Go.Kb

def ext_sort_Ints.sig : Sig := ⟨[.val false 1], [some (0, 2)], [], [.back 0]⟩
def ext_sort_Ints.F (_ : Nat) (x : List Int) : Option (List Int) := bif Nat.ble x.length 1 then some x else none
def ext_sort_Ints.fs (N : Nat) : FS := { arg := .list (.int .i64), ret := .list (.int .i64), fresh := true, F := ext_sort_Ints.F N }

theorem grow_stp (M : Nat → Prop) (w : World) (n : Nat) (os : Array Go.Obj) : Stp M w (Sort.grow (Sort.ahead w n) os) := by
  have hb : ∀ b, b < w.heap.size → (Sort.grow (Sort.ahead w n) os).heap[b]? = w.heap[b]? := by
    intro b h
    show (w.heap ++ os)[b]? = _
    rw [Array.getElem?_append_left h]
  refine ⟨rfl, rfl, rfl, ?_, fun b h _ => hb b h, fun b cur T h => ⟨cur, ?_, rfl⟩⟩
  · show w.heap.size ≤ (w.heap ++ os).size
    rw [Array.size_append]; omega
  · have hl : b < w.heap.size := by
      by_cases hl : b < w.heap.size
      · exact hl
      · have : w.heap[b]? = none := by simp; omega
        rw [this] at h; cases h
    rw [hb b hl]; exact h

theorem sort_sound {P : Program} {tm : Nat → TypeId} {G : Nat → Prop} {Q : World → Prop} {fid : FuncId}
    (hc : ∀ (blk off cap : Nat) (zs : List Int) (w : World), Sort.Holds (Value.int .i64) w blk off zs.toArray → blk < w.heap.size → zs.length < 4611686018427387904 →
      Calls P fid #[.slice (some ⟨blk, off, none⟩) zs.length cap] w fun e w' =>
        e = .returned (.tuple #[]) ∧ ∃ n os, w' = Sort.grow (Sort.putRow (Value.int .i64) (Sort.ahead w n) blk off (zs.mergeSort fun x y => decide (x ≤ y)).toArray) os)
    (h0 : ∀ (p : Option Addr) (cap : Nat) (w : World), Calls P fid #[.slice p 0 cap] w fun e w' => e = .returned (.tuple #[]) ∧ w' = w) (N : Nat) :
    Sound P tm G Q fid ext_sort_Ints.sig (ext_sort_Ints.fs N) := by
  intro w B X home shape args raw x r hG hQ hBw hB1 hB2 hX hin hlt hpars hrows hF
  have fin : ∀ w', Stp (ext_sort_Ints.sig.inBlocks home) w w' → (∀ b, b < w.heap.size → w'.heap[b]? = w.heap[b]?) → w.heap.size ≤ w'.heap.size →
      (shape 0 = some (2, .int .i64, List.length (α := Int) x) ∧ RowAt tm w (fun b => X b ∨ ext_sort_Ints.sig.inBlocks home b) B (home 0) false 2 (.int .i64) x) →
      OutPost tm ext_sort_Ints.sig (ext_sort_Ints.fs N) w B X home shape x (.tuple #[]) w' := by
    intro w' hst hbl hsz ⟨hsh, hrow⟩
    refine ⟨hst, [], [], [], [], [], rfl, ⟨rfl, rfl⟩, rfl, ?_, ?_, ?_⟩
    · refine ⟨⟨2, hsh, ?_⟩, rfl⟩
      rcases hrow with ⟨h1, h2⟩ | ⟨b, base, cur, h1, h2, h3, h4⟩
      · exact Or.inl ⟨h1, h2⟩
      · refine Or.inr ⟨b, base, cur, h1, ?_, h3, ?_⟩
        · rw [hbl b (hlt 0 b base (by show 0 ∈ [0]; simp) h1)]; exact h2
        · intro i y hy
          exact h4 i y hy
    · show List.Pairwise Apart [home 0]
      exact List.pairwise_singleton _ _
    · intro b base hb
      have hb : some (b, base) ∈ [home 0] := hb
      have hb := (List.mem_singleton.1 hb).symm
      have hl := hlt 0 b base (by show 0 ∈ [0]; simp) hb
      exact ⟨Or.inr ⟨0, base, by show 0 ∈ [0]; simp, hb⟩, by omega⟩
  match args, hpars with
  | [v], hp =>
    obtain ⟨rest, _, rfl, hr⟩ := hp
    have hr : rest = [] := hr
    subst hr
    obtain ⟨⟨hrep, hrow, hsh⟩, _⟩ := hrows
    have hF : ext_sort_Ints.F N x = some r := hF
    unfold ext_sort_Ints.F at hF
    cases hcnd : Nat.ble (List.length (α := Int) x) 1 with
    | false => rw [hcnd] at hF; cases hF
    | true =>
      rw [hcnd, cond_true] at hF
      injection hF with hF
      subst hF
      have hle : List.length (α := Int) x ≤ 1 := Nat.le_of_ble_eq_true hcnd
      have x' : List Int := x
      cases hx : (show List Int from x) with
      | nil =>
        have hx : x = [] := hx
        subst hx
        have hv : ∃ p cap, v = .slice p 0 cap := by
          rcases hrep with ⟨_, _, h⟩ | ⟨b, base, a, cap, cur, T, _, h, _⟩
          · exact ⟨_, _, h⟩
          · exact ⟨_, _, h⟩
        obtain ⟨p, cap, rfl⟩ := hv
        refine (h0 p cap w).mono ?_
        rintro e w' ⟨rfl, rfl⟩
        exact ⟨_, rfl, fin w' (Stp.refl _ _) (fun _ _ => rfl) (Nat.le_refl _) ⟨hsh, hrow⟩⟩
      | cons z zs =>
        have hx : x = z :: zs := hx
        subst hx
        have hz : zs = [] := by
          simp at hle; exact hle
        subst hz
        rcases hrep with ⟨_, h, _⟩ | ⟨b, base, a, cap, cur, T, hm, rfl, hlc, _, hab, hasp, haoff, hheap, _⟩
        · cases h
        · rcases hrow with ⟨_, h⟩ | ⟨b', base', cur', hm', hheap', hsz', hel⟩
          · cases h
          · rw [hm] at hm'
            injection hm' with hm'
            injection hm' with e1 e2
            subst e1; subst e2
            have hrow : RowAt tm w (fun b => X b ∨ ext_sort_Ints.sig.inBlocks home b) B (home 0) false 2 (.int .i64) [z] := Or.inr ⟨b, base, cur', hm, hheap', hsz', hel⟩
            have hblt : b < w.heap.size := hlt 0 b base (by show 0 ∈ [0]; simp) hm
            have hoff : a.off = base := by
              have hlc : 1 ≤ cap := hlc
              have := haoff (by omega)
              simpa using this
            have ha : a = ⟨b, base, none⟩ := by
              obtain ⟨a1, a2, a3⟩ := a
              simp only at hab hasp hoff
              subst hab; subst hasp; subst hoff; rfl
            have hcell := hel 0 z rfl
            have hcell : (cur'.toList.drop base).take 1 = [.int .i64 z] := by simpa [RepDen, Ty.sz] using hcell
            have hget : cur'[base]? = some (.int .i64 z) := by
              have h1 : ((cur'.toList.drop base).take 1)[0]? = some (.int .i64 z) := by rw [hcell]; rfl
              simpa using h1
            have hH : ∀ n, Sort.Holds (Value.int .i64) (Sort.ahead w n) b base [z].toArray := by
              intro n j hj
              have hj : j = 0 := by simp at hj; exact hj
              subst hj
              constructor
              · show w.cell? ⟨b, base + 0, none⟩ = some (.int .i64 z)
                simp [World.cell?, hheap', hget]
              · show w.frozen? ⟨b, base + 0, none⟩ = false
                simp [World.frozen?, hheap']
            subst ha
            refine (hc b base cap [z] w (hH 0) hblt (by simp)).mono ?_
            rintro e w' ⟨rfl, n, os, rfl⟩
            have hms : ([z].mergeSort fun x y => decide (x ≤ y)) = [z] := by simp [List.mergeSort]
            rw [hms, Sort.putRow_self _ _ _ _ _ (hH n)]
            have hst := grow_stp (ext_sort_Ints.sig.inBlocks home) w n os
            refine ⟨_, rfl, fin _ hst ?_ hst.size ⟨hsh, hrow⟩⟩
            intro b' hb'
            show (w.heap ++ os)[b']? = _
            rw [Array.getElem?_append_left hb']
  | [], hp => exact hp.elim
  | _ :: _ :: _, hp => obtain ⟨_, _, _, h⟩ := hp; exact h.elim
end Go.Kb

