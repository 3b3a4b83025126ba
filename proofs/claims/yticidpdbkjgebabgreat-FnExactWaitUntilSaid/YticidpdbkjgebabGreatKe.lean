/- The abstract machine: operations of the heap of rows, steps, code. -/
import Derived.Test.YticidpdbkjgebabGreatKb
import Derived.Deep.LoopGhost
/- Ghost steps keep what states stand for. -/
namespace Go.Kb
section
variable {tm : Nat -> TypeId} {F : Fx} {μ μ' : Nat -> Option (Nat × Nat)} {s s' : S} {a : Act} {w : World}
theorem RepM.change (h : RepM tm F μ s a w) (ht : s'.t.length = s.t.length)
  (hM : ∀ o b base, yv (s'.obj o) -> μ' o = some (b, base) -> ∃ o0, yv (s.obj o0) /\ μ o0 = some (b, base) /\ (zBh (s.obj o0) -> zBh (s'.obj o)))
  (hinj : ∀ o o' b base base', yv (s'.obj o) -> yv (s'.obj o') -> μ' o = some (b, base) -> μ' o' = some (b, base') -> o = o')
  (hslots : ∀ (i : Nat) (v : V) (x : Value), s'.t[i]? = some v -> a.tmps[i]? = some x -> RepV (s'.cx μ' w F) v x)
  (hobjs : ∀ o, zBU tm (s'.cx μ' w F) (μ' o) (s'.obj o))
  (hhome : ∀ o, (s'.obj o).hm = true -> μ' o = F.home o /\ (s'.obj o).shape = F.shape o)
  (hx : s'.h.length <= HP /\ Dle (s.dl μ) (s'.dl μ') /\ Taken s'.k s'.obj μ' s'.d.length) : RepM tm F μ' s' a w where
 defers := h.defers
 size := by rw [ht]; exact h.size
 slots := hslots
 objs := hobjs
 inj := hinj
 lt := fun o b base hp hm => by obtain ⟨o0, h1, h2, _⟩ := hM o b base hp hm; exact h.lt o0 b base h1 h2
 own := fun o b base hp hm => by
  obtain ⟨o0, h1, h2, h3⟩ := hM o b base hp hm
  exact (h.own o0 b base h1 h2).imp id fun h4 => ⟨h4.1, h4.2.imp h3 id⟩
 home := hhome
 frame := h.frame
 hl := hx.1
 known := h.known.trans hx.2.1
 taken := hx.2.2
theorem same_heap (h : RepM tm F μ s a w) (hh : s'.h.length = s.h.length) (hd : s'.d = s.d) (hk : s'.k = s.k) (hmu : ∀ k, μ' (HP + 1 + k) = μ (HP + 1 + k))
  (ho : ∀ i, (s.obj i).stamp < (s'.obj i).stamp \/ ((s'.obj i).stamp = (s.obj i).stamp /\ (s'.obj i).shape = (s.obj i).shape /\ μ' i = μ i)) :
  s'.h.length <= HP /\ Dle (s.dl μ) (s'.dl μ') /\ Taken s'.k s'.obj μ' s'.d.length := by
 refine ⟨by rw [hh]; exact h.hl, fun k m hm => ?_, fun o st x hm => ?_⟩
 ·simp only [S.dl] at hm ⊢
  rw [hd, hmu]; exact hm
 ·rw [hk] at hm
  obtain ⟨h1, h2⟩ := h.taken o st x hm
  rcases ho o with h3 | ⟨h3, h4, h5⟩
  ·refine ⟨by omega, fun k lo len hx hm fr e t xs hr => ?_⟩
   have h4 : (s'.obj o).stamp = st := by rw [hr]; rfl
   omega
  ·refine ⟨by omega, fun k lo len hx hm fr e t xs hr => ?_⟩
   rw [hr] at h3 h4
   cases hs : s.obj o with
   | row st' hm' fr' e' t' xs' =>
    rw [hs] at h3
    have h3 : st = st' := h3
    subst h3
    obtain ⟨h6, h7⟩ := h2 k lo len hx _ _ _ _ _ hs
    exact ⟨by rw [hd]; exact h6, by rw [h5, hmu, h7]⟩
   | absent _ => rw [hs] at h4; cases h4
   | box _ _ _ => rw [hs] at h4; cases h4
   | heap _ _ => rw [hs] at h4; cases h4
   | hrow _ _ _ => rw [hs] at h4; cases h4
theorem den_less {C C' : Cx} (hw : C'.w = C.w) (hB : C'.B = C.B) (hM : ∀ b, C'.M b -> C.M b) (hD : Dle C.dl C'.dl) {fr : Bool} {t : Ty} {x : t.den} {vs : List Value} (h : yk C.w C.M C.dl (C.L fr) t x vs) : yk C'.w C'.M C'.dl (C'.L fr) t x vs := by
 rw [hw]
 exact h.keep (Stp.refl _ _) (fun b _ hb => hM b hb) hD (by simp [Cx.L, hB])
section
variable {C C' : Cx} {f : Cell -> Cell} (hk : ∀ c v, yl C c v -> yl C' (f c) v)
include hk
theorem zi.mapF : ∀ {cs : List Cell} {vs : List Value}, zi C cs vs -> zi C' (cs.map f) vs
 | [], [], _ => trivial
 | _ :: _, _ :: _, h => ⟨hk _ _ h.1, zi.mapF h.2⟩
 | [], _ :: _, h => h.elim
 | _ :: _, [], h => h.elim
theorem RepG.mapF {g : Bool} {cs : List Cell} {v : Value} (h : RepG C g cs v) : RepG C' g (cs.map f) v := by
 cases g with
 | true => obtain ⟨vs, rfl, hc⟩ := h; exact ⟨vs, rfl, zi.mapF hk hc⟩
 | false => obtain ⟨c, rfl, hc⟩ := h; exact ⟨f c, rfl, hk _ _ hc⟩
theorem RepGs.mapF : ∀ {l : List (Bool × List Cell)} {vs : List Value}, RepGs C l vs -> RepGs C' (l.map fun p => (p.1, p.2.map f)) vs
 | [], [], _ => trivial
 | _ :: _, _ :: _, h => ⟨RepG.mapF hk h.1, RepGs.mapF h.2⟩
 | [], _ :: _, h => h.elim
 | _ :: _, [], h => h.elim
theorem RepV.mapF {x : V} {v : Value} (h : RepV C x v) : RepV C' (mapCell f x) v := by
 cases x with
 | one c => exact hk _ _ h
 | agg cs => obtain ⟨vs, rfl, hc⟩ := h; exact ⟨vs, rfl, zi.mapF hk hc⟩
 | tup l => obtain ⟨vs, rfl, hc⟩ := h; exact ⟨vs, rfl, RepGs.mapF hk hc⟩
 | junk => trivial
end
theorem mapCell_obj (s : S) (f : Cell -> Cell) (o : Nat) : (s.mapCell f).obj o = (s.obj o).mapCell f := by
 simp only [S.obj, S.mapCell, objOf, List.getElem?_map]
 cases s.h[o]? with
 | some x => rfl
 | none =>
  show beyond s.d s.k o = (beyond s.d s.k o).mapCell f
  rcases zCL s.d s.k o with h | ⟨_, h⟩ | ⟨_, _, _, _, _, _, h⟩ <;> rw [h] <;> rfl
theorem mapObj_row {x : Obj} {f : Cell -> Cell} {st : Nat} {hm fr : Bool} {e : Nat} {t : Ty} {xs : List t.den} : x.mapCell f = .row st hm fr e t xs ↔ x = .row st hm fr e t xs := by
 cases x <;> simp [Obj.mapCell]
theorem zBK {x : Obj} {f : Cell -> Cell} : yv (x.mapCell f) ↔ yv x := by cases x <;> rfl
theorem mapObj_stamp {x : Obj} {f : Cell -> Cell} : (x.mapCell f).stamp = x.stamp := by cases x <;> rfl
theorem mapObj_hm {x : Obj} {f : Cell -> Cell} : (x.mapCell f).hm = x.hm := by cases x <;> rfl
theorem mapObj_shape {x : Obj} {f : Cell -> Cell} : (x.mapCell f).shape = x.shape := by cases x <;> rfl
theorem mapObj_weak {x : Obj} {f : Cell -> Cell} : zBh (x.mapCell f) ↔ zBh x := by cases x <;> exact Iff.rfl
theorem setH_obj (s : S) (o : Nat) (x : Obj) (i : Nat) : (S.obj { s with h := s.h.set o x } i) = if i = o /\ o < s.h.length then x else s.obj i := by
 simp only [S.obj, objOf]
 by_cases h : i = o
 ·subst h
  by_cases hl : i < s.h.length
  ·simp [hl]
  ·simp [hl]
 ·rw [List.getElem?_set_ne (Ne.symm h), if_neg fun hh => h hh.1]
theorem row_lt {s : S} {o : Nat} {st : Nat} {hm fr : Bool} {e : Nat} {t : Ty} {xs : List t.den} (h : s.obj o = .row st hm fr e t xs) : o < s.h.length := by
 apply Classical.byContradiction
 intro hn
 rw [zBR (Nat.le_of_not_lt hn)] at h
 rcases zCL s.d s.k o with h1 | ⟨_, h1⟩ | ⟨_, _, _, _, _, _, h1⟩ <;> rw [h1] at h <;> cases h
theorem box_lt {s : S} {o : Nat} {st : Nat} {hm : Bool} {cs : List Cell} (h : s.obj o = .box st hm cs) : o < s.h.length := by
 apply Classical.byContradiction
 intro hn
 rw [zBR (Nat.le_of_not_lt hn)] at h
 rcases zCL s.d s.k o with h1 | ⟨_, h1⟩ | ⟨_, _, _, _, _, _, h1⟩ <;> rw [h1] at h <;> cases h
theorem yl.less {C C' : Cx} (hw : C'.w = C.w) (hB : C'.B = C.B) (hM : ∀ b, C'.M b -> C.M b) (hD : Dle C.dl C'.dl)
  (he : ∀ o, (C.h o).stamp <= (C'.h o).stamp /\ ((C'.h o).stamp = (C.h o).stamp -> (∀ st hm cs, C'.h o = .box st hm cs -> (∃ hm' cs', C.h o = .box st hm' cs') /\ C'.μ o = C.μ o) /\
   (∀ st hm fr e t xs, C'.h o = .row st hm fr e t xs -> (∃ hm' fr' e', C.h o = .row st hm' fr' e' t xs) /\ C'.μ o = C.μ o)))
  {c : Cell} {v : Value} (h : yl C c v) : yl C' c v := by
 refine yl.keep hB (by rw [hw]; exact Stp.refl _ _) (fun b _ hb => hM b hb) hD (fun o => ?_) h
 obtain ⟨h1, h2⟩ := he o
 refine ⟨h1, fun hst => ?_⟩
 obtain ⟨h3, h4⟩ := h2 hst.symm
 cases hx : C'.h o with
 | absent st => trivial
 | heap D K => trivial
 | hrow e t xs => trivial
 | box st hm cs =>
  obtain ⟨⟨hm', cs', h5⟩, h6⟩ := h3 st hm cs hx
  exact ⟨⟨st, hm', cs', h5⟩, h6⟩
 | row st hm fr e t xs =>
  obtain ⟨⟨hm', fr', e', h5⟩, h6⟩ := h4 st hm fr e t xs hx
  refine ⟨⟨st, hm', fr', e', xs, h5, rfl⟩, h6, fun b base cur T _ hh => ⟨cur, by rw [hw]; exact hh, rfl⟩⟩
theorem row_den {C : Cx} {o : Nat} {st : Nat} {hm fr : Bool} {ec : Nat} {t : Ty} {xs : List t.den} {e : Ext} {v : Value} (ho : zBU tm C (C.μ o) (C.h o)) (hx : C.h o = .row st hm fr ec t xs) (hc : yl C (.ref o st e) v)
  {C' : Cx} (hw : C'.w = C.w) (hB : C'.B = C.B) (hM : ∀ b, C'.M b -> C.M b) (hD : Dle C.dl C'.dl) (hgone : ∀ b base, C.μ o = some (b, base) -> ¬ C'.M b) (hlt : ∀ b base, C.μ o = some (b, base) -> b < C.w.heap.size)
  {fr' : Bool} (hfr : fr' = true -> fr = true) (hnew : fr' = true -> ∀ b base, C.μ o = some (b, base) -> C.B <= b) : yl C' (.sl fr' t (e.cut xs)) v := by
 obtain ⟨_, _, hr⟩ := hc
 obtain ⟨hok, hrow⟩ := hr hm fr ec t xs hx
 rw [hx] at ho
 obtain ⟨a, cap, hv, hc, hcells⟩ := row_list ho hok hrow
 have hL : C'.L fr' <= C.L fr := by
  unfold Cx.L
  rw [hB]
  cases fr' with
  | false => simp
  | true => rw [hfr rfl]; exact nR _
 show yk C'.w C'.M C'.dl (C'.L fr') (.list t) (e.cut xs) [v]
 refine ⟨a, cap, by rw [hv], hc, ?_, ?_⟩
 ·rcases hrow with ⟨_, hn, _⟩ | ⟨b, base, ad, cap', cur, T, hm', hv', _, _, hblk, _⟩
  ·left
   have hx0 : xs = [] := List.eq_nil_of_length_eq_zero hn
   subst hx0
   refine List.eq_nil_of_length_eq_zero ?_
   rw [num_cut e _ hok]; cases e <;> simp_all [Ext.num, Ext.ok]
  ·right
   rw [hv] at hv'
   injection hv' with h1 h2 h3
   refine ⟨ad, h1, ?_, ?_, ?_⟩
   ·unfold Cx.L
    cases hf : fr' with
    | false => simp
    | true => rw [hB, hblk]; exact hnew hf b base hm'
   ·rw [hw, hblk]; exact hlt b base hm'
   ·rw [hblk]; exact hgone b base hm'
 ·intro i x hx'
  obtain ⟨ad, us, h1, h2, h3, h4⟩ := hcells i x hx'
  refine ⟨ad, us, h1, h2, fun j u hu => by rw [hw]; exact h3 j u hu, ?_⟩
  rw [hw]
  exact h4.keep (Stp.refl _ _) (fun b _ hb => hM b hb) hD hL
end
end Go.Kb
/- Each ghost step. -/
namespace Go.Kb
section
variable {tm : Nat -> TypeId} {F : Fx} {μ μ' : Nat -> Option (Nat × Nat)} {s s' : S} {a : Act} {w : World}
theorem map_cell {f : Cell -> Cell} (hM : ∀ b, (s'.cx μ' w F).M b -> (s.cx μ w F).M b) (hD : Dle (s.dl μ) (s'.dl μ'))
  (hh : ∀ i, (s'.obj i = (s.obj i).mapCell f /\ μ' i = μ i) \/ (s.obj i).stamp < (s'.obj i).stamp) {c : Cell} {v : Value} (h : yl (s.cx μ w F) c v) : yl (s'.cx μ' w F) c v := by
 refine yl.less (C := s.cx μ w F) (C' := s'.cx μ' w F) rfl rfl hM hD (fun o => ?_) h
 simp only [S.cx]
 rcases hh o with ⟨h1, h2⟩ | h1
 ·rw [h1, h2, mapObj_stamp]
  refine ⟨nR _, fun _ => ⟨fun st hm cs hx => ⟨?_, rfl⟩, fun st hm fr e t xs hx => ⟨?_, rfl⟩⟩⟩
  ·cases hs : s.obj o with
   | box st' hm' cs' => rw [hs] at hx; simp [Obj.mapCell] at hx; exact ⟨hm', cs', by rw [hx.1]⟩
   | absent st' => rw [hs] at hx; cases hx
   | row => rw [hs] at hx; cases hx
   | heap D K => rw [hs] at hx; cases hx
   | hrow e t xs => rw [hs] at hx; cases hx
  ·exact ⟨hm, fr, e, mapObj_row.1 hx⟩
 ·exact ⟨Nat.le_of_lt h1, fun he => absurd he (Nat.ne_of_gt h1)⟩
theorem obj_mapF {C C' : Cx} {f : Cell -> Cell} (hk : ∀ c v, yl C c v -> yl C' (f c) v) (hw : C'.w = C.w) (hB : C'.B = C.B) (hM : ∀ b, C'.M b -> C.M b) (hD : Dle C.dl C'.dl) {m : Option (Nat × Nat)} {x : Obj} (h : zBU tm C m x) :
  zBU tm C' m (x.mapCell f) := by
 cases x with
 | absent st => trivial
 | box st hm cs =>
  obtain ⟨b, vs, T, h1, h2, h3⟩ := h
  exact ⟨b, vs, T, h1, by rw [hw]; exact h2, zi.mapF hk h3⟩
 | row st hm fr e t xs =>
  rcases h with h | ⟨b, base, cur, h1, h2, h3, h4⟩
  ·exact .inl h
  ·exact .inr ⟨b, base, cur, h1, by rw [hw]; exact h2, h3, fun i x hx => den_less hw hB hM hD (h4 i x hx)⟩
 | heap D K => trivial
 | hrow e t xs =>
  obtain ⟨hp, h⟩ := h
  refine ⟨hp, ?_⟩
  rcases h with h | ⟨b, base, cur, h1, h2, h3, h4⟩
  ·exact .inl h
  ·refine .inr ⟨b, base, cur, h1, by rw [hw]; exact h2, h3, fun i x hx => ?_⟩
   rw [hw]
   exact (h4 i x hx).keep (Stp.refl _ _) (fun b _ hb => hM b hb) hD (nR _)
theorem map_slots {C C' : Cx} {f : Cell -> Cell} (hk : ∀ c v, yl C c v -> yl C' (f c) v) {t : List V}
  (h : ∀ (i : Nat) (v : V) (x : Value), t[i]? = some v -> a.tmps[i]? = some x -> RepV C v x) :
  ∀ (i : Nat) (v : V) (x : Value), (t.map (mapCell f))[i]? = some v -> a.tmps[i]? = some x -> RepV C' v x := by
 intro i v x hv hx
 rw [List.getElem?_map] at hv
 cases hu : t[i]? with
 | none => rw [hu] at hv; cases hv
 | some u =>
  rw [hu] at hv; injection hv with hv; subst hv
  exact RepV.mapF hk (h i u x hu hx)
theorem objId (x : Obj) : x.mapCell (fun c => c) = x := by cases x <;> simp [Obj.mapCell]
theorem g_freeze (h : RepM tm F μ s a w) (o : Nat) (hg : s.ghost (.freeze o) = some s') : Rep tm F s' a w /\ s'.h.length = s.h.length := by
 simp only [S.ghost] at hg
 split at hg
 ·rename_i st hm fr e t xs hx
  injection hg with hg
  have hlt := row_lt hx
  have hob : ∀ i, s'.obj i = if i = o then .absent (st + 1) else (s.obj i).mapCell (freezeCell s o) := by
   intro i
   rw [<- hg, setH_obj]
   have hl : (s.mapCell (freezeCell s o)).h.length = s.h.length := by simp [S.mapCell]
   rw [hl]
   by_cases hi : i = o
   ·rw [if_pos ⟨hi, hlt⟩, if_pos hi]
   ·rw [if_neg fun hh => hi hh.1, if_neg hi, mapCell_obj]
  have hM : ∀ b, (s'.cx μ w F).M b -> (s.cx μ w F).M b := by
   rintro b (hX | ⟨i, base, hp, hm'⟩)
   ·exact .inl hX
   refine .inr ?_
   simp only [S.cx] at hp hm'
   rw [hob i] at hp
   split at hp
   ·exact hp.elim
   ·exact ⟨i, base, zBK.1 hp, hm'⟩
  have hh : ∀ i, (s'.obj i = (s.obj i).mapCell (freezeCell s o) /\ μ i = μ i) \/ (s.obj i).stamp < (s'.obj i).stamp := by
   intro i
   rw [hob i]
   by_cases hi : i = o
   ·subst hi; rw [if_pos rfl, hx]; right; simp [Obj.stamp]
   ·rw [if_neg hi]; exact .inl ⟨rfl, rfl⟩
  have hpo : yv (s.obj o) := by rw [hx]; trivial
  have hD : Dle (s.dl μ) (s'.dl μ) := by rw [<- hg]; exact Dle.refl _
  have hk : ∀ c v, yl (s.cx μ w F) c v -> yl (s'.cx μ w F) (freezeCell s o c) v := by
   intro c v hc
   unfold freezeCell
   split
   ·rename_i o' st' e'
    cases hb : Nat.beq o o'
    ·exact map_cell hM hD hh hc
    ·have hb := eB hb
     subst hb
     simp only [hx]
     cases hst : Nat.beq st' st
     ·trivial
     ·have hst := eB hst
      subst hst
      refine row_den (C' := s'.cx μ w F) (h.objs o) (by simp only [S.cx]; exact hx) hc rfl rfl hM hD ?_ ?_ ?_ ?_
      ·rintro b base hmu (hX | ⟨i, base', hp, hmi⟩)
       ·have hX' := F.hX b hX
        rcases h.own o b base hpo hmu with h1 | ⟨h1, _⟩
        ·exact absurd hX'.1 (by omega)
        ·exact hX'.2 h1
       simp only [S.cx] at hmu hp hmi
       rw [hob i] at hp
       split at hp
       ·exact hp.elim
       ·rename_i hi
        exact hi (h.inj i o b base' base (zBK.1 hp) hpo hmi hmu)
      ·intro b base hmu; exact h.lt o b base hpo hmu
      ·intro hf; simp at hf; exact hf.1
      ·intro hf b base hmu
       simp at hf
       rcases h.own o b base hpo hmu with h1 | ⟨_, h2 | h2⟩
       ·exact Nat.le_trans F.hB h1
       ·rw [hx] at h2; have := h2 hf.1; rw [hf.2] at this; cases this
       ·exact h2
   ·exact map_cell hM hD hh hc
  refine ⟨⟨μ, h.change (by rw [<- hg]; simp [S.mapCell]) ?_ ?_ ?_ ?_ ?_ (same_heap h (by rw [<- hg]; simp [S.mapCell]) (by rw [<- hg]; rfl) (by rw [<- hg]; rfl) (fun _ => rfl) fun i => (hh i).symm.imp id fun h => by rw [h.1]; exact ⟨mapObj_stamp, mapObj_shape, rfl⟩)⟩, by rw [<- hg]; simp [S.mapCell]⟩
  ·intro i b base hp hmi
   rw [hob i] at hp ⊢
   split at hp
   ·exact hp.elim
   ·rename_i hi
    rw [if_neg hi]
    exact ⟨i, zBK.1 hp, hmi, mapObj_weak.2⟩
  ·intro i j b base base' hp hq hi hj
   rw [hob] at hp hq
   split at hp
   ·exact hp.elim
   ·split at hq
    ·exact hq.elim
    ·exact h.inj i j b base base' (zBK.1 hp) (zBK.1 hq) hi hj
  ·have : s'.t = s.t.map (mapCell (freezeCell s o)) := by rw [<- hg]; rfl
   rw [this]
   exact map_slots hk h.slots
  ·intro i
   rw [hob i]
   split
   ·trivial
   ·exact obj_mapF hk rfl rfl hM hD (h.objs i)
  ·intro i hi
   rw [hob i] at hi ⊢
   by_cases hio : i = o
   ·rw [if_pos hio] at hi; cases hi
   ·rw [if_neg hio] at hi ⊢
    rw [mapObj_hm] at hi; rw [mapObj_shape]; exact h.home i hi
 ·injection hg with hg
  subst hg
  exact ⟨⟨μ, h⟩, rfl⟩
theorem g_drop (h : RepM tm F μ s a w) (o : Nat) (hg : s.ghost (.drop o) = some s') : Rep tm F s' a w /\ s'.h.length = s.h.length := by
 simp only [S.ghost] at hg
 injection hg with hg
 have hob : ∀ i, s'.obj i = if i = o /\ o < s.h.length then .absent ((s.obj o).stamp + 1) else s.obj i := by
  intro i
  rw [<- hg, setH_obj]
 have hM : ∀ b, (s'.cx μ w F).M b -> (s.cx μ w F).M b := by
  rintro b (hX | ⟨i, base, hp, hm'⟩)
  ·exact .inl hX
  refine .inr ?_
  simp only [S.cx] at hp hm'
  rw [hob i] at hp
  split at hp
  ·exact hp.elim
  ·exact ⟨i, base, hp, hm'⟩
 have hD : Dle (s.dl μ) (s'.dl μ) := by rw [<- hg]; exact Dle.refl _
 have hk : ∀ c v, yl (s.cx μ w F) c v -> yl (s'.cx μ w F) c v := by
  intro c v
  refine map_cell (f := fun c => c) hM hD fun i => ?_
  rw [hob i]
  split
  ·rename_i hi; right; rw [hi.1]; simp [Obj.stamp]
  ·left; exact ⟨(objId _).symm, rfl⟩
 refine ⟨⟨μ, h.change (by rw [<- hg]) ?_ ?_ ?_ ?_ ?_ (same_heap h (by rw [<- hg]; simp) (by rw [<- hg]) (by rw [<- hg]) (fun _ => rfl) fun i => ?_)⟩, by rw [<- hg]; simp⟩
 ·intro i b base hp hmi
  rw [hob i] at hp ⊢
  split at hp
  ·exact hp.elim
  ·rename_i hi
   rw [if_neg hi]
   exact ⟨i, hp, hmi, id⟩
 ·intro i j b base base' hp hq hi hj
  rw [hob] at hp hq
  split at hp
  ·exact hp.elim
  ·split at hq
   ·exact hq.elim
   ·exact h.inj i j b base base' hp hq hi hj
 ·intro i v x hv hx
  exact RepV.map hk (h.slots i v x (by rw [<- hg] at hv; exact hv) hx)
 ·intro i
  rw [hob i]
  split
  ·trivial
  ·have := obj_mapF (tm := tm) (f := fun c => c) hk rfl rfl hM hD (h.objs i)
   rwa [objId] at this
 ·intro i hi
  rw [hob i] at hi ⊢
  by_cases hio : i = o /\ o < s.h.length
  ·rw [if_pos hio] at hi; cases hi
  ·rw [if_neg hio] at hi ⊢
   exact h.home i hi
 ·rw [hob i]
  split
  ·rename_i hi; left; rw [hi.1]; simp [Obj.stamp]
  ·exact .inr ⟨rfl, rfl, rfl⟩
theorem g_keep (h : RepM tm F μ s a w) (l : List Nat) (hg : s.ghost (.keep l) = some s') : Rep tm F s' a w /\ s'.h.length = s.h.length := by
 simp only [S.ghost] at hg
 injection hg with hg
 subst hg
 have hl : ∀ (t : List V) (n : Nat), (keepSlots l n t).length = t.length := by
  intro t
  induction t with
  | nil => intro n; rfl
  | cons v r ih => intro n; simp [keepSlots, ih]
 have hget : ∀ (t : List V) (n i : Nat) (v : V), (keepSlots l n t)[i]? = some v -> v = .junk \/ t[i]? = some v := by
  intro t
  induction t with
  | nil => intro n i v h; simp [keepSlots] at h
  | cons u r ih =>
   intro n i v h
   cases i with
   | zero =>
    simp only [keepSlots, List.getElem?_cons_zero, Option.some.injEq] at h
    split at h
    ·right; simpa using h
    ·left; exact h.symm
   | succ i => simp only [keepSlots, List.getElem?_cons_succ] at h ⊢; exact ih _ _ _ h
 refine ⟨⟨μ, h.change (hl _ _) (fun i b base hp hm => ⟨i, hp, hm, id⟩) h.inj ?_ h.objs h.home ⟨h.hl, Dle.refl _, h.taken⟩⟩, rfl⟩
 intro i v x hv hx
 rcases hget _ _ _ _ hv with rfl | hv
 ·trivial
 ·exact h.slots i v x hv hx
theorem g_away (h : RepM tm F μ s a w) (o : Nat) (hg : s.ghost (.away o) = some s') : Rep tm F s' a w /\ s'.h.length = s.h.length := by
 simp only [S.ghost] at hg
 split at hg
 ·rename_i st hm fr e t xs hx
  injection hg with hg
  have hlt := row_lt hx
  have hob : ∀ i, s'.obj i = if i = o then .row st false (fr && !hm) e t xs else s.obj i := by
   intro i
   rw [<- hg, setH_obj]
   by_cases hi : i = o
   ·rw [if_pos ⟨hi, hlt⟩, if_pos hi]
   ·rw [if_neg fun hh => hi hh.1, if_neg hi]
  have hpres : ∀ i, yv (s'.obj i) ↔ yv (s.obj i) := by
   intro i
   rw [hob i]
   split
   ·rename_i hi; rw [hi, hx]; exact Iff.rfl
   ·exact Iff.rfl
  have hM : ∀ b, (s'.cx μ w F).M b -> (s.cx μ w F).M b := by
   rintro b (hX | ⟨i, base, hp, hm'⟩)
   ·exact .inl hX
   refine .inr ?_
   exact ⟨i, base, (hpres i).1 hp, hm'⟩
  have hD : Dle (s.dl μ) (s'.dl μ) := by rw [<- hg]; exact Dle.refl _
  have hk : ∀ c v, yl (s.cx μ w F) c v -> yl (s'.cx μ w F) c v := by
   intro c v
   refine yl.less (C := s.cx μ w F) (C' := s'.cx μ w F) rfl rfl hM hD fun i => ?_
   simp only [S.cx]
   rw [hob i]
   split
   ·rename_i hi
    rw [hi, hx]
    refine ⟨nR _, fun _ => ⟨fun st hm cs hh => (by cases hh), fun st2 hm2 fr2 e2 t2 xs2 hh => ?_⟩⟩
    injection hh with h1 h2 h3 h4 h5 h6
    subst h1; subst h5
    exact ⟨⟨hm, fr, e, by rw [eq_of_heq h6]⟩, by trivial⟩
   ·exact ⟨nR _, fun _ => ⟨fun st hm cs hh => ⟨⟨hm, cs, hh⟩, by trivial⟩, fun st2 hm2 fr2 e2 t2 xs2 hh => ⟨⟨hm2, fr2, e2, hh⟩, by trivial⟩⟩⟩
  refine ⟨⟨μ, h.change (by rw [<- hg]) ?_ ?_ ?_ ?_ ?_ (same_heap h (by rw [<- hg]; simp) (by rw [<- hg]) (by rw [<- hg]) (fun _ => rfl) fun i => ?_)⟩, by rw [<- hg]; simp⟩
  ·intro i b base hp hmi
   refine ⟨i, (hpres i).1 hp, hmi, fun hw => ?_⟩
   rw [hob i]
   split
   ·rename_i hi
    rw [hi, hx] at hw
    intro h1
    simp at h1
    have := hw h1.1
    rw [h1.2] at this; cases this
   ·exact hw
  ·intro i j b base base' hp hq
   exact h.inj i j b base base' ((hpres i).1 hp) ((hpres j).1 hq)
  ·intro i v x hv hx'
   exact RepV.map hk (h.slots i v x (by rw [<- hg] at hv; exact hv) hx')
  ·intro i
   have hold := obj_mapF (tm := tm) (f := fun c => c) hk rfl rfl hM hD (h.objs i)
   rw [objId] at hold
   rw [hob i]
   split
   ·rename_i hi
    subst hi
    rw [hx] at hold
    rcases hold with hold | ⟨b, base, cur, h1, h2, h3, h4⟩
    ·exact .inl hold
    ·exact .inr ⟨b, base, cur, h1, h2, h3, fun i x hxi => zBW (C := s'.cx μ w F) (by intro hf; simp at hf; exact hf.1) (h4 i x hxi)⟩
   ·exact hold
  ·intro i hi
   rw [hob i] at hi ⊢
   by_cases hio : i = o
   ·rw [if_pos hio] at hi; cases hi
   ·rw [if_neg hio] at hi ⊢
    exact h.home i hi
  ·rw [hob i]
   split
   ·rename_i hi; right; rw [hi, hx]; exact ⟨rfl, rfl, rfl⟩
   ·exact .inr ⟨rfl, rfl, rfl⟩
 ·injection hg with hg
  subst hg
  exact ⟨⟨μ, h⟩, rfl⟩
end
end Go.Kb
/- The heap: rows that go into it, rows that are taken out of it for a while and put back. -/
namespace Go.Kb
section
variable {tm : Nat -> TypeId} {F : Fx} {μ : Nat -> Option (Nat × Nat)} {s s' : S} {a : Act} {w : World}
theorem ext_sum {e : Ext} {n : Nat} (h : e.ok n) : e.lo + e.num n <= n := by
 cases e with
 | all => simp [Ext.lo, Ext.num]
 | tail l => simp [Ext.lo, Ext.num, Ext.ok] at *; omega
 | part l r => simp [Ext.lo, Ext.num, Ext.ok] at *; omega
theorem zCE.less {w : World} {m : Option (Nat × Nat)} {sz n n' lo len : Nat} {v : Value} (h : zCE w m sz n lo len v) (hn : n = 0 -> n' = 0) : zCE w m sz n' lo len v := by
 rcases h with ⟨h1, h2, h3⟩ | h
 ·exact .inl ⟨h1, hn h2, h3⟩
 ·exact .inr h
theorem zB2 (x : Option HRow) : hview x = .absent 0 \/ ∃ e t, ∃ xs : List (Ty.den t), x = some (.row e t xs) /\ hview x = .hrow e t xs := by
 cases x with
 | none => exact .inl rfl
 | some r =>
  cases r with
  | gone => exact .inl rfl
  | row e t xs => exact .inr ⟨e, t, xs, rfl, rfl⟩
theorem hview_map (x : Option HRow) (f : Cell -> Cell) : (hview x).mapCell f = hview x := by
 rcases zB2 x with h | ⟨e, t, xs, _, h⟩ <;> rw [h] <;> rfl
theorem hview_stamp (x : Option HRow) : (hview x).stamp = 0 := by
 rcases zB2 x with h | ⟨e, t, xs, _, h⟩ <;> rw [h] <;> rfl
theorem hview_hm (x : Option HRow) : (hview x).hm = false := by
 rcases zB2 x with h | ⟨e, t, xs, _, h⟩ <;> rw [h] <;> rfl
theorem hview_weak (x : Option HRow) : zBh (hview x) := by
 rcases zB2 x with h | ⟨e, t, xs, _, h⟩ <;> rw [h] <;> trivial
theorem pub_core (h : RepM tm F μ s a w) {o st e : Nat} {fr : Bool} {t : Ty} {xs : List t.den} (hx : s.obj o = .row st false fr e t xs) (hp : t.pure = true) {f : Cell -> Cell}
  (hf : (∀ c, f c = c) \/ (∀ c, f c = zBu o st s.d.length xs.length t c))
  (hob : ∀ i, i < HP -> s'.obj i = if i = o then .absent (st + 1) else (s.obj i).mapCell f)
  (hhl : s'.h.length = s.h.length) (hd : s'.d = s.d ++ [.row e t xs]) (hk : s'.k = s.k) (ht : s'.t.length = s.t.length)
  (hslots : ∀ (i : Nat) (v' : V), s'.t[i]? = some v' -> ∃ v : V, s.t[i]? = some v /\ (v' = v \/ v' = mapCell (zBu o st s.d.length xs.length t) v)) :
  RepM tm F (fun i => if i = HP + 1 + s.d.length then μ o else μ i) s' a w := by
 have hl := h.hl
 have hl' : s'.h.length <= HP := by rw [hhl]; exact hl
 have ho : o < HP := Nat.lt_of_lt_of_le (row_lt hx) hl
 have hpo : yv (s.obj o) := by rw [hx]; trivial
 obtain ⟨μ', hμ⟩ : ∃ μ' : Nat -> Option (Nat × Nat), μ' = fun i => if i = HP + 1 + s.d.length then μ o else μ i := ⟨_, rfl⟩
 rw [<- hμ]
 have hmu : ∀ i, i ≠ HP + 1 + s.d.length -> μ' i = μ i := fun i hi => by rw [hμ]; exact if_neg hi
 have hmn : μ' (HP + 1 + s.d.length) = μ o := by rw [hμ]; exact if_pos rfl
 have hnew : s'.obj (HP + 1 + s.d.length) = .hrow e t xs := by
  rw [zBQ hl', hd]; simp [hview]
 have hdyn : ∀ n, n ≠ s.d.length -> s'.obj (HP + 1 + n) = s.obj (HP + 1 + n) := by
  intro n hn
  rw [zBQ hl', zBQ hl, hd]
  by_cases hlt : n < s.d.length
  ·rw [List.getElem?_append_left hlt]
  ·rw [List.getElem?_eq_none (by simp; omega), List.getElem?_eq_none (by omega)]
 -- every object of the new state
 have hall : ∀ i, (i = o /\ s'.obj i = .absent (st + 1)) \/ (i = HP + 1 + s.d.length /\ s'.obj i = .hrow e t xs) \/ (i = HP /\ s'.obj i = .heap s'.d s'.k /\ s.obj i = .heap s.d s.k) \/
   (i ≠ o /\ i ≠ HP + 1 + s.d.length /\ s'.obj i = (s.obj i).mapCell f) := by
  intro i
  rcases zBm i with hi | rfl | ⟨n, rfl⟩
  ·rw [hob i hi]
   by_cases hio : i = o
   ·left; exact ⟨hio, if_pos hio⟩
   ·right; right; right; exact ⟨hio, by omega, if_neg hio⟩
  ·right; right; left; exact ⟨rfl, zBs hl', zBs hl⟩
  ·by_cases hn : n = s.d.length
   ·subst hn; right; left; exact ⟨rfl, hnew⟩
   ·right; right; right
    refine ⟨by omega, by omega, ?_⟩
    rw [hdyn n hn, zBQ hl, hview_map]
 have hback : ∀ i, yv (s'.obj i) -> ∀ b base, μ' i = some (b, base) -> ∃ i0, yv (s.obj i0) /\ μ i0 = some (b, base) /\ ((i0 = o /\ i = HP + 1 + s.d.length) \/ (i0 = i /\ i ≠ o /\ i ≠ HP + 1 + s.d.length)) /\ (zBh (s.obj i0) -> zBh (s'.obj i)) := by
  intro i hpi b base hm
  rcases hall i with ⟨_, h1⟩ | ⟨h0, h1⟩ | ⟨_, h1, _⟩ | ⟨h1, h2, h3⟩
  ·rw [h1] at hpi; exact hpi.elim
  ·subst h0
   rw [hmn] at hm
   exact ⟨o, hpo, hm, .inl ⟨rfl, rfl⟩, fun _ => by rw [h1]; trivial⟩
  ·rw [h1] at hpi; exact hpi.elim
  ·rw [h3] at hpi ⊢
   rw [hmu i h2] at hm
   exact ⟨i, zBK.1 hpi, hm, .inr ⟨rfl, h1, h2⟩, mapObj_weak.2⟩
 have hM : ∀ b, (s'.cx μ' w F).M b -> (s.cx μ w F).M b := by
  rintro b (hX | ⟨i, base, hpi, hm⟩)
  ·exact .inl hX
  ·obtain ⟨i0, h1, h2, _⟩ := hback i hpi b base hm
   exact .inr ⟨i0, base, h1, h2⟩
 have hD : Dle (s.dl μ) (s'.dl μ') := by
  intro k m hm
  simp only [S.dl] at hm ⊢
  split at hm
  ·rename_i hlt
   rw [if_pos (by rw [hd]; simp; omega), hmu _ (by omega)]; exact hm
  ·cases hm
 have hkc : ∀ c v, yl (s.cx μ w F) c v -> yl (s'.cx μ' w F) c v := by
  intro c v hc
  refine yl.less (C := s.cx μ w F) (C' := s'.cx μ' w F) rfl rfl hM hD (fun i => ?_) hc
  simp only [S.cx]
  rcases hall i with ⟨h0, h1⟩ | ⟨h0, h1⟩ | ⟨_, h1, h2⟩ | ⟨h1, h2, h3⟩
  ·rw [h1]; subst h0; rw [hx]
   exact ⟨Nat.le_succ _, fun hh => by simp only [Obj.stamp] at hh; omega⟩
  ·rw [h1]; subst h0
   rw [zBQ hl, List.getElem?_eq_none (nR _)]
   exact ⟨nR _, fun _ => ⟨fun _ _ _ hh => (by cases hh), fun _ _ _ _ _ _ hh => (by cases hh)⟩⟩
  ·rw [h1, h2]
   exact ⟨nR _, fun _ => ⟨fun _ _ _ hh => (by cases hh), fun _ _ _ _ _ _ hh => (by cases hh)⟩⟩
  ·rw [h3, mapObj_stamp, hmu i h2]
   refine ⟨nR _, fun _ => ⟨fun st2 hm2 cs2 hh => ⟨?_, rfl⟩, fun st2 hm2 fr2 e2 t2 xs2 hh => ⟨?_, rfl⟩⟩⟩
   ·cases hs : s.obj i with
    | box st' hm' cs' => rw [hs] at hh; simp [Obj.mapCell] at hh; exact ⟨hm', cs', by rw [hh.1]⟩
    | absent st' => rw [hs] at hh; cases hh
    | row => rw [hs] at hh; cases hh
    | heap D K => rw [hs] at hh; cases hh
    | hrow e t xs => rw [hs] at hh; cases hh
   ·exact ⟨hm2, fr2, e2, mapObj_row.1 hh⟩
 have hkp : ∀ c v, yl (s.cx μ w F) c v -> yl (s'.cx μ' w F) (zBu o st s.d.length xs.length t c) v := by
  intro c v hc
  unfold zBu
  split
  ·rename_i o1 st1 e1
   cases hb : Nat.beq o o1 with
   | false => exact hkc _ _ hc
   | true =>
    have hb := eB hb
    subst hb
    simp only []
    cases hb2 : Nat.beq st st1 with
    | false => trivial
    | true =>
     have hb2 := eB hb2
     subst hb2
     obtain ⟨_, _, hr⟩ := hc
     obtain ⟨hok, hrow⟩ := hr _ _ _ _ _ hx
     refine ⟨v, rfl, μ o, ?_, hrow.less fun h0 => ?_⟩
     ·simp only [S.cx, S.dl]
      rw [if_pos (by rw [hd]; simp), hmn]
     ·have := ext_sum hok; omega
  ·exact hkc _ _ hc
 have hkf : ∀ c v, yl (s.cx μ w F) c v -> yl (s'.cx μ' w F) (f c) v := by
  intro c v hc
  rcases hf with hf | hf
  ·rw [hf]; exact hkc c v hc
  ·rw [hf]; exact hkp c v hc
 refine h.change ht ?_ ?_ ?_ ?_ ?_ ⟨hl', hD, ?_⟩
 ·intro i b base hpi hm
  obtain ⟨i0, h1, h2, _, h3⟩ := hback i hpi b base hm
  exact ⟨i0, h1, h2, h3⟩
 ·intro i j b base base' hpi hpj hi hj
  obtain ⟨i0, i1, i2, i3, _⟩ := hback i hpi b base hi
  obtain ⟨j0, j1, j2, j3, _⟩ := hback j hpj b base' hj
  have := h.inj i0 j0 b base base' i1 j1 i2 j2
  subst this
  rcases i3 with ⟨i3, i4⟩ | ⟨i3, i4, _⟩ <;> rcases j3 with ⟨j3, j4⟩ | ⟨j3, j4, _⟩
  ·rw [i4, j4]
  ·exact absurd (j3 ▸ i3) j4
  ·exact absurd (i3 ▸ j3) i4
  ·rw [<- i3, <- j3]
 ·intro i v x hv hxx
  obtain ⟨v0, h1, h2⟩ := hslots i v hv
  have := h.slots i v0 x h1 hxx
  rcases h2 with rfl | rfl
  ·exact RepV.map hkc this
  ·exact RepV.mapF hkp this
 ·intro i
  rcases hall i with ⟨h0, h1⟩ | ⟨h0, h1⟩ | ⟨_, h1, _⟩ | ⟨h1, h2, h3⟩
  ·rw [h1]; trivial
  ·rw [h1]; subst h0
   rw [hmn]
   refine ⟨hp, ?_⟩
   have hold := h.objs o
   rw [hx] at hold
   rcases hold with hold | ⟨b, base, cur, g1, g2, g3, g4⟩
   ·exact .inl hold
   ·exact .inr ⟨b, base, cur, g1, g2, g3, fun i x hxi => (g4 i x hxi).keep (Stp.refl _ _) (fun b _ hb => hM b hb) hD (Nat.zero_le _)⟩
  ·rw [h1]; trivial
  ·rw [h3, hmu i h2]
   exact obj_mapF hkf rfl rfl hM hD (h.objs i)
 ·intro i hi
  rcases hall i with ⟨h0, h1⟩ | ⟨h0, h1⟩ | ⟨_, h1, _⟩ | ⟨h1, h2, h3⟩
  ·rw [h1] at hi; cases hi
  ·rw [h1] at hi; cases hi
  ·rw [h1] at hi; cases hi
  ·rw [h3] at hi ⊢
   rw [mapObj_hm] at hi; rw [mapObj_shape, hmu i h2]; exact h.home i hi
 ·intro o1 st1 x hm
  rw [hk] at hm
  obtain ⟨t1, t2⟩ := h.taken o1 st1 x hm
  rcases hall o1 with ⟨h0, h1⟩ | ⟨h0, h1⟩ | ⟨_, h1, h2⟩ | ⟨h1, h2, h3⟩
  ·rw [h1]; subst h0; rw [hx] at t1
   exact ⟨Nat.le_succ_of_le t1, fun _ _ _ _ _ _ _ _ _ hh => by cases hh⟩
  ·rw [h1]; subst h0
   rw [zBQ hl, hview_stamp] at t1
   exact ⟨t1, fun _ _ _ _ _ _ _ _ _ hh => by cases hh⟩
  ·rw [h1]; rw [h2] at t1
   exact ⟨t1, fun _ _ _ _ _ _ _ _ _ hh => by cases hh⟩
  ·rw [h3, mapObj_stamp]
   refine ⟨t1, fun k lo len hq hm' fr' e' t' xs' hr => ?_⟩
   obtain ⟨g1, g2⟩ := t2 k lo len hq hm' fr' e' t' xs' (mapObj_row.1 hr)
   refine ⟨by rw [hd]; simp; omega, ?_⟩
   rw [hmu o1 h2, hmu _ (by omega), g2]
theorem heap_kept {μ' : Nat -> Option (Nat × Nat)} (hback : ∀ i, yv (s'.obj i) -> ∀ b base, μ' i = some (b, base) -> ∃ i0, yv (s.obj i0) /\ μ i0 = some (b, base)) (hD : Dle (s.dl μ) (s'.dl μ'))
  (hst : ∀ i, (s.obj i).stamp <= (s'.obj i).stamp /\ ((s'.obj i).stamp = (s.obj i).stamp -> (s'.obj i = s.obj i /\ μ' i = μ i) \/ ((∀ st hm cs, s'.obj i ≠ .box st hm cs) /\ ∀ st hm fr e t xs, s'.obj i ≠ .row st hm fr e t xs))) :
  (∀ b, (s'.cx μ' w F).M b -> (s.cx μ w F).M b) /\ ∀ c v, yl (s.cx μ w F) c v -> yl (s'.cx μ' w F) c v := by
 have hM : ∀ b, (s'.cx μ' w F).M b -> (s.cx μ w F).M b := by
  rintro b (hX | ⟨i, base, hpi, hm⟩)
  ·exact .inl hX
  ·obtain ⟨i0, h1, h2⟩ := hback i hpi b base hm
   exact .inr ⟨i0, base, h1, h2⟩
 refine ⟨hM, fun c v hc => ?_⟩
 refine yl.less (C := s.cx μ w F) (C' := s'.cx μ' w F) rfl rfl hM hD (fun i => ?_) hc
 simp only [S.cx]
 obtain ⟨h1, h2⟩ := hst i
 refine ⟨h1, fun he => ?_⟩
 rcases h2 he with ⟨h3, h4⟩ | ⟨h3, h4⟩
 ·rw [h3]
  exact ⟨fun st hm cs hh => ⟨⟨hm, cs, hh⟩, h4⟩, fun st hm fr e t xs hh => ⟨⟨hm, fr, e, hh⟩, h4⟩⟩
 ·exact ⟨fun st hm cs hh => absurd hh (h3 st hm cs), fun st hm fr e t xs hh => absurd hh (h4 st hm fr e t xs)⟩
theorem put_core (h : RepM tm F μ s a w) {o st e : Nat} {fr : Bool} {t : Ty} {xs : List t.den} (hx : s.obj o = .row st false fr e t xs) (hp : t.pure = true) {q : Hnd} {K : List (Nat × Nat × Hnd)} (hk : s.k = (o, st, q) :: K)
  (hs' : s' = { s with h := s.h.set o (.absent (st + 1)), d := hput s.d q e t xs, k := K }) : RepM tm F μ s' a w := by
 have hl := h.hl
 have hlt := row_lt hx
 have hhl : s'.h.length = s.h.length := by rw [hs']; simp
 have hl' : s'.h.length <= HP := by rw [hhl]; exact hl
 have hd : s'.d = hput s.d q e t xs := by rw [hs']
 have hk' : s'.k = K := by rw [hs']
 have hdl : s'.d.length = s.d.length := by
  rw [hd]
  cases q with
  | none => rfl
  | some q => obtain ⟨k, lo, len⟩ := q; simp [hput]
 have hpo : yv (s.obj o) := by rw [hx]; trivial
 obtain ⟨_, htk⟩ := h.taken o st q (by rw [hk]; exact .head _)
 have hlow : ∀ i, i < HP -> s'.obj i = if i = o then .absent (st + 1) else s.obj i := by
  intro i hi
  by_cases h1 : i < s.h.length
  ·rw [zB9 (by rw [hhl]; exact h1)]
   subst hs'
   by_cases h2 : i = o
   ·subst h2; simp
   ·rw [if_neg h2, zB9 h1]; simp [List.getElem_set_ne (Ne.symm h2)]
  ·rw [zBR (by omega), zBR (by omega), zBg hi, zBg hi, if_neg (by omega)]
 have hall : ∀ i, (i = o /\ s'.obj i = .absent (st + 1)) \/ (∃ k lo len, q = some (k, lo, len) /\ i = HP + 1 + k /\ s'.obj i = .hrow e t xs) \/ (i = HP /\ s'.obj i = .heap s'.d s'.k /\ s.obj i = .heap s.d s.k) \/
   (i ≠ o /\ s'.obj i = s.obj i /\ ∀ k lo len, q = some (k, lo, len) -> i ≠ HP + 1 + k) := by
  intro i
  rcases zBm i with hi | rfl | ⟨n, rfl⟩
  ·rw [hlow i hi]
   by_cases hio : i = o
   ·left; exact ⟨hio, if_pos hio⟩
   ·right; right; right; exact ⟨hio, if_neg hio, fun k _ _ _ => by omega⟩
  ·right; right; left; exact ⟨rfl, zBs hl', zBs hl⟩
  ·rw [zBQ hl', zBQ hl, hd]
   cases q with
   | none => right; right; right; exact ⟨by omega, rfl, fun _ _ _ hh => by cases hh⟩
   | some q =>
    obtain ⟨k, lo, len⟩ := q
    have hk0 := (htk k lo len rfl _ _ _ _ _ hx).1
    by_cases hkn : n = k
    ·subst hkn; right; left
     exact ⟨n, lo, len, rfl, rfl, by simp [hput, hk0, hview]⟩
    ·right; right; right
     refine ⟨by omega, ?_, fun k' lo' len' hh => ?_⟩
     ·simp only [hput]; rw [List.getElem?_set_ne (Ne.symm hkn)]
     ·injection hh with hh; injection hh with hh _; omega
 have hback : ∀ i, yv (s'.obj i) -> ∀ b base, μ i = some (b, base) -> ∃ i0, yv (s.obj i0) /\ μ i0 = some (b, base) /\ ((i0 = o /\ ∃ k lo len, q = some (k, lo, len) /\ i = HP + 1 + k) \/ (i0 = i /\ i ≠ o /\ ∀ k lo len, q = some (k, lo, len) -> i ≠ HP + 1 + k)) /\ (zBh (s.obj i0) -> zBh (s'.obj i)) := by
  intro i hpi b base hm
  rcases hall i with ⟨_, h1⟩ | ⟨k, lo, len, hq, h0, h1⟩ | ⟨_, h1, _⟩ | ⟨h1, h2, h3⟩
  ·rw [h1] at hpi; exact hpi.elim
  ·have := (htk k lo len hq _ _ _ _ _ hx).2
   exact ⟨o, hpo, by rw [this, <- h0]; exact hm, .inl ⟨rfl, k, lo, len, hq, h0⟩, fun _ => by rw [h1]; trivial⟩
  ·rw [h1] at hpi; exact hpi.elim
  ·rw [h2] at hpi ⊢
   exact ⟨i, hpi, hm, .inr ⟨rfl, h1, h3⟩, id⟩
 have hD : Dle (s.dl μ) (s'.dl μ) := by
  intro k m hm
  simp only [S.dl] at hm ⊢
  rw [hdl]; exact hm
 obtain ⟨hM, hkc⟩ := heap_kept (F := F) (w := w) (s := s) (s' := s') (μ := μ) (μ' := μ) (fun i hpi b base hm => by obtain ⟨i0, h1, h2, _⟩ := hback i hpi b base hm; exact ⟨i0, h1, h2⟩) hD (fun i => by
  rcases hall i with ⟨h0, h1⟩ | ⟨k, lo, len, hq, h0, h1⟩ | ⟨_, h1, h2⟩ | ⟨h1, h2, h3⟩
  ·rw [h1]; subst h0; rw [hx]
   exact ⟨Nat.le_succ _, fun hh => by simp only [Obj.stamp] at hh; omega⟩
  ·rw [h1]; subst h0
   rw [zBQ hl, hview_stamp]
   exact ⟨nR _, fun _ => .inr ⟨fun _ _ _ hh => (by cases hh), fun _ _ _ _ _ _ hh => (by cases hh)⟩⟩
  ·rw [h1, h2]
   exact ⟨nR _, fun _ => .inr ⟨fun _ _ _ hh => (by cases hh), fun _ _ _ _ _ _ hh => (by cases hh)⟩⟩
  ·rw [h2]; exact ⟨nR _, fun _ => .inl ⟨rfl, rfl⟩⟩)
 refine h.change (by rw [hs']) ?_ ?_ ?_ ?_ ?_ ⟨hl', hD, ?_⟩
 ·intro i b base hpi hm
  obtain ⟨i0, h1, h2, _, h3⟩ := hback i hpi b base hm
  exact ⟨i0, h1, h2, h3⟩
 ·intro i j b base base' hpi hpj hi hj
  obtain ⟨i0, i1, i2, i3, _⟩ := hback i hpi b base hi
  obtain ⟨j0, j1, j2, j3, _⟩ := hback j hpj b base' hj
  have := h.inj i0 j0 b base base' i1 j1 i2 j2
  subst this
  rcases i3 with ⟨i3, k, lo, len, hq, i4⟩ | ⟨i3, i4, _⟩ <;> rcases j3 with ⟨j3, k', lo', len', hq', j4⟩ | ⟨j3, j4, _⟩
  ·rw [hq] at hq'; injection hq' with hq'; injection hq' with hq' _; omega
  ·exact absurd (j3 ▸ i3) j4
  ·exact absurd (i3 ▸ j3) i4
  ·rw [<- i3, <- j3]
 ·intro i v x hv hxx
  exact RepV.map hkc (h.slots i v x (by rw [hs'] at hv; exact hv) hxx)
 ·intro i
  rcases hall i with ⟨h0, h1⟩ | ⟨k, lo, len, hq, h0, h1⟩ | ⟨_, h1, _⟩ | ⟨h1, h2, h3⟩
  ·rw [h1]; trivial
  ·rw [h1, h0]
   rw [<- (htk k lo len hq _ _ _ _ _ hx).2]
   refine ⟨hp, ?_⟩
   have hold := h.objs o
   rw [hx] at hold
   rcases hold with hold | ⟨b, base, cur, g1, g2, g3, g4⟩
   ·exact .inl hold
   ·exact .inr ⟨b, base, cur, g1, g2, g3, fun i x hxi => (g4 i x hxi).keep (Stp.refl _ _) (fun b _ hb => hM b hb) hD (Nat.zero_le _)⟩
  ·rw [h1]; trivial
  ·rw [h2]
   have := obj_mapF (tm := tm) (f := fun c => c) hkc rfl rfl hM hD (h.objs i)
   rwa [objId] at this
 ·intro i hi
  rcases hall i with ⟨h0, h1⟩ | ⟨k, lo, len, hq, h0, h1⟩ | ⟨_, h1, _⟩ | ⟨h1, h2, h3⟩
  ·rw [h1] at hi; cases hi
  ·rw [h1] at hi; cases hi
  ·rw [h1] at hi; cases hi
  ·rw [h2] at hi ⊢; exact h.home i hi
 ·intro o1 st1 x hm
  rw [hk'] at hm
  obtain ⟨t1, t2⟩ := h.taken o1 st1 x (by rw [hk]; exact .tail _ hm)
  rcases hall o1 with ⟨h0, h1⟩ | ⟨k, lo, len, hq, h0, h1⟩ | ⟨_, h1, h2⟩ | ⟨h1, h2, h3⟩
  ·rw [h1]; subst h0; rw [hx] at t1
   exact ⟨Nat.le_succ_of_le t1, fun _ _ _ _ _ _ _ _ _ hh => by cases hh⟩
  ·rw [h1]; subst h0
   rw [zBQ hl, hview_stamp] at t1
   exact ⟨t1, fun _ _ _ _ _ _ _ _ _ hh => by cases hh⟩
  ·rw [h1]; rw [h2] at t1
   exact ⟨t1, fun _ _ _ _ _ _ _ _ _ hh => by cases hh⟩
  ·rw [h2]
   refine ⟨t1, fun k lo len hq hm' fr' e' t' xs' hr => ?_⟩
   obtain ⟨g1, g2⟩ := t2 k lo len hq hm' fr' e' t' xs' hr
   exact ⟨by rw [hdl]; exact g1, g2⟩
theorem hisAt_spec {D : List HRow} {u : Ty} {k : Nat} (h : hisAt D u k = true) : ∃ e, ∃ xs : List u.den, D[k]? = some (.row e u xs) /\ hrowAt D u k = xs := by
 unfold hisAt at h
 unfold hrowAt
 split at h <;> try (cases h; done)
 rename_i e t xs hd
 have := Ty.eq_of_beq h
 subst this
 refine ⟨e, xs, hd, ?_⟩
 split
 ·rfl
 ·rename_i hh; rw [h] at hh; cases hh
theorem hfull_spec {D : List HRow} {e : Nat} {u : Ty} {k lo len : Nat} (h : hfull D e u (some (k, lo, len)) = true) : ∃ xs : List u.den, D[k]? = some (.row e u xs) /\ lo = 0 /\ len = xs.length /\ hcut D u (some (k, lo, len)) = xs := by
 simp only [hfull, bA] at h
 obtain ⟨h1, h2, h3, h4⟩ := h
 obtain ⟨e', xs, h5, h6⟩ := hisAt_spec h1
 have h3 := eB h3
 have h4 := eB h4
 rw [h6] at h4
 unfold hcodeAt at h2
 rw [h5] at h2
 have h2 := eB h2
 subst h2; subst h3; subst h4
 refine ⟨xs, h5, rfl, rfl, ?_⟩
 simp [hcut, h6]
def homeOf (μ : Nat -> Option (Nat × Nat)) : Hnd -> Option (Nat × Nat)
 | none => none
 | some (k, _, _) => μ (HP + 1 + k)
theorem take_core (h : RepM tm F μ s a w) {o n i st e : Nat} {t : Ty} {q : Hnd} {v : V} (ho : o < s.h.length) (hst : (s.obj o).stamp = st) (hp : t.pure = true) (hn : ∀ v0 : V, s.t[n]? = some v0 -> v0 = v) (hv : v.cells[i]? = some (.hnd t q))
  (hfl : hfull s.d e t q = true)
  (hs' : s' = { t := s.t.set n (setCell v i (.ref o (st + 1) .all)), h := s.h.set o (.row (st + 1) false false e t (hcut s.d t q)), d := hgone s.d q, k := (o, st + 1, q) :: s.k }) :
  Rep tm F s' a w := by
 have hl := h.hl
 have hhl : s'.h.length = s.h.length := by rw [hs']; simp
 have hl' : s'.h.length <= HP := by rw [hhl]; exact hl
 have hd : s'.d = hgone s.d q := by rw [hs']
 have hk' : s'.k = (o, st + 1, q) :: s.k := by rw [hs']
 have hdl : s'.d.length = s.d.length := by
  rw [hd]
  cases q with
  | none => rfl
  | some q => obtain ⟨k, lo, len⟩ := q; simp [hgone]
 obtain ⟨xs, hxs⟩ : ∃ xs, xs = hcut s.d t q := ⟨_, rfl⟩
 rw [<- hxs] at hs'
 obtain ⟨m, hm⟩ : ∃ m : Option (Nat × Nat), m = homeOf μ q := ⟨_, rfl⟩
 obtain ⟨μ', hμ⟩ : ∃ μ' : Nat -> Option (Nat × Nat), μ' = setMu μ o m := ⟨_, rfl⟩
 have hmo : μ' o = m := by rw [hμ]; simp [setMu]
 have hmu : ∀ j, j ≠ o -> μ' j = μ j := fun j hj => by rw [hμ]; simp [setMu, hj]
 have hlow : ∀ j, j < HP -> s'.obj j = if j = o then .row (st + 1) false false e t xs else s.obj j := by
  intro j hj
  by_cases h1 : j < s.h.length
  ·rw [zB9 (by rw [hhl]; exact h1)]
   subst hs'
   by_cases h2 : j = o
   ·subst h2; simp
   ·rw [if_neg h2, zB9 h1]; simp [List.getElem_set_ne (Ne.symm h2)]
  ·rw [zBR (by omega), zBR (by omega), zBg hj, zBg hj, if_neg (by omega)]
 have hsrc : ∀ k lo len, q = some (k, lo, len) -> s.d[k]? = some (.row e t xs) /\ lo = 0 /\ len = xs.length /\ s.obj (HP + 1 + k) = .hrow e t xs /\ k < s.d.length := by
  intro k lo len hq
  subst hq
  obtain ⟨ys, h1, h2, h3, h4⟩ := hfull_spec hfl
  rw [h4] at hxs
  subst hxs
  refine ⟨h1, h2, h3, by rw [zBQ hl, h1]; rfl, (List.getElem?_eq_some_iff.1 h1).1⟩
 have hall : ∀ j, (j = o /\ s'.obj j = .row (st + 1) false false e t xs) \/ (∃ k lo len, q = some (k, lo, len) /\ j = HP + 1 + k /\ s'.obj j = .absent 0 /\ s.obj j = .hrow e t xs) \/ (j = HP /\ s'.obj j = .heap s'.d s'.k /\ s.obj j = .heap s.d s.k) \/
   (j ≠ o /\ s'.obj j = s.obj j /\ ∀ k lo len, q = some (k, lo, len) -> j ≠ HP + 1 + k) := by
  intro j
  rcases zBm j with hj | rfl | ⟨n, rfl⟩
  ·rw [hlow j hj]
   by_cases hjo : j = o
   ·left; exact ⟨hjo, if_pos hjo⟩
   ·right; right; right; exact ⟨hjo, if_neg hjo, fun k _ _ _ => by omega⟩
  ·right; right; left; exact ⟨rfl, zBs hl', zBs hl⟩
  ·rw [zBQ hl', hd]
   cases q with
   | none => right; right; right; exact ⟨by omega, by rw [zBQ hl]; rfl, fun _ _ _ hh => by cases hh⟩
   | some q =>
    obtain ⟨k, lo, len⟩ := q
    obtain ⟨g1, _, _, g4, g5⟩ := hsrc k lo len rfl
    by_cases hkn : n = k
    ·subst hkn; right; left
     exact ⟨n, lo, len, rfl, rfl, by simp [hgone, g5, hview], g4⟩
    ·right; right; right
     refine ⟨by omega, ?_, fun k' lo' len' hh => ?_⟩
     ·rw [zBQ hl]; simp only [hgone]; rw [List.getElem?_set_ne (Ne.symm hkn)]
     ·injection hh with hh; injection hh with hh _; omega
 have hback : ∀ j, yv (s'.obj j) -> ∀ b base, μ' j = some (b, base) -> ∃ j0, yv (s.obj j0) /\ μ j0 = some (b, base) /\ ((j = o /\ ∃ k lo len, q = some (k, lo, len) /\ j0 = HP + 1 + k) \/ (j0 = j /\ j ≠ o /\ ∀ k lo len, q = some (k, lo, len) -> j ≠ HP + 1 + k)) /\ (zBh (s.obj j0) -> zBh (s'.obj j)) := by
  intro j hpj b base hj
  rcases hall j with ⟨h0, h1⟩ | ⟨k, lo, len, hq, h0, h1, _⟩ | ⟨_, h1, _⟩ | ⟨h1, h2, h3⟩
  ·subst h0
   rw [hmo, hm] at hj
   cases q with
   | none => cases hj
   | some q =>
    obtain ⟨k, lo, len⟩ := q
    obtain ⟨_, _, _, g4, _⟩ := hsrc k lo len rfl
    exact ⟨HP + 1 + k, by rw [g4]; trivial, hj, .inl ⟨rfl, k, lo, len, rfl, rfl⟩, fun _ => by rw [h1]; intro hh; cases hh⟩
  ·rw [h1] at hpj; exact hpj.elim
  ·rw [h1] at hpj; exact hpj.elim
  ·rw [h2] at hpj ⊢
   rw [hmu j h1] at hj
   exact ⟨j, hpj, hj, .inr ⟨rfl, h1, h3⟩, id⟩
 have hdynmu : ∀ k, μ' (HP + 1 + k) = μ (HP + 1 + k) := fun k => hmu _ (by omega)
 have hD : Dle (s.dl μ) (s'.dl μ') := by
  intro k m' hh
  simp only [S.dl] at hh ⊢
  rw [hdl, hdynmu]; exact hh
 obtain ⟨hM, hkc⟩ := heap_kept (F := F) (w := w) (s := s) (s' := s') (μ := μ) (μ' := μ') (fun i hpi b base hm => by obtain ⟨i0, h1, h2, _⟩ := hback i hpi b base hm; exact ⟨i0, h1, h2⟩) hD (fun j => by
  rcases hall j with ⟨h0, h1⟩ | ⟨k, lo, len, hq, h0, h1, h2⟩ | ⟨_, h1, h2⟩ | ⟨h1, h2, h3⟩
  ·rw [h1]; subst h0; rw [hst]
   exact ⟨Nat.le_succ _, fun hh => by simp only [Obj.stamp] at hh; omega⟩
  ·rw [h1, h2]
   exact ⟨nR _, fun _ => .inr ⟨fun _ _ _ hh => (by cases hh), fun _ _ _ _ _ _ hh => (by cases hh)⟩⟩
  ·rw [h1, h2]
   exact ⟨nR _, fun _ => .inr ⟨fun _ _ _ hh => (by cases hh), fun _ _ _ _ _ _ hh => (by cases hh)⟩⟩
  ·rw [h2]; exact ⟨nR _, fun _ => .inl ⟨rfl, hmu j h1⟩⟩)
 have hnewo : s'.obj o = .row (st + 1) false false e t xs := by rw [hlow o (by omega), if_pos rfl]
 have href : ∀ y, yl (s.cx μ w F) (.hnd t q) y -> yl (s'.cx μ' w F) (.ref o (st + 1) .all) y := by
  intro y hy
  have hsl : ∃ a n c, y = .slice a n c := by
   obtain ⟨a, n, c, hh⟩ := hnd_slice (M := (s.cx μ w F).M) (L := 0) hy
   injection hh with hh _
   exact ⟨a, n, c, hh⟩
  refine ⟨hsl, by show _ <= (s'.obj o).stamp; rw [hnewo]; exact nR _, fun hm2 fr2 ec2 t2 xs2 hx2 => ?_⟩
  have hx2 : s'.obj o = .row (st + 1) hm2 fr2 ec2 t2 xs2 := hx2
  rw [hnewo] at hx2
  injection hx2 with e1 e2 e3 e4 e5 e6
  subst e5
  have e6 := eq_of_heq e6
  subst e6
  refine ⟨trivial, ?_⟩
  show zCE w (μ' o) t.sz xs.length 0 xs.length y
  rw [hmo, hm]
  obtain ⟨y', hy1, hy2⟩ := hy
  injection hy1 with hy1 _
  subst hy1
  cases q with
  | none =>
   have : xs = [] := hxs
   subst this
   exact .inl ⟨rfl, rfl, hy2⟩
  | some q =>
   obtain ⟨k, lo, len⟩ := q
   obtain ⟨m', g1, g2⟩ := hy2
   obtain ⟨_, rfl, rfl, _, g5⟩ := hsrc k lo len rfl
   simp only [S.cx, S.dl] at g1
   rw [if_pos g5] at g1
   injection g1 with g1
   rw [<- g1] at g2
   exact g2.less (by omega)
 refine ⟨μ', h.change (by rw [hs']; simp) ?_ ?_ ?_ ?_ ?_ ⟨hl', hD, ?_⟩⟩
 ·intro i b base hpi hm
  obtain ⟨i0, h1, h2, _, h3⟩ := hback i hpi b base hm
  exact ⟨i0, h1, h2, h3⟩
 ·intro i j b base base' hpi hpj hi hj
  obtain ⟨i0, i1, i2, i3, _⟩ := hback i hpi b base hi
  obtain ⟨j0, j1, j2, j3, _⟩ := hback j hpj b base' hj
  have := h.inj i0 j0 b base base' i1 j1 i2 j2
  subst this
  rcases i3 with ⟨i3, k, lo, len, hq, i4⟩ | ⟨i3, i4, i5⟩ <;> rcases j3 with ⟨j3, k', lo', len', hq', j4⟩ | ⟨j3, j4, j5⟩
  ·rw [i3, j3]
  ·exact absurd (j3.symm.trans i4) (j5 k lo len hq)
  ·exact absurd (i3.symm.trans j4) (i5 k' lo' len' hq')
  ·rw [<- i3, <- j3]
 ·intro j u x hu hxx
  rw [hs'] at hu
  simp only [] at hu
  by_cases hjn : n = j
  ·subst hjn
   have hlt : n < s.t.length := by have := (List.getElem?_eq_some_iff.1 hu).1; simpa using this
   rw [List.getElem?_set_self hlt] at hu
   injection hu with hu; subst hu
   have hn1 := hn _ (List.getElem?_eq_getElem hlt)
   have := h.slots n v x (by rw [<- hn1]; exact List.getElem?_eq_getElem hlt) hxx
   -- in the old context first: the handle; then the reference
   cases v with
   | one c0 =>
    cases i with
    | zero =>
     simp only [V.cells, List.getElem?_cons_zero, Option.some.injEq] at hv
     subst hv
     exact href _ this
    | succ i => simp [V.cells] at hv
   | agg cs =>
    obtain ⟨vs, rfl, hcs⟩ := this
    simp only [V.cells] at hv
    have hi : i < cs.length := (List.getElem?_eq_some_iff.1 hv).1
    have hvi : i < vs.length := by rw [<- hcs.len]; exact hi
    refine ⟨vs, rfl, ?_⟩
    have h1 := zi.get i hcs hv (List.getElem?_eq_getElem hvi)
    have := zi.set i (zi.map hkc hcs) (href _ h1)
    rwa [List.set_getElem_self] at this
   | tup l => simp [V.cells] at hv
   | junk => simp [V.cells] at hv
  ·rw [List.getElem?_set_ne hjn] at hu
   exact RepV.map hkc (h.slots j u x hu hxx)
 ·intro j
  rcases hall j with ⟨h0, h1⟩ | ⟨k, lo, len, hq, h0, h1, _⟩ | ⟨_, h1, _⟩ | ⟨h1, h2, h3⟩
  ·rw [h1, h0, hmo, hm]
   cases q with
   | none => exact .inl ⟨rfl, hxs⟩
   | some q =>
    obtain ⟨k, lo, len⟩ := q
    obtain ⟨_, _, _, g4, _⟩ := hsrc k lo len rfl
    have hold := h.objs (HP + 1 + k)
    rw [g4] at hold
    obtain ⟨_, hold⟩ := hold
    rcases hold with hold | ⟨b, base, cur, g1, g2, g3, g4⟩
    ·exact .inl hold
    ·exact .inr ⟨b, base, cur, g1, g2, g3, fun i x hxi => (g4 i x hxi).keep (Stp.refl _ _) (fun b _ hb => hM b hb) hD (by simp [Cx.L])⟩
  ·rw [h1]; trivial
  ·rw [h1]; trivial
  ·rw [h2, hmu j h1]
   have := obj_mapF (tm := tm) (f := fun c => c) hkc rfl rfl hM hD (h.objs j)
   rwa [objId] at this
 ·intro j hj
  rcases hall j with ⟨h0, h1⟩ | ⟨k, lo, len, hq, h0, h1, _⟩ | ⟨_, h1, _⟩ | ⟨h1, h2, h3⟩
  ·rw [h1] at hj; cases hj
  ·rw [h1] at hj; cases hj
  ·rw [h1] at hj; cases hj
  ·rw [h2] at hj ⊢; rw [hmu j h1]; exact h.home j hj
 ·intro o1 st1 x hmem
  rw [hk'] at hmem
  cases hmem with
  | head =>
   rw [hnewo]
   refine ⟨nR _, fun k lo len hq _ _ _ _ _ _ => ?_⟩
   obtain ⟨_, _, _, _, g5⟩ := hsrc k lo len hq
   refine ⟨by rw [hdl]; exact g5, ?_⟩
   rw [hmo, hdynmu, hm, hq]; rfl
  | tail _ hmem =>
   obtain ⟨t1, t2⟩ := h.taken o1 st1 x hmem
   rcases hall o1 with ⟨h0, h1⟩ | ⟨k, lo, len, hq, h0, h1, h2⟩ | ⟨_, h1, h2⟩ | ⟨h1, h2, h3⟩
   ·rw [h1]; subst h0; rw [hst] at t1
    refine ⟨Nat.le_succ_of_le t1, fun _ _ _ _ _ _ _ _ _ hh => ?_⟩
    injection hh with hh
    omega
   ·rw [h1]; rw [h2] at t1
    exact ⟨t1, fun _ _ _ _ _ _ _ _ _ hh => by cases hh⟩
   ·rw [h1]; rw [h2] at t1
    exact ⟨t1, fun _ _ _ _ _ _ _ _ _ hh => by cases hh⟩
   ·rw [h2]
    refine ⟨t1, fun k lo len hq hm' fr' e' t' xs' hr => ?_⟩
    obtain ⟨g1, g2⟩ := t2 k lo len hq hm' fr' e' t' xs' hr
    exact ⟨by rw [hdl]; exact g1, by rw [hmu o1 h1, hdynmu, g2]⟩
end
end Go.Kb
/- Regions: the text's operations in their order, and in any order that the language leaves open. -/
namespace Go.Kb
theorem call_kind {k : XK} {look : Nat -> Obj} {vs : List V} {c : Bool} {g : Nat} {inp : List Cell} {D : List HRow} {fin : List Cell -> List HRow -> Option (V × List (Nat × Obj))} (h : k.eval look vs = .call c g inp D fin) : isCall k = true := by
 cases k with
 | call c => rfl
 | callH f c => rfl
 | _ =>
  simp only [XK.eval, E.move, E.pick, E.nilck, E.bin, E.eqBool, E.eqAgg, E.not, E.neg, E.conv, E.b2s, E.extract, E.field, E.fieldAddr, E.indexAddr, E.strIndex, E.load, E.store, E.box, E.alloc, E.build, E.buildSlice, E.makeSlice, E.append,
   E.appendDel, E.slice, E.strSlice, E.len, E.strLen, E.max, E.min] at h <;> (repeat' split at h) <;> cases h
theorem call_done {k : XK} {look : Nat -> Obj} {vs : List V} {c : Bool} {v : V} {u : List (Nat × Obj)} (h : k.eval look vs = .done c v u) : isCall k = false := by
 cases hk : isCall k with
 | false => rfl
 | true =>
  cases k <;> try (cases hk; done)
  ·simp only [XK.eval, E.call] at h; (repeat' split at h) <;> cases h
  ·simp only [XK.eval, E.callH] at h; (repeat' split at h) <;> cases h
theorem ups_put (u : List (Nat × Obj)) (s : S) (d : Option Nat) (v : V) : (s.put d v).ups u = (s.ups u).put d v := by
 induction u generalizing s with
 | nil => rfl
 | cons p r ih =>
  obtain ⟨o, x⟩ := p
  have h0 : (s.put d v).setO o x = (s.setO o x).put d v := by
   unfold S.setO
   cases Nat.beq o HP <;> cases d <;> rfl
  simp only [S.ups]
  rw [h0, ih]
theorem ups_app : ∀ (a b : List (Nat × Obj)) (s : S), s.ups (a ++ b) = (s.ups a).ups b
 | [], _, _ => rfl
 | (o, x) :: r, b, s => by simp only [List.cons_append, S.ups]; exact ups_app r b _
theorem latest_obj : ∀ (u : List (Nat × Obj)) (look : Nat -> Obj) (s : S) (i : Nat), i < s.h.length -> i ≠ HP -> look i = s.obj i -> latest look u i = (s.ups u).obj i
 | [], look, s, i, _, _, h => h
 | (m, x) :: r, look, s, i, hi, hp, h => by
  simp only [latest, S.ups]
  refine latest_obj r _ _ i (by rw [setO_h]; exact hi) hp ?_
  by_cases hm : m = HP
  ·subst hm
   rw [setO_HP]
   have : Nat.beq i HP = false := by
    cases hb : Nat.beq i HP with
    | false => rfl
    | true => exact absurd (eB hb) hp
   rw [this, h, zB9 hi, zB9 (s := { s with d := hrows x, k := htaken x }) hi]
  ·rw [zBz hm]
   by_cases him : i = m
   ·subst him
    rw [show Nat.beq i i = true from Nat.beq_refl i, setObj_obj s hi, if_pos rfl]
   ·have : Nat.beq i m = false := by
     cases hb : Nat.beq i m with
     | false => rfl
     | true => exact absurd (eB hb) him
    rw [this, h, zB9 hi, zB9 (by simpa [S.setObj] using hi)]
    simp [S.setObj, List.getElem_set_ne (Ne.symm him)]
theorem latest_HP : ∀ (u : List (Nat × Obj)) (look : Nat -> Obj) (s : S), hrows (look HP) = s.d -> htaken (look HP) = s.k -> hrows (latest look u HP) = (s.ups u).d /\ htaken (latest look u HP) = (s.ups u).k
 | [], look, s, h1, h2 => ⟨h1, h2⟩
 | (m, x) :: r, look, s, h1, h2 => by
  simp only [latest, S.ups]
  refine latest_HP r _ _ ?_ ?_
  ·by_cases hm : m = HP
   ·subst hm
    rw [show Nat.beq HP HP = true from Nat.beq_refl HP, setO_HP]
   ·have : Nat.beq HP m = false := by
     cases hb : Nat.beq HP m with
     | false => rfl
     | true => exact absurd (eB hb).symm hm
    rw [this, zBz hm]; exact h1
  ·by_cases hm : m = HP
   ·subst hm
    rw [show Nat.beq HP HP = true from Nat.beq_refl HP, setO_HP]
   ·have : Nat.beq HP m = false := by
     cases hb : Nat.beq HP m with
     | false => rfl
     | true => exact absurd (eB hb).symm hm
    rw [this, zBz hm]; exact h2
theorem put_put (s : S) (n : Nat) (v v' : V) : (s.put (some n) v).put (some n) v' = s.put (some n) v' := by simp [S.put]
theorem post_rep {tm : Nat -> TypeId} {F : Fx} {x : XOp} {s : S} {p0 p : V × List (Nat × Obj)} {a : Act} {w : World} (hok : postOk s.h.length x = true) (hpo : postO x (x.look s) p0 = some p) (h : Rep tm F (s.eff x p0) a w) : Rep tm F (s.eff x p) a w := by
 obtain ⟨v, u⟩ := p0
 unfold postO at hpo
 unfold postOk at hok
 have hHP : s.h.length <= HP := by
  obtain ⟨μ, h⟩ := h
  have := h.hl
  rwa [eff_len] at this
 cases hx : x.post with
 | none =>
  rw [hx] at hpo
  injection hpo with hpo
  subst hpo
  exact h
 | pub o =>
  rw [hx] at hpo hok
  simp only [bA] at hok
  obtain ⟨k1, k2, k3, k4⟩ := hok
  have k1 : o < s.h.length := by simpa using k1
  obtain ⟨n, hn⟩ := Option.isSome_iff_exists.1 k4
  simp only [postRun] at hpo
  split at hpo <;> try (cases hpo; done)
  rename_i b v' u' hrun
  split at hrun <;> try (cases hrun; done)
  rename_i st fr e t xs D K hlo hlh
  split at hrun <;> try (cases hrun; done)
  rename_i hpure
  injection hrun with hrun
  injection hrun with hb hrun
  injection hrun with hv hu
  subst hb; subst hv; subst hu
  simp only [cond_true] at hpo
  injection hpo with hpo
  subst hpo
  obtain ⟨s1, hs1⟩ : ∃ s1, s1 = s.eff x (v, u) := ⟨_, rfl⟩
  rw [<- hs1] at h
  obtain ⟨μ, h⟩ := h
  have e1 : s1 = (s.ups u).put (some n) v := by rw [hs1]; simp only [S.eff]; rw [ups_put, hn]
  have hlen : s1.h.length = s.h.length := by rw [e1, put_h, ups_len]
  have hobj : s1.obj o = .row st false fr e t xs := by
   rw [e1, put_obj, <- latest_obj u (x.look s) s o k1 (by omega) (by simp [XOp.look, k2]), hlo]
  have hDK := latest_HP u (x.look s) s (by simp only [XOp.look, k3, cond_true]; rw [zBs hHP]; rfl) (by simp only [XOp.look, k3, cond_true]; rw [zBs hHP]; rfl)
  rw [hlh] at hDK
  have hD : D = s1.d := by rw [e1, put_d]; exact hDK.1
  have hK : K = s1.k := by rw [e1, put_k]; exact hDK.2
  have e2 : s.eff x (mapCell (zBu o st D.length xs.length t) v, u ++ [(o, .absent (st + 1)), (HP, .heap (D ++ [.row e t xs]) K)]) =
    { t := s1.t.set n (mapCell (zBu o st s1.d.length xs.length t) v), h := s1.h.set o (.absent (st + 1)), d := s1.d ++ [.row e t xs], k := s1.k } := by
   simp only [S.eff]
   rw [ups_app, ups_put, hn]
   simp only [S.ups]
   rw [zBz (show o ≠ HP by omega), setO_HP, <- hD, <- hK]
   have : (s.ups u).put (some n) (mapCell (zBu o st D.length xs.length t) v) = s1.put (some n) (mapCell (zBu o st D.length xs.length t) v) := by rw [e1, put_put]
   rw [this]
   rfl
  rw [e2]
  refine ⟨_, pub_core (f := fun c => c) h hobj hpure (.inl fun _ => rfl) ?_ (by simp) rfl rfl (by simp) ?_⟩
  ·intro i hi
   have hob := setH_obj s1 o (.absent (st + 1)) i
   rw [objId]
   have e3 : (S.obj { t := s1.t.set n (mapCell (zBu o st s1.d.length xs.length t) v), h := s1.h.set o (.absent (st + 1)), d := s1.d ++ [.row e t xs], k := s1.k } i) = S.obj { s1 with h := s1.h.set o (.absent (st + 1)) } i := by
    by_cases h1 : i < s1.h.length
    ·rw [zB9 (by simpa using h1), zB9 (by simpa using h1)]
    ·rw [zBR (by simp; omega), zBR (by simp; omega), zBg hi, zBg hi]
   rw [e3, hob]
   by_cases hio : i = o
   ·rw [if_pos hio, if_pos ⟨hio, by omega⟩]
   ·rw [if_neg hio, if_neg fun hh => hio hh.1]
  ·intro i v' hv'
   simp only [] at hv'
   by_cases hin : n = i
   ·subst hin
    have hlt : n < s1.t.length := by have := (List.getElem?_eq_some_iff.1 hv').1; simpa using this
    rw [List.getElem?_set_self hlt] at hv'
    injection hv' with hv'
    refine ⟨v, ?_, .inr hv'.symm⟩
    rw [e1] at hlt ⊢
    simp only [S.put, List.length_set] at hlt ⊢
    exact List.getElem?_set_self hlt
   ·rw [List.getElem?_set_ne hin] at hv'
    exact ⟨v', hv', .inl rfl⟩
 | take o e i =>
  rw [hx] at hpo hok
  simp only [bA] at hok
  obtain ⟨k1, k2, k3, k4⟩ := hok
  have k1 : o < s.h.length := by simpa using k1
  obtain ⟨n, hn⟩ := Option.isSome_iff_exists.1 k4
  simp only [postRun] at hpo
  split at hpo <;> try (cases hpo; done)
  rename_i b v' u' hrun
  split at hrun <;> try (cases hrun; done)
  rename_i t q D K hha hlh
  split at hrun <;> try (cases hrun; done)
  rename_i hpure
  injection hrun with hrun
  injection hrun with hb hrun
  injection hrun with hv hu
  subst hb; subst hv; subst hu
  cases hfl : hfull D e t q with
  | false => rw [hfl] at hpo; cases hpo
  | true =>
  rw [hfl] at hpo
  simp only [cond_true] at hpo
  injection hpo with hpo
  subst hpo
  obtain ⟨s1, hs1⟩ : ∃ s1, s1 = s.eff x (v, u) := ⟨_, rfl⟩
  rw [<- hs1] at h
  obtain ⟨μ, h⟩ := h
  have e1 : s1 = (s.ups u).put (some n) v := by rw [hs1]; simp only [S.eff]; rw [ups_put, hn]
  have hlen : s1.h.length = s.h.length := by rw [e1, put_h, ups_len]
  have hobj : s1.obj o = latest (x.look s) u o := by
   rw [e1, put_obj, <- latest_obj u (x.look s) s o k1 (by omega) (by simp [XOp.look, k2])]
  have hDK := latest_HP u (x.look s) s (by simp only [XOp.look, k3, cond_true]; rw [zBs hHP]; rfl) (by simp only [XOp.look, k3, cond_true]; rw [zBs hHP]; rfl)
  rw [hlh] at hDK
  have hD : D = s1.d := by rw [e1, put_d]; exact hDK.1
  have hK : K = s1.k := by rw [e1, put_k]; exact hDK.2
  rw [<- hobj, hD, hK]
  rw [hD] at hfl
  refine take_core (s := s1) (o := o) (n := n) (i := i) (v := v) (e := e) h (by omega) rfl hpure ?_ ?_ hfl ?_
  ·intro v0 hv0
   rw [e1] at hv0
   simp only [S.put] at hv0
   have hlt : n < (s.ups u).t.length := by have := (List.getElem?_eq_some_iff.1 hv0).1; simpa using this
   rw [List.getElem?_set_self hlt] at hv0
   injection hv0 with hv0
   exact hv0.symm
  ·unfold hndAt at hha
   split at hha <;> try (cases hha; done)
   rename_i t' q' hh
   injection hha with hha
   injection hha with h1 h2
   subst h1; subst h2
   exact hh
  ·simp only [S.eff]
   rw [ups_app, ups_put, hn]
   simp only [S.ups]
   rw [zBz (show o ≠ HP by omega), setO_HP]
   have : (s.ups u).put (some n) (setCell v i (.ref o ((s1.obj o).stamp + 1) .all)) = s1.put (some n) (setCell v i (.ref o ((s1.obj o).stamp + 1) .all)) := by rw [e1, put_put]
   rw [this]
   rfl
section
variable {E : Env1} {F : Fx} {fs : Nat -> FS} {nobj : Nat}
theorem does_base (heqT : ∀ T t, E.eqT T t = true -> eqTB E.P T t = true) (hcall : CallOk E F fs nobj) {o : Oper} {x : XOp} {s : S} {p : V × List (Nat × Obj)} (hpost : x.post = .none) (hHP : s.h.length <= HP) (hok : opOk E nobj o x = true) (hn : s.h.length = nobj) (hb : x.bodyO fs s = some p) :
  Does E.P E.tm F o s (s.eff x p) := by
 have hb' := hb
 unfold XOp.bodyO at hb
 split at hb
 ·cases hb
 ·rename_i c v u hres
  cases c
  ·cases hb
  ·simp only [cond_true] at hb
   obtain ⟨q, hq, hb⟩ := zBL hb
   unfold postO at hb
   rw [hpost] at hb
   injection hb with hb
   subst hb
   obtain ⟨rfl, hu⟩ := chk_some hq
   subst hn
   exact does_done heqT hHP (call_done hres) hok hres hu
 ·rename_i c g inp D fin hres
  exact hcall o x (call_kind hres) hpost hok s p hn hb'
theorem body_split {x : XOp} {s : S} {p : V × List (Nat × Obj)} (h : x.bodyO fs s = some p) : ∃ p0, x.base.bodyO fs s = some p0 /\ upsIn x.wo p0.2 = true /\ postO x (x.look s) p0 = some p := by
 have key : ∀ q, chk2 x s q = some p -> ∃ p0, chk2 x.base s q = some p0 /\ upsIn x.wo p0.2 = true /\ postO x (x.look s) p0 = some p := by
  intro q hq
  obtain ⟨p0, h1, h2⟩ := zBL hq
  obtain ⟨rfl, hu⟩ := chk_some h1
  refine ⟨p0, ?_, hu, h2⟩
  show bindO (chk x.base p0) (postO x.base (x.look s)) = some p0
  have : chk x.base p0 = some p0 := h1
  rw [this]; rfl
 have hres : x.base.res s = x.res s := rfl
 unfold XOp.bodyO at h ⊢
 rw [hres]
 cases hr : x.res s with
 | bad => rw [hr] at h; cases h
 | done c v u =>
  rw [hr] at h
  cases c
  ·cases h
  ·exact key _ h
 | call c g inp D fin =>
  rw [hr] at h
  cases c
  ·cases h
  ·simp only [cond_true] at h ⊢
   obtain ⟨out, h1, h⟩ := zBL h
   obtain ⟨q, h2, h⟩ := zBL h
   obtain ⟨p0, h3, h4⟩ := key q h
   exact ⟨p0, by rw [h1]; simp only [bindO]; rw [h2]; exact h3, h4⟩
theorem does_body (heqT : ∀ T t, E.eqT T t = true -> eqTB E.P T t = true) (hcall : CallOk E F fs nobj) {o : Oper} {x : XOp} {s : S} {p : V × List (Nat × Obj)} (hHP : s.h.length <= HP) (hok : opOk E nobj o x = true) (hn : s.h.length = nobj) (hb : x.bodyO fs s = some p) :
  Does E.P E.tm F o s (s.eff x p) := by
 obtain ⟨p0, h1, _, h3⟩ := body_split hb
 have hok' : opOk E nobj o x.base = true := by
  unfold opOk at hok ⊢
  simp only [bA] at hok ⊢
  exact ⟨hok.1, rfl, hok.2.2⟩
 have hpo : postOk s.h.length x = true := by
  unfold opOk at hok
  simp only [bA] at hok
  rw [hn]; exact hok.2.1
 have := does_base heqT hcall (x := x.base) rfl hHP hok' hn h1
 intro a w Q hr
 refine Oper.wp_mono ?_ (this a w Q hr)
 intro a' w' hr'
 exact post_rep hpo h3 hr'
theorem slot_rep {tm : Nat -> TypeId} {μ : Nat -> Option (Nat × Nat)} {s : S} {a : Act} {w : World} (h : RepM tm F μ s a w) (n : Nat) : s.slot n = .junk \/ ∃ y, a.tmps[n]? = some y /\ RepV (s.cx μ w F) (s.slot n) y := by
 by_cases hlt : n < s.t.length
 ·right
  have h1 : s.t[n]? = some s.t[n] := List.getElem?_eq_getElem hlt
  have h2 : a.tmps[n]? = some (a.tmps[n]'(by rw [h.size]; exact hlt)) := Array.getElem?_eq_getElem (by rw [h.size]; exact hlt)
  refine ⟨_, h2, ?_⟩
  have := h.slots n _ _ h1 h2
  simp only [S.slot, List.getD_eq_getElem?_getD, h1, Option.getD_some]
  exact this
 ·left
  simp only [S.slot, List.getD_eq_getElem?_getD, List.getElem?_eq_none (Nat.le_of_not_lt hlt), Option.getD_none]
theorem op_wp (heqT : ∀ T t, E.eqT T t = true -> eqTB E.P T t = true) (hcall : CallOk E F fs nobj) {ops : Array Oper} {i : Nat} {o : Oper} {x : XOp} {s : S} {p : V × List (Nat × Obj)} {a : Act} {w : World} {K : Act -> World -> Prop} {Q : Exit -> Act -> World -> Prop}
  (hi : ops[i]? = some o) (hok : opOk E nobj o x = true) (hg : guardOk ops o x = true) (hn : s.h.length = nobj) (hd : x.dec fs s = some p) (hr : Rep E.tm F s a w)
  (hK : ∀ a' w', Rep E.tm F (s.eff x p) a' w' -> K a' w') : wpOp E.P ops Q i K a w := by
 unfold wpOp
 simp only [hi]
 have hdst : o.dst = x.dst := by
  unfold opOk at hok
  simp only [bA] at hok
  simpa using hok.1
 have want : Region.wanted o (yielded ops a.tmps) = true -> x.bodyO fs s = some p ->
   (if Region.wanted o (yielded ops a.tmps) = true then o.wp E.P a w K Q \/ (o.asks E.P a w /\ LetsOut Q) else K (a.put o.dst undef) w) := by
  intro hw hb
  rw [if_pos hw]
  exact .inl (Oper.wp_mono hK (does_body heqT hcall (by obtain ⟨μ, hr⟩ := hr; exact hr.hl) hok hn hb a w Q hr))
 have skip : Region.wanted o (yielded ops a.tmps) = false -> p = (.tup [], []) ->
   (if Region.wanted o (yielded ops a.tmps) = true then o.wp E.P a w K Q \/ (o.asks E.P a w /\ LetsOut Q) else K (a.put o.dst undef) w) := by
  intro hw hp
  rw [if_neg (by rw [hw]; decide)]
  subst hp
  obtain ⟨μ, hr⟩ := hr
  refine hK _ _ ⟨μ, ?_⟩
  simp only [S.eff, S.ups]
  rw [<- hdst]
  exact hr.put o.dst (undef_rep _)
 unfold XOp.dec at hd
 unfold guardOk at hg
 split at hg
 ·rename_i h1 h2
  rw [h2] at hd
  exact want (by simp [Region.wanted, h1]) hd
 ·rename_i j w1 g w2 h1 h2
  rw [h2] at hd
  simp only [bA] at hg
  obtain ⟨hw, hg⟩ := hg
  have hw : w1 = w2 := by simpa using hw
  subst hw
  split at hg <;> try (cases hg; done)
  rename_i d hdd
  have hg := eB hg
  subst hg
  have hy : yielded ops a.tmps j = (match a.tmps[d]? with | some (.bool b) => some b | _ => none) := by
   unfold yielded; rw [hdd]; rfl
  simp only [] at hd
  obtain ⟨μ, hr'⟩ := hr
  rcases slot_rep hr' d with hj | ⟨y, h3, h4⟩
  ·rw [hj] at hd; cases hd
  ·split at hd
   ·rename_i b hs
    rw [hs] at h4
    have h4 : y = .bool b := h4
    subst h4
    rw [h3] at hy
    cases hb : (b == w1)
    ·rw [hb] at hd
     injection hd with hd
     refine skip ?_ hd.symm
     simp only [Region.wanted, h1, hy]
     cases b <;> cases w1 <;> first | rfl | cases hb
    ·rw [hb] at hd
     refine want ?_ hd
     simp only [Region.wanted, h1, hy]
     cases b <;> cases w1 <;> first | rfl | cases hb
   ·rename_i hs
    rw [hs] at h4
    obtain ⟨vs, rfl, _⟩ := h4
    rw [h3] at hy
    injection hd with hd
    refine skip ?_ hd.symm
    simp only [Region.wanted, h1, hy]
    cases w1 <;> rfl
   ·cases hd
 ·cases hg
def opsOk (E : Env1) (nobj : Nat) (ops : Array Oper) : List Oper -> List XOp -> Bool
 | [], [] => true
 | o :: os, x :: xs => opOk E nobj o x && (guardOk ops o x && opsOk E nobj ops os xs)
 | _, _ => false
theorem opsOk_get {ops : Array Oper} : ∀ {os : List Oper} {xs : List XOp}, opsOk E nobj ops os xs = true -> os.length = xs.length /\
  ∀ (i : Nat) (o : Oper) (x : XOp), os[i]? = some o -> xs[i]? = some x -> opOk E nobj o x = true /\ guardOk ops o x = true
 | [], [], _ => ⟨rfl, fun i o x h => by simp at h⟩
 | o :: os, x :: xs, h => by
  simp only [opsOk, bA] at h
  obtain ⟨h1, h2⟩ := opsOk_get h.2.2
  refine ⟨by simp [h1], fun i p y hp hy => ?_⟩
  cases i with
  | zero => simp at hp hy; subst hp; subst hy; exact ⟨h.1, h.2.1⟩
  | succ i => exact h2 i p y (by simpa using hp) (by simpa using hy)
 | [], _ :: _, h => by simp [opsOk] at h
 | _ :: _, [], h => by simp [opsOk] at h
def runIdx {R : Type} (fs : Nat -> FS) (xs : List XOp) : List Nat -> S -> (S -> Option R) -> Option R
 | [], s, k => k s
 | i :: l, s, k => match xs[i]? with
  | some x => bindO (x.dec fs s) fun p => runIdx fs xs l (s.eff x p) k
  | none => none
theorem opsK_idx {R : Type} (xs : List XOp) (k : S -> Option R) : ∀ (ys : List XOp) (n : Nat) (s : S), xs.drop n = ys -> opsK (envOf fs) ys s k = runIdx fs xs (List.range' n ys.length) s k := by
 intro ys
 induction ys with
 | nil => intro n s _; rfl
 | cons y r ih =>
  intro n s h
  have h1 : xs[n]? = some y := by
   have := congrArg (fun l => l[0]?) h
   simpa using this
  have h2 : xs.drop (n + 1) = r := by
   rw [<- List.drop_drop, h]; rfl
  simp only [opsK, XOp.stepK_eq, List.length_cons, List.range'_succ, runIdx, h1]
  congr 1
  funext p
  exact ih (n + 1) _ h2
theorem run_wp {R : Type} (heqT : ∀ T t, E.eqT T t = true -> eqTB E.P T t = true) (hcall : CallOk E F fs nobj) {ops : Array Oper} {xs : List XOp} (hok : opsOk E nobj ops ops.toList xs = true) {k : S -> Option R} {r : R} {Q : Exit -> Act -> World -> Prop}
  (hQ : ∀ s a w, s.h.length = nobj -> Rep E.tm F s a w -> k s = some r -> Q .normal a w) :
  ∀ (l : List Nat) (s : S) (a : Act) (w : World), runIdx fs xs l s k = some r -> s.h.length = nobj -> Rep E.tm F s a w -> wpOps E.P ops Q l a w := by
 obtain ⟨hlen, hget⟩ := opsOk_get hok
 intro l
 induction l with
 | nil => intro s a w h hn hr; exact hQ s a w hn hr h
 | cons i l ih =>
  intro s a w h hn hr
  unfold runIdx at h
  split at h
  ·rename_i x hx
   obtain ⟨p, hp, h⟩ := zBL h
   have hi : i < ops.toList.length := by rw [hlen]; exact (List.getElem?_eq_some_iff.1 hx).1
   have ho : ops.toList[i]? = some ops.toList[i] := List.getElem?_eq_getElem hi
   obtain ⟨h1, h2⟩ := hget i _ x ho hx
   rw [wpOps_cons]
   exact op_wp heqT hcall (by simp) h1 h2 hn hp hr fun a' w' hr' => ih _ a' w' h (by rw [eff_len]; exact hn) hr'
  ·cases h
theorem region_seq {R : Type} (heqT : ∀ T t, E.eqT T t = true -> eqTB E.P T t = true) (hcall : CallOk E F fs nobj) {ops : Array Oper} {xs : List XOp} (hok : opsOk E nobj ops ops.toList xs = true) {k : S -> Option R} {r : R} {Q : Exit -> Act -> World -> Prop} {id : Nat}
  (hQ : ∀ s a w, s.h.length = nobj -> Rep E.tm F s a w -> k s = some r -> Q .normal a w) {s : S} {a : Act} {w : World} (h : opsK (envOf fs) xs s k = some r) (hn : s.h.length = nobj) (hr : Rep E.tm F s a w) :
  (Code.region id ops false).wp E.P Q a w := by
 refine wp_region ?_
 rw [opsK_idx xs k xs 0 s rfl] at h
 have hl : xs.length = ops.size := by rw [<- (opsOk_get hok).1]; simp
 rw [List.range_eq_range', <- hl]
 exact run_wp heqT hcall hok hQ _ s a w h hn hr
end
end Go.Kb
/- Regions whose order is drawn. -/
namespace Go.Kb
def XArg.slots : XArg -> List Nat
 | .slot n => [n]
 | .const _ => []
def XOp.uses (x : XOp) : List Nat := (match x.guard with | some (g, _) => [g] | none => []) ++ x.args.flatMap XArg.slots
def postObjs : XPost -> List Nat
 | .none => []
 | .pub o => [o, HP]
 | .take o _ _ => [o, HP]
def XOp.wos (x : XOp) : List Nat := x.wo ++ postObjs x.post
def leHP : List Nat -> Bool
 | [] => true
 | n :: r => Nat.ble n HP && leHP r
def disj : List Nat -> List Nat -> Bool
 | [], _ => true
 | n :: r, l => !memb n l && disj r l
def apartX (x y : XOp) : Bool :=
 (match x.dst with
  | some d => !memb d y.uses && (match y.dst with | some e => !Nat.beq d e | none => true)
  | none => true) &&
 ((match y.dst with
   | some d => !memb d x.uses
   | none => true) &&
  (disj x.wos y.ro && (disj x.wos y.wos && (disj y.wos x.ro && (leHP x.ro && leHP y.ro)))))
theorem zBd {n : Nat} : ∀ {l : List Nat}, memb n l = true ↔ n ∈ l
 | [] => by simp [memb]
 | m :: r => by simp [memb, zBd (l := r)]
theorem disj_spec {n : Nat} : ∀ {l r : List Nat}, disj l r = true -> n ∈ l -> n ∉ r
 | m :: l, r, h, hn, hr => by
  simp only [disj, bA, Bool.not_eq_true'] at h
  cases hn with
  | head => rw [zBd.2 hr] at h; cases h.1
  | tail _ hn => exact disj_spec h.2 hn hr
section
variable {fs : Nat -> FS}
theorem dec_congr {x : XOp} {s s' : S} (h1 : ∀ n, n ∈ x.uses -> s.slot n = s'.slot n) (h2 : ∀ o, o ∈ x.ro -> s.obj o = s'.obj o) : x.dec fs s = x.dec fs s' := by
 have hargs : ∀ (l : List XArg), (∀ n, n ∈ l.flatMap XArg.slots -> s.slot n = s'.slot n) -> zCG s l = zCG s' l := by
  intro l
  induction l with
  | nil => intro _; rfl
  | cons a r ih =>
   intro h
   simp only [zCG]
   rw [ih fun n hn => h n (by simp only [List.flatMap_cons, List.mem_append]; exact .inr hn)]
   congr 1
   cases a with
   | const v => rfl
   | slot n => exact h n (by simp [XArg.slots])
 have hlook : x.look s = x.look s' := by
  funext o
  unfold XOp.look
  cases hm : memb o x.ro
  ·simp only [cond_false]
  ·simp only [cond_true]; exact h2 o (zBd.1 hm)
 have hres : x.res s = x.res s' := by
  unfold XOp.res
  rw [hlook, hargs x.args fun n hn => h1 n (by unfold XOp.uses; exact List.mem_append.2 (.inr hn))]
 have hchk : chk2 x s = chk2 x s' := by funext p; unfold chk2; rw [hlook]
 have hbody : x.bodyO fs s = x.bodyO fs s' := by unfold XOp.bodyO; rw [hres, hchk]
 unfold XOp.dec
 cases hg : x.guard with
 | none => exact hbody
 | some p =>
  obtain ⟨g, want⟩ := p
  simp only []
  rw [h1 g (by simp [XOp.uses, hg]), hbody]
theorem upsIn_app {wo wo' : List Nat} : ∀ {u u' : List (Nat × Obj)}, upsIn wo u = true -> upsIn wo' u' = true -> upsIn (wo ++ wo') (u ++ u') = true
 | [], [], _, _ => rfl
 | [], (o, x) :: r, _, h => by
  simp only [upsIn, bA, List.nil_append] at h ⊢
  exact ⟨zBd.2 (List.mem_append.2 (.inr (zBd.1 h.1))), upsIn_app (u := []) rfl h.2⟩
 | (o, x) :: r, u', h, h' => by
  simp only [upsIn, bA, List.cons_append] at h ⊢
  exact ⟨zBd.2 (List.mem_append.2 (.inl (zBd.1 h.1))), upsIn_app h.2 h'⟩
theorem postO_ups {x : XOp} {look : Nat -> Obj} {p q : V × List (Nat × Obj)} (h : postO x look p = some q) (hu : upsIn x.wo p.2 = true) : upsIn x.wos q.2 = true := by
 unfold postO at h
 unfold XOp.wos
 have two : ∀ (o : Nat) (y z : Obj), upsIn [o, HP] [(o, y), (HP, z)] = true := by
  intro o y z
  simp [upsIn, memb]
 cases hx : x.post with
 | none =>
  rw [hx] at h; injection h with h; subst h
  have := upsIn_app (u' := []) (wo' := postObjs XPost.none) hu rfl
  rwa [List.append_nil] at this
 | pub o =>
  rw [hx] at h
  simp only [postRun] at h
  split at h <;> try (cases h; done)
  rename_i b v' u' hrun
  split at hrun <;> try (cases hrun; done)
  split at hrun <;> try (cases hrun; done)
  injection hrun with hrun
  injection hrun with hb hrun
  injection hrun with hv hu'
  subst hb; subst hu'
  simp only [cond_true] at h
  injection h with h; subst h
  exact upsIn_app hu (two _ _ _)
 | take o e i =>
  rw [hx] at h
  simp only [postRun] at h
  split at h <;> try (cases h; done)
  rename_i b v' u' hrun
  split at hrun <;> try (cases hrun; done)
  split at hrun <;> try (cases hrun; done)
  injection hrun with hrun
  injection hrun with hb hrun
  injection hrun with hv hu'
  subst hu'
  cases b
  ·cases h
  ·simp only [cond_true] at h
   injection h with h; subst h
   exact upsIn_app hu (two _ _ _)
theorem dec_ups {x : XOp} {s : S} {p : V × List (Nat × Obj)} (h : x.dec fs s = some p) : upsIn x.wos p.2 = true := by
 have hb : ∀ q, x.bodyO fs s = some q -> upsIn x.wos q.2 = true := by
  intro q hq
  obtain ⟨p0, _, h2, h3⟩ := body_split hq
  exact postO_ups h3 h2
 unfold XOp.dec at h
 split at h
 ·exact hb p h
 ·split at h
  ·rename_i b _
   cases hbw : (b == _)
   ·rw [hbw] at h; injection h with h; subst h; rfl
   ·rw [hbw] at h; exact hb p h
  ·injection h with h; subst h; rfl
  ·cases h
theorem upsIn_mem {wo : List Nat} : ∀ {u : List (Nat × Obj)} {o : Nat} {x : Obj}, upsIn wo u = true -> (o, x) ∈ u -> o ∈ wo
 | (o', y) :: r, o, x, h, hm => by
  simp only [upsIn, bA] at h
  cases hm with
  | head => exact zBd.1 h.1
  | tail _ hm => exact upsIn_mem h.2 hm
theorem setO_obj {s : S} {m o : Nat} {x : Obj} (hne : m ≠ o) (ho : o <= HP \/ m ≠ HP) : (s.setO m x).obj o = s.obj o := by
 by_cases hm : m = HP
 ·subst hm
  have ho : o < HP := by
   rcases ho with h | h
   ·omega
   ·exact absurd rfl h
  rw [setO_HP]
  by_cases h1 : o < s.h.length
  ·rw [zB9 h1, zB9 (s := { s with d := hrows x, k := htaken x }) h1]
  ·rw [zBR (Nat.le_of_not_lt h1), zBR (s := { s with d := hrows x, k := htaken x }) (Nat.le_of_not_lt h1), zBg ho, zBg ho]
 ·rw [zBz hm]
  simp only [S.obj, S.setObj, objOf]
  rw [List.getElem?_set_ne hne]
theorem ups_obj : ∀ (u : List (Nat × Obj)) (s : S) (o : Nat), (∀ x, (o, x) ∉ u) -> (o <= HP \/ ∀ x, (HP, x) ∉ u) -> (s.ups u).obj o = s.obj o
 | [], _, _, _, _ => rfl
 | (m, y) :: r, s, o, h, ho => by
  simp only [S.ups]
  rw [ups_obj r _ o (fun x hx => h x (.tail _ hx)) (ho.imp id fun h x hx => h x (.tail _ hx))]
  refine setO_obj (by rintro rfl; exact h y (.head _)) (ho.imp id fun h hm => ?_)
  subst hm
  exact h y (.head _)
theorem eff_obj {s : S} {x : XOp} {p : V × List (Nat × Obj)} (hu : upsIn x.wos p.2 = true) {o : Nat} (h : o ∉ x.wos) (ho : o <= HP) : (s.eff x p).obj o = s.obj o := by
 unfold S.eff
 rw [ups_obj _ _ _ (fun y hy => h (upsIn_mem hu hy)) (.inl ho), put_obj]
theorem eff_slot {s : S} {x : XOp} {p : V × List (Nat × Obj)} {n : Nat} (h : x.dst ≠ some n) : (s.eff x p).slot n = s.slot n := by
 simp only [S.slot, S.eff, ups_t]
 cases hd : x.dst with
 | none => rfl
 | some d =>
  simp only [S.put, List.getD_eq_getElem?_getD]
  rw [List.getElem?_set_ne]
  rintro rfl
  exact h hd
theorem setO_comm (s : S) {m o : Nat} (x y : Obj) (h : m ≠ o) : (s.setO m x).setO o y = (s.setO o y).setO m x := by
 by_cases hm : m = HP
 ·subst hm
  rw [setO_HP, setO_HP, zBz (Ne.symm h), zBz (Ne.symm h)]
  rfl
 ·by_cases ho : o = HP
  ·subst ho
   rw [setO_HP, setO_HP, zBz h, zBz h]
   rfl
  ·rw [zBz hm, zBz ho, zBz ho, zBz hm]
   simp only [S.setObj]
   rw [List.set_comm _ _ h]
theorem ups_set : ∀ (u : List (Nat × Obj)) (s : S) (o : Nat) (x : Obj), (∀ y, (o, y) ∉ u) -> S.ups (s.setO o x) u = (s.ups u).setO o x
 | [], _, _, _, _ => rfl
 | (m, y) :: r, s, o, x, h => by
  simp only [S.ups]
  have hne : m ≠ o := by rintro rfl; exact h y (.head _)
  rw [<- setO_comm s y x hne]
  exact ups_set r (s.setO m y) o x fun z hz => h z (.tail _ hz)
theorem ups_comm : ∀ (u v : List (Nat × Obj)) (s : S), (∀ o x y, (o, x) ∈ u -> (o, y) ∉ v) -> (s.ups u).ups v = (s.ups v).ups u
 | [], _, _, _ => rfl
 | (m, y) :: r, v, s, h => by
  simp only [S.ups]
  rw [ups_comm r v _ fun o x z hx => h o x z (.tail _ hx), ups_set v s m y fun z => h m y z (.head _)]
theorem put_comm {s : S} {d e : Option Nat} {v u : V} (h : ∀ n, d = some n -> e ≠ some n) : (s.put d v).put e u = (s.put e u).put d v := by
 cases d with
 | none => rfl
 | some n =>
  cases e with
  | none => rfl
  | some m =>
   have hne : n ≠ m := fun hh => h n rfl (by rw [hh])
   simp only [S.put]
   rw [List.set_comm _ _ hne]
theorem leHP_mem : ∀ {l : List Nat} {n : Nat}, leHP l = true -> n ∈ l -> n <= HP
 | m :: r, n, h, hn => by
  simp only [leHP, bA] at h
  cases hn with
  | head => exact Nat.le_of_ble_eq_true h.1
  | tail _ hn => exact leHP_mem h.2 hn
theorem apartX_spec {x y : XOp} (h : apartX x y = true) :
  (∀ d, x.dst = some d -> d ∉ y.uses /\ y.dst ≠ some d) /\ (∀ d, y.dst = some d -> d ∉ x.uses) /\ (∀ o, o ∈ x.wos -> o ∉ y.ro /\ o ∉ y.wos) /\ (∀ o, o ∈ y.wos -> o ∉ x.ro) /\ (∀ o, o ∈ x.ro -> o <= HP) /\ (∀ o, o ∈ y.ro -> o <= HP) := by
 simp only [apartX, bA] at h
 obtain ⟨h1, h2, h3, h4, h5, h6, h7⟩ := h
 refine ⟨fun d hd => ?_, fun d hd => ?_, fun o ho => ⟨disj_spec h3 ho, disj_spec h4 ho⟩, fun o ho => disj_spec h5 ho, fun o ho => leHP_mem h6 ho, fun o ho => leHP_mem h7 ho⟩
 ·rw [hd] at h1
  simp only [bA, Bool.not_eq_true'] at h1
  refine ⟨fun hm => (by rw [zBd.2 hm] at h1; cases h1.1), fun he => ?_⟩
  rw [he] at h1
  simp at h1
 ·rw [hd] at h2
  simp only [Bool.not_eq_true'] at h2
  exact fun hm => by rw [zBd.2 hm] at h2; cases h2
theorem swap {x y : XOp} {s : S} {p q : V × List (Nat × Obj)} (h : apartX x y = true) (hx : x.dec fs s = some p) (hy : y.dec fs (s.eff x p) = some q) :
  y.dec fs s = some q /\ x.dec fs (s.eff y q) = some p /\ (s.eff x p).eff y q = (s.eff y q).eff x p := by
 obtain ⟨h1, h2, h3, h4, h5, h6⟩ := apartX_spec h
 have ux := dec_ups hx
 have uy := dec_ups hy
 have e1 : y.dec fs s = some q := by
  rw [<- hy]
  refine dec_congr (fun n hn => (eff_slot fun hd => (h1 n hd).1 hn).symm) fun o ho => (eff_obj ux (fun hw => (h3 o hw).1 ho) (h6 o ho)).symm
 refine ⟨e1, ?_, ?_⟩
 ·rw [<- hx]
  exact dec_congr (fun n hn => eff_slot fun hd => h2 n hd hn) fun o ho => eff_obj uy (fun hw => h4 o hw ho) (h5 o ho)
 ·unfold S.eff
  rw [ups_put, ups_put, ups_put, ups_put, ups_put, ups_put]
  rw [put_comm fun n hn => (h1 n hn).2]
  rw [ups_comm p.2 q.2 _ fun o z z' hz hz' => (h3 o (upsIn_mem ux hz)).2 (upsIn_mem uy hz')]
theorem run_front {R : Type} {xs : List XOp} {k : S -> Option R} {r : R} {i : Nat} {l2 : List Nat} :
  ∀ (l1 : List Nat) (s : S), (∀ j x y, j ∈ l1 -> xs[j]? = some x -> xs[i]? = some y -> apartX x y = true) -> runIdx fs xs (l1 ++ i :: l2) s k = some r -> runIdx fs xs (i :: (l1 ++ l2)) s k = some r
 | [], _, _, h => h
 | j :: l1, s, hap, h => by
  simp only [List.cons_append, runIdx] at h
  split at h <;> try (cases h; done)
  rename_i x hx
  obtain ⟨p, hp, h⟩ := zBL h
  have h := run_front l1 _ (fun j' x y hj => hap j' x y (.tail _ hj)) h
  simp only [runIdx] at h
  split at h <;> try (cases h; done)
  rename_i y hy
  obtain ⟨q, hq, h⟩ := zBL h
  obtain ⟨e1, e2, e3⟩ := swap (hap j x y (.head _) hx hy) hp hq
  simp only [List.cons_append, runIdx, hy, hx]
  rw [e1]
  simp only [bindO]
  rw [e2]
  simp only []
  rw [<- e3]
  exact h
end
end Go.Kb
/- A region whose order is drawn, in every order. -/
namespace Go.Kb
def reach (ops : Array Oper) : Nat -> Nat -> Nat -> Bool
 | 0, _, _ => false
 | f + 1, i, j => match ops[i]? with
  | some o => o.after.toList.any fun e => Region.binds .any e && (Nat.beq e.on j || reach ops f e.on j)
  | none => false
def drawOne (ops : Array Oper) (xs : List XOp) (i : Nat) (y : XOp) : Nat -> Bool
 | 0 => true
 | j + 1 => (match xs[j]? with | some x => apartX x y || reach ops 8 i j | none => true) && drawOne ops xs i y j
def drawAll (ops : Array Oper) (xs : List XOp) : Nat -> Bool
 | 0 => true
 | i + 1 => (match xs[i]?, ops[i]? with
  | some y, some o => drawOne ops xs i y i && o.after.toList.all fun e => !Region.binds .any e || Nat.blt e.on i
  | _, _ => true) && drawAll ops xs i
theorem drawOne_spec {ops : Array Oper} {xs : List XOp} {i : Nat} {y : XOp} : ∀ {n : Nat}, drawOne ops xs i y n = true -> ∀ (j : Nat) (x : XOp), j < n -> xs[j]? = some x -> apartX x y = true \/ reach ops 8 i j = true := by
 intro n
 induction n with
 | zero => intro _ j x hj; omega
 | succ n ih =>
  intro h j x hj hx
  simp only [drawOne, bA] at h
  by_cases hjn : j = n
  ·subst hjn
   rw [hx] at h
   simp only [Bool.or_eq_true] at h
   exact h.1
  ·exact ih h.2 j x (by omega) hx
theorem drawAll_spec {ops : Array Oper} {xs : List XOp} : ∀ {n : Nat}, drawAll ops xs n = true -> ∀ (i : Nat) (y : XOp) (o : Oper), i < n -> xs[i]? = some y -> ops[i]? = some o ->
  drawOne ops xs i y i = true /\ ∀ e ∈ o.after, Region.binds .any e = true -> e.on < i := by
 intro n
 induction n with
 | zero => intro _ i y o hi; omega
 | succ n ih =>
  intro h i y o hi hy ho
  simp only [drawAll, bA] at h
  by_cases hin : i = n
  ·subst hin
   rw [hy, ho] at h
   simp only [bA, List.all_eq_true] at h
   refine ⟨h.1.1, fun e he hb => ?_⟩
   have := h.1.2 e (Array.mem_toList_iff.2 he)
   simp only [hb, Bool.not_true, Bool.false_or, Nat.blt_eq] at this
   exact this
  ·exact ih h.2 i y o (by omega) hy ho
def Closed (ops : Array Oper) (listed : Array Bool) : Prop := ∀ i o, ops[i]? = some o -> listed.getD i false = true -> ∀ e ∈ o.after, Region.binds .any e = true -> listed.getD e.on false = true
theorem reach_listed {ops : Array Oper} {listed : Array Bool} (hc : Closed ops listed) : ∀ (f : Nat) (i j : Nat) (o : Oper), ops[i]? = some o -> (∀ e ∈ o.after, Region.binds .any e = true -> listed.getD e.on false = true) -> reach ops f i j = true -> listed.getD j false = true := by
 intro f
 induction f with
 | zero => intro i j o _ _ h; simp only [reach, Bool.false_eq_true] at h
 | succ f ih =>
  intro i j o ho hall h
  unfold reach at h
  rw [ho] at h
  simp only [List.any_eq_true, bA, Bool.or_eq_true] at h
  obtain ⟨e, he, hb, h⟩ := h
  have hl := hall e (Array.mem_toList_iff.1 he) hb
  rcases h with h | h
  ·rw [<- eB h]; exact hl
  ·cases hoe : ops[e.on]? with
   | none =>
    exfalso
    cases f with
    | zero => simp only [reach, Bool.false_eq_true] at h
    | succ f => unfold reach at h; rw [hoe] at h; cases h
   | some o' => exact ih e.on j o' hoe (hc e.on o' hoe hl) h
section
variable {E : Env1} {F : Fx} {fs : Nat -> FS} {nobj : Nat}
def zBq (listed : Array Bool) (n : Nat) : List Nat := (List.range n).filter fun i => !listed.getD i true
theorem split_at {l : List Nat} {i : Nat} (h : i ∈ l) (hs : l.Pairwise (· < ·)) : ∃ l1 l2, l = l1 ++ i :: l2 /\ (∀ j ∈ l1, j < i) /\ l1 ++ l2 = l.filter (fun j => j != i) := by
 obtain ⟨l1, l2, rfl⟩ := List.append_of_mem h
 refine ⟨l1, l2, rfl, ?_, ?_⟩
 ·intro j hj
  exact (List.pairwise_append.1 hs).2.2 j hj i (.head _)
 ·have h1 : ∀ j ∈ l1, j ≠ i := fun j hj => Nat.ne_of_lt ((List.pairwise_append.1 hs).2.2 j hj i (.head _))
  have h2 : ∀ j ∈ l2, j ≠ i := fun j hj => Nat.ne_of_gt ((List.pairwise_cons.1 (List.pairwise_append.1 hs).2.1).1 j hj)
  rw [List.filter_append, List.filter_cons]
  simp only [bne_self_eq_false, Bool.false_eq_true, if_false]
  rw [List.filter_eq_self.2 fun j hj => by simpa using h1 j hj, List.filter_eq_self.2 fun j hj => by simpa using h2 j hj]
theorem unlisted_set {listed : Array Bool} {n i : Nat} (hn : listed.size = n) (hi : i < n) : zBq (listed.setIfInBounds i true) n = (zBq listed n).filter fun j => j != i := by
 unfold zBq
 rw [List.filter_filter]
 apply List.filter_congr
 intro j hj
 by_cases hij : i = j
 ·subst hij
  simp [hn, hi]
 ·rw [getD_set_ne true hij]
  have : (j != i) = true := by simpa using Ne.symm hij
  rw [this, Bool.true_and]
theorem unlisted_sorted (listed : Array Bool) (n : Nat) : (zBq listed n).Pairwise (· < ·) := List.Pairwise.filter _ List.pairwise_lt_range
theorem any_wp {R : Type} (heqT : ∀ T t, E.eqT T t = true -> eqTB E.P T t = true) (hcall : CallOk E F fs nobj) {ops : Array Oper} {xs : List XOp} (hok : opsOk E nobj ops ops.toList xs = true) (hdraw : drawAll ops xs ops.size = true)
  {k : S -> Option R} {r : R} {Q : Exit -> Act -> World -> Prop} (hQ : ∀ s a w, s.h.length = nobj -> Rep E.tm F s a w -> k s = some r -> Q .normal a w) :
  ∀ (fuel : Nat) (listed : Array Bool) (s : S) (a : Act) (w : World), listed.size = ops.size -> (zBq listed ops.size).length <= fuel -> Closed ops listed ->
   runIdx fs xs (zBq listed ops.size) s k = some r -> s.h.length = nobj -> Rep E.tm F s a w -> wpAny E.P .any ops Q fuel listed a w := by
 obtain ⟨hlen, hget⟩ := opsOk_get hok
 have hready : ∀ (listed : Array Bool), listed.size = ops.size -> Region.ready .any ops listed = [] -> zBq listed ops.size = [] := by
  intro listed hsz hr
  apply Classical.byContradiction
  intro hne
  obtain ⟨i, l, hl⟩ := List.exists_cons_of_ne_nil hne
  have hmem : i ∈ zBq listed ops.size := by rw [hl]; exact .head _
  obtain ⟨hi, hu⟩ := List.mem_filter.1 hmem
  have hi := List.mem_range.1 hi
  have hmin : ∀ j, j < i -> listed.getD j false = true := by
   intro j hj
   have hjn : j < listed.size := by omega
   have hnot : j ∉ zBq listed ops.size := by
    intro hm
    rw [hl] at hm
    have hs := unlisted_sorted listed ops.size
    rw [hl] at hs
    cases hm with
    | head => omega
    | tail _ hm => have := (List.pairwise_cons.1 hs).1 j hm; omega
   have : listed[j] = true := by
    apply Classical.byContradiction
    intro hf
    refine hnot (List.mem_filter.2 ⟨List.mem_range.2 (by omega), ?_⟩)
    simp only [Array.getD_eq_getD_getElem?, Array.getElem?_eq_getElem hjn, Option.getD_some]
    simpa using hf
   simp only [Array.getD_eq_getD_getElem?, Array.getElem?_eq_getElem hjn, Option.getD_some, this]
  have hil : i < xs.length := by rw [<- hlen]; simpa using hi
  have hin : i ∈ Region.ready .any ops listed := by
   refine mem_ready.2 ⟨by simpa using hu, ops[i], Array.getElem?_eq_getElem hi, fun e he hb => hmin _ ?_⟩
   exact (drawAll_spec hdraw i xs[i] ops[i] hi (List.getElem?_eq_getElem hil) (Array.getElem?_eq_getElem hi)).2 e he hb
  rw [hr] at hin
  cases hin
 intro fuel
 induction fuel with
 | zero =>
  intro listed s a w hsz hf hc h hn hr
  have h0 : zBq listed ops.size = [] := List.eq_nil_of_length_eq_zero (by omega)
  rw [h0] at h
  refine ⟨?_, hQ s a w hn hr h⟩
  apply Classical.byContradiction
  intro hne
  obtain ⟨i, l, hl⟩ := List.exists_cons_of_ne_nil hne
  have hm : i ∈ Region.ready .any ops listed := by rw [hl]; exact .head _
  obtain ⟨h1, o, ho, _⟩ := mem_ready.1 hm
  have : i ∈ zBq listed ops.size := List.mem_filter.2 ⟨List.mem_range.2 (Array.getElem?_eq_some_iff.1 ho).1, by simpa using h1⟩
  rw [h0] at this
  cases this
 | succ fuel ih =>
  intro listed s a w hsz hf hc h hn hr
  refine ⟨fun hre => ?_, fun i hi => ?_⟩
  ·rw [hready listed hsz hre] at h
   exact hQ s a w hn hr h
  ·obtain ⟨hu, o, ho, hall⟩ := mem_ready.1 hi
   have hlt : i < ops.size := (Array.getElem?_eq_some_iff.1 ho).1
   have hil : i < xs.length := by rw [<- hlen]; simpa using hlt
   have hx : xs[i]? = some xs[i] := List.getElem?_eq_getElem hil
   have hm : i ∈ zBq listed ops.size := List.mem_filter.2 ⟨List.mem_range.2 hlt, by simpa using hu⟩
   obtain ⟨l1, l2, e1, e2, e3⟩ := split_at hm (unlisted_sorted listed ops.size)
   rw [e1] at h
   have hone := (drawAll_spec hdraw i _ o hlt hx ho).1
   have h := run_front l1 s (fun j x y hj hxj hyi => by
    rw [hx] at hyi; injection hyi with hyi; subst hyi
    rcases drawOne_spec hone j x (e2 j hj) hxj with h1 | h1
    ·exact h1
    ·have hl := reach_listed hc 8 i j o ho hall h1
     have hju : j ∈ zBq listed ops.size := by rw [e1]; exact List.mem_append.2 (.inl hj)
     have := (List.mem_filter.1 hju).2
     have hjn : j < listed.size := by have := List.mem_range.1 (List.mem_filter.1 hju).1; omega
     simp only [Array.getD_eq_getD_getElem?, Array.getElem?_eq_getElem hjn, Option.getD_some] at this hl
     rw [hl] at this
     cases this) h
   simp only [runIdx, hx] at h
   obtain ⟨p, hp, h⟩ := zBL h
   have ho' : ops.toList[i]? = some o := by simpa using ho
   obtain ⟨h1, h2⟩ := hget i o _ ho' hx
   rw [e3, <- unlisted_set hsz hlt] at h
   refine op_wp heqT hcall ho h1 h2 hn hp hr fun a' w' hr' => ih _ _ a' w' (by simpa using hsz) ?_ ?_ h (by rw [eff_len]; exact hn) hr'
   ·rw [unlisted_set hsz hlt, <- e3]
    have := congrArg List.length e1
    simp only [lA, List.length_cons] at this ⊢
    omega
   ·intro m o' hm' hl e he hb
    by_cases hmi : i = m
    ·subst hmi
     rw [ho] at hm'
     injection hm' with hm'; subst hm'
     exact getD_set_true (hall e he hb)
    ·rw [getD_set_ne false hmi] at hl
     exact getD_set_true (hc m o' hm' hl e he hb)
theorem Stp.drawn (M : Nat -> Prop) (w : World) : Stp M w { w with drawn := w.drawn + 1 } := ⟨rfl, rfl, rfl, nR _, fun _ _ _ => rfl, fun _ cur _ h => ⟨cur, h, rfl⟩⟩
theorem RepM.drawn {tm : Nat -> TypeId} {μ : Nat -> Option (Nat × Nat)} {s : S} {a : Act} {w : World} (h : RepM tm F μ s a w) : RepM tm F μ s a { w with drawn := w.drawn + 1 } where
 defers := h.defers
 size := h.size
 slots := fun i v x hv hx => RepV.map (fun _c _v => yl.keep (C := s.cx μ w F) (C' := s.cx μ { w with drawn := w.drawn + 1 } F) rfl (Stp.drawn _ w) (fun _ _ h => h) (Dle.refl _) (fun _o => Evo.same fun _ _ _ => rfl)) (h.slots i v x hv hx)
 objs := fun o => zBU.keep (C := s.cx μ w F) (C' := s.cx μ { w with drawn := w.drawn + 1 } F) rfl (Stp.drawn _ w) (fun _ _ h => h) (Dle.refl _) (fun _o => Evo.same fun _ _ _ => rfl) (fun _ _ _ => rfl) (h.objs o)
 inj := h.inj
 lt := h.lt
 own := h.own
 home := h.home
 frame := h.frame.drew
 hl := h.hl
 known := h.known
 taken := h.taken
theorem region_any {R : Type} (heqT : ∀ T t, E.eqT T t = true -> eqTB E.P T t = true) (hcall : CallOk E F fs nobj) (hmix : E.P.follows .mixedOrders = true) {ops : Array Oper} {xs : List XOp} (hok : opsOk E nobj ops ops.toList xs = true) (hdraw : drawAll ops xs ops.size = true)
  {k : S -> Option R} {r : R} {Q : Exit -> Act -> World -> Prop} {id : Nat}
  (hQ : ∀ s a w, s.h.length = nobj -> Rep E.tm F s a w -> k s = some r -> Q .normal a w) {s : S} {a : Act} {w : World} (h : opsK (envOf fs) xs s k = some r) (hn : s.h.length = nobj) (hr : Rep E.tm F s a w) :
  (Code.region id ops true).wp E.P Q a w := by
 refine wp_region_any hmix ?_
 rw [opsK_idx xs k xs 0 s rfl] at h
 have hl : xs.length = ops.size := by rw [<- (opsOk_get hok).1]; simp
 have hu : zBq (Array.replicate ops.size false) ops.size = List.range ops.size := by
  unfold zBq
  refine List.filter_eq_self.2 fun i hi => ?_
  have := List.mem_range.1 hi
  simp [Array.getD_eq_getD_getElem?, this]
 obtain ⟨μ, hr⟩ := hr
 refine any_wp heqT hcall hok hdraw hQ ops.size _ s a _ (by simp) (by rw [hu]; simp) ?_ ?_ hn ⟨μ, hr.drawn⟩
 ·intro i o ho hl
  have := (Array.getElem?_eq_some_iff.1 ho).1
  simp [Array.getD_eq_getD_getElem?, this] at hl
 ·rw [hu, List.range_eq_range', <- hl]; exact h
end
end Go.Kb
/- The other ghost steps. -/
namespace Go.Kb
section
variable {tm : Nat -> TypeId} {F : Fx} {μ μ' : Nat -> Option (Nat × Nat)} {s s' : S} {a : Act} {w : World}
theorem put_same {n : Nat} {y : Value} (h : a.tmps[n]? = some y) : a.put (some n) y = a := by
 have : a.tmps.setIfInBounds n y = a.tmps := by
  apply Array.ext_getElem?
  intro i
  by_cases hi : n = i
  ·subst hi
   have hlt := (Array.getElem?_eq_some_iff.1 h).1
   rw [Array.getElem?_setIfInBounds_self_of_lt hlt, h]
  ·rw [Array.getElem?_setIfInBounds_ne hi]
 cases a
 simp only [Act.put] at *
 rw [this]
theorem nil_den (w : World) (M : Nat -> Prop) (δ : Dl) (L : Nat) (t : Ty) : yk w M δ L (.list t) [] [.slice none 0 0] :=
 ⟨none, 0, rfl, nR _, .inl rfl, fun i x hx => by simp at hx⟩
theorem slot_value (h : RepM tm F μ s a w) {n : Nat} {c : Cell} (hs : s.slot n = .one c) : ∃ y, a.tmps[n]? = some y /\ yl (s.cx μ w F) c y := by
 rcases slot_rep h n with h1 | ⟨y, h1, h2⟩
 ·rw [h1] at hs; cases hs
 ·rw [hs] at h2; exact ⟨y, h1, h2⟩
theorem new_row (h : RepM tm F μ s a w) {o e : Nat} {t : Ty} (ho : o < s.h.length) (d : Option Nat) {v : V} {y : Value}
  (hv : ∀ C' : Cx, Kept (s.cx μ w F) C' -> C'.h o = .row ((s.obj o).stamp + 1) false true e t [] -> C'.μ o = none -> RepV C' v y) :
  RepM tm F (setMu μ o none) ((s.put d v).setObj o (.row ((s.obj o).stamp + 1) false true e t [])) (a.put d y) w := by
 refine h.upd1 ho d (Stp.refl _ _) ?_ (Evo.newer (by simp [Obj.stamp])) (fun hh => by cases hh) ?_
 ·intro b base _ he; cases he
 ·intro C' _ hk h1 h2
  exact ⟨.inl ⟨rfl, rfl⟩, hv C' hk h1 h2⟩
theorem nil_ref {C : Cx} {o e st : Nat} {t : Ty} (h1 : C.h o = .row st false true e t []) (h2 : C.μ o = none) : yl C (.ref o st .all) (.slice none 0 0) := by
 refine ⟨⟨_, _, _, rfl⟩, by rw [h1]; exact nR _, fun hm fr ec u xs hx => ?_⟩
 rw [h1] at hx
 injection hx with e1 e2 e3 e4 e5 e6
 subst e5
 have e6 := eq_of_heq e6
 subst e6
 exact ⟨trivial, .inl ⟨h2, rfl, rfl⟩⟩
theorem box_set (h : RepM tm F μ s a w) {b st i : Nat} {hm : Bool} {cs : List Cell} {c : Cell} (hx : s.obj b = .box st hm cs) (hi : i < cs.length)
  (hc : ∀ (y : Value), yl (s.cx μ w F) cs[i] y -> yl (s.cx μ w F) c y) :
  RepM tm F μ (s.setObj b (.box st hm (cs.set i c))) a w := by
 have hlt : b < s.h.length := box_lt hx
 have hobj := h.objs b
 rw [hx] at hobj
 obtain ⟨bl, vs, T, h1, h2, h3⟩ := hobj
 have := h.upd1 (x := .box st hm (cs.set i c)) hlt (m := μ b) (w' := w) none (v := .junk) (y := undef) (Stp.refl _ _) ?_ ?_ ?_ ?_
 ·have hmu : setMu μ b (μ b) = μ := by funext j; simp only [setMu]; split <;> simp_all
  rw [hmu] at this
  exact this
 ·intro b2 base hp he
  exact ⟨.inr ⟨⟨by rw [hx]; trivial, base, he⟩, fun _ => trivial⟩, h.lt b b2 base (by rw [hx]; trivial) he⟩
 ·rw [hx]; exact ⟨nR _, fun _ => ⟨⟨st, hm, cs, rfl⟩, rfl⟩⟩
 ·intro hh; have := h.home b (by rw [hx]; exact hh); rw [hx] at this; exact ⟨this.1, this.2⟩
 ·intro C' hC' hk _ _
  refine ⟨⟨bl, vs, T, h1, by rw [hC']; exact h2, zi.map hk.cell ?_⟩, trivial⟩
  have hl := h3.len
  have hvi : i < vs.toList.length := by omega
  have h4 := zi.get i h3 (List.getElem?_eq_getElem hi) (List.getElem?_eq_getElem hvi)
  have := zi.set i h3 (hc _ h4)
  rwa [List.set_getElem_self] at this
theorem g_mkrow_slot (h : RepM tm F μ s a w) (n o e : Nat) (t : Ty) (ho : o < s.h.length) (hg : s.ghost (.mkrow (.slot n) o e t) = some s') : Rep tm F s' a w /\ s'.h.length = s.h.length := by
 simp only [S.ghost] at hg
 split at hg
 ·rename_i hs
  injection hg with hg
  obtain ⟨y, hy, hc⟩ := slot_value h hs
  have hc : y = .slice none 0 0 := hc
  subst hc
  have := new_row h (e := e) (t := t) ho (some n) (v := .one (.ref o ((s.obj o).stamp + 1) .all)) (y := .slice none 0 0) fun C' hk h1 h2 => nil_ref h1 h2
  rw [put_same hy] at this
  rw [<- hg]
  exact ⟨⟨_, this⟩, by simp⟩
 ·injection hg with hg
  subst hg
  exact ⟨⟨μ, h⟩, rfl⟩
theorem g_mkrow_box (h : RepM tm F μ s a w) (b i o e : Nat) (t : Ty) (ho : o < s.h.length) (hg : s.ghost (.mkrow (.boxc b i) o e t) = some s') : Rep tm F s' a w /\ s'.h.length = s.h.length := by
 simp only [S.ghost] at hg
 split at hg
 ·rename_i st hm cs hx
  split at hg
  ·rename_i hci hob
   injection hg with hg
   have hne : o ≠ b := by rintro rfl; simp at hob
   have h1' : RepM tm F (setMu μ o none) (s.setObj o (.row ((s.obj o).stamp + 1) false true e t [])) a w := new_row h (e := e) (t := t) ho none (v := .junk) (y := undef) fun C' _ _ _ => trivial
   have hob2 : (s.setObj o (.row ((s.obj o).stamp + 1) false true e t [])).obj b = .box st hm cs := by
    rw [setObj_obj s ho, if_neg (Ne.symm hne), hx]
   have hoo : (s.setObj o (.row ((s.obj o).stamp + 1) false true e t [])).obj o = .row ((s.obj o).stamp + 1) false true e t [] := by
    rw [setObj_obj s ho, if_pos rfl]
   have hi : i < cs.length := (List.getElem?_eq_some_iff.1 hci).1
   have hci' : cs[i] = .nil := by rw [List.getElem?_eq_getElem hi] at hci; injection hci
   have h2 := box_set h1' (c := .ref o ((s.obj o).stamp + 1) .all) hob2 hi fun y hy => by
    rw [hci'] at hy
    have hy : y = .slice none 0 0 := hy
    subst hy
    exact nil_ref (C := (s.setObj o (.row ((s.obj o).stamp + 1) false true e t [])).cx (setMu μ o none) w F) hoo (by simp [S.cx, setMu])
   rw [<- hg]
   refine ⟨⟨setMu μ o none, ?_⟩, by simp⟩
   have he : ({ s with h := (s.h.set b (.box st hm (cs.set i (.ref o ((s.obj o).stamp + 1) .all)))).set o (.row ((s.obj o).stamp + 1) false true e t []) } : S) = (s.setObj o (.row ((s.obj o).stamp + 1) false true e t [])).setObj b (.box st hm (cs.set i (.ref o ((s.obj o).stamp + 1) .all))) := by
    unfold S.setObj
    simp only []
    rw [List.set_comm _ _ (Ne.symm hne)]
   rw [he]
   exact h2
  ·injection hg with hg
   subst hg
   exact ⟨⟨μ, h⟩, rfl⟩
 ·injection hg with hg
  subst hg
  exact ⟨⟨μ, h⟩, rfl⟩
theorem g_unnil_slot (h : RepM tm F μ s a w) (n : Nat) (t : Ty) (hg : s.ghost (.unnil (.slot n) t) = some s') : Rep tm F s' a w /\ s'.h.length = s.h.length := by
 simp only [S.ghost] at hg
 split at hg
 ·rename_i hs
  injection hg with hg
  obtain ⟨y, hy, hc⟩ := slot_value h hs
  have hc : y = .slice none 0 0 := hc
  subst hc
  have := h.put (some n) (v := .one (.sl true t [])) (x := .slice none 0 0) (nil_den _ _ _ _ t)
  rw [put_same hy] at this
  rw [<- hg]
  exact ⟨⟨_, this⟩, rfl⟩
 ·injection hg with hg
  subst hg
  exact ⟨⟨μ, h⟩, rfl⟩
theorem g_unnil_box (h : RepM tm F μ s a w) (b i : Nat) (t : Ty) (hg : s.ghost (.unnil (.boxc b i) t) = some s') : Rep tm F s' a w /\ s'.h.length = s.h.length := by
 simp only [S.ghost] at hg
 split at hg
 ·rename_i st hm cs hx
  split at hg
  ·rename_i hci
   injection hg with hg
   have hi : i < cs.length := (List.getElem?_eq_some_iff.1 hci).1
   have hci' : cs[i] = .nil := by rw [List.getElem?_eq_getElem hi] at hci; injection hci
   have h2 := box_set h (c := .sl true t []) hx hi fun y hy => by
    rw [hci'] at hy
    have hy : y = .slice none 0 0 := hy
    subst hy
    exact nil_den _ _ _ _ t
   rw [<- hg]
   exact ⟨⟨_, h2⟩, by simp⟩
  ·injection hg with hg
   subst hg
   exact ⟨⟨μ, h⟩, rfl⟩
 ·injection hg with hg
  subst hg
  exact ⟨⟨μ, h⟩, rfl⟩
end
end Go.Kb
/- Renaming, weakening, renumbering. -/
namespace Go.Kb
section
variable {tm : Nat -> TypeId} {F : Fx} {μ μ' : Nat -> Option (Nat × Nat)} {s s' : S} {a : Act} {w : World}
theorem g_rename (h : RepM tm F μ s a w) (o o' : Nat) (ho' : o' < s.h.length) (hg : s.ghost (.rename o o') = some s') : Rep tm F s' a w /\ s'.h.length = s.h.length := by
 simp only [S.ghost] at hg
 split at hg
 ·rename_i st hm fr e t xs hx
  split at hg
  ·injection hg with hg; subst hg; exact ⟨⟨μ, h⟩, rfl⟩
  rename_i hoo
  have hne : o ≠ o' := by rintro rfl; simp at hoo
  injection hg with hg
  have hlt := row_lt hx
  have hpo : yv (s.obj o) := by rw [hx]; trivial
  have hob : ∀ i, s'.obj i = if i = o' then .row ((s.obj o').stamp + 1) false (fr && !hm) e t xs else if i = o then .absent (st + 1) else (s.obj i).mapCell (zBt s o o') := by
   intro i
   rw [<- hg]
   have hl : (s.mapCell (zBt s o o')).h.length = s.h.length := by simp [S.mapCell]
   have e1 := setH_obj { (s.mapCell (zBt s o o')) with h := (s.mapCell (zBt s o o')).h.set o (.absent (st + 1)) } o' (.row ((s.obj o').stamp + 1) false (fr && !hm) e t xs) i
   simp only [List.length_set, hl] at e1
   rw [e1]
   by_cases hi : i = o'
   ·rw [if_pos ⟨hi, ho'⟩, if_pos hi]
   ·rw [if_neg fun hh => hi hh.1, if_neg hi]
    have e2 := setH_obj (s.mapCell (zBt s o o')) o (.absent (st + 1)) i
    rw [hl] at e2
    rw [e2]
    by_cases hi2 : i = o
    ·rw [if_pos ⟨hi2, hlt⟩, if_pos hi2]
    ·rw [if_neg fun hh => hi2 hh.1, if_neg hi2, mapCell_obj]
  have hmu : ∀ i, setMu μ o' (μ o) i = if i = o' then μ o else μ i := fun i => rfl
  have hM : ∀ b, (s'.cx (setMu μ o' (μ o)) w F).M b -> (s.cx μ w F).M b := by
   rintro b (hX | ⟨i, base, hp, hm'⟩)
   ·exact .inl hX
   refine .inr ?_
   simp only [S.cx] at hp hm'
   rw [hob i] at hp
   rw [hmu i] at hm'
   split at hp
   ·rename_i hi
    rw [if_pos hi] at hm'
    exact ⟨o, base, hpo, hm'⟩
   ·rename_i hi
    rw [if_neg hi] at hm'
    split at hp
    ·exact hp.elim
    ·exact ⟨i, base, zBK.1 hp, hm'⟩
  have hh : ∀ i, (s'.obj i = (s.obj i).mapCell (zBt s o o') /\ setMu μ o' (μ o) i = μ i) \/ (s.obj i).stamp < (s'.obj i).stamp := by
   intro i
   rw [hob i, hmu i]
   by_cases hi : i = o'
   ·subst hi; rw [if_pos rfl]; right; simp [Obj.stamp]
   ·rw [if_neg hi, if_neg hi]
    by_cases hi2 : i = o
    ·subst hi2; rw [if_pos rfl, hx]; right; simp [Obj.stamp]
    ·rw [if_neg hi2]; exact .inl ⟨rfl, rfl⟩
  have hnew : s'.obj o' = .row ((s.obj o').stamp + 1) false (fr && !hm) e t xs := by rw [hob, if_pos rfl]
  have hl := h.hl
  have hD : Dle (s.dl μ) (s'.dl (setMu μ o' (μ o))) := by
   have hd : s'.d = s.d := by rw [<- hg]; rfl
   intro k m hm
   simp only [S.dl] at hm ⊢
   rw [hd, hmu (HP + 1 + k), if_neg (show ¬ HP + 1 + k = o' by omega)]
   exact hm
  have hk : ∀ c v, yl (s.cx μ w F) c v -> yl (s'.cx (setMu μ o' (μ o)) w F) (zBt s o o' c) v := by
   intro c v hc
   unfold zBt
   split
   ·rename_i o1 st' e'
    cases hb : Nat.beq o o1
    ·exact map_cell hM hD hh hc
    ·have hb := eB hb
     subst hb
     simp only []
     cases hst : Nat.beq st' (s.obj o).stamp
     ·trivial
     ·have hst := eB hst
      rw [hx] at hst
      obtain ⟨h0, _, h2⟩ := hc
      refine ⟨h0, by show _ <= (s'.obj o').stamp; rw [hnew]; exact nR _, fun hm2 fr2 ec2 t2 xs2 hx2 => ?_⟩
      have hx2 : s'.obj o' = .row ((s.obj o').stamp + 1) hm2 fr2 ec2 t2 xs2 := hx2
      rw [hnew] at hx2
      injection hx2 with e1 e2 e3 e4 e5 e6
      subst e5
      have e6 := eq_of_heq e6
      subst e6
      have hst' : st' = st := hst
      subst hst'
      have := h2 hm fr e t xs hx
      refine ⟨this.1, ?_⟩
      show zCE w (setMu μ o' (μ o) o') _ _ _ _ _
      rw [hmu, if_pos rfl]
      exact this.2
   ·split
    ·trivial
    ·exact map_cell hM hD hh hc
   ·exact map_cell hM hD hh hc
  refine ⟨⟨setMu μ o' (μ o), h.change (by rw [<- hg]; simp [S.mapCell]) ?_ ?_ ?_ ?_ ?_ (same_heap h (by rw [<- hg]; simp [S.mapCell]) (by rw [<- hg]; rfl) (by rw [<- hg]; rfl) (fun k => by rw [hmu, if_neg (by omega)]) fun i => (hh i).symm.imp id fun h => by rw [h.1]; exact ⟨mapObj_stamp, mapObj_shape, h.2⟩)⟩, by rw [<- hg]; simp [S.mapCell]⟩
  ·intro i b base hp hmi
   rw [hob i] at hp ⊢
   rw [hmu i] at hmi
   by_cases hi : i = o'
   ·rw [if_pos hi] at hp hmi ⊢
    refine ⟨o, hpo, hmi, fun hw => ?_⟩
    rw [hx] at hw
    intro h1
    simp at h1
    have := hw h1.1
    rw [h1.2] at this; cases this
   ·rw [if_neg hi] at hp hmi ⊢
    by_cases hi2 : i = o
    ·rw [if_pos hi2] at hp; exact hp.elim
    ·rw [if_neg hi2] at hp ⊢
     exact ⟨i, zBK.1 hp, hmi, mapObj_weak.2⟩
  ·intro i j b base base' hp hq hi hj
   rw [hob] at hp hq
   rw [hmu] at hi hj
   by_cases hi' : i = o' <;> by_cases hj' : j = o'
   ·rw [hi', hj']
   ·rw [if_pos hi'] at hi
    rw [if_neg hj'] at hj hq
    by_cases hj2 : j = o
    ·rw [if_pos hj2] at hq; exact hq.elim
    ·rw [if_neg hj2] at hq
     exact absurd (h.inj o j b base base' hpo (zBK.1 hq) hi hj) (Ne.symm hj2)
   ·rw [if_pos hj'] at hj
    rw [if_neg hi'] at hi hp
    by_cases hi2 : i = o
    ·rw [if_pos hi2] at hp; exact hp.elim
    ·rw [if_neg hi2] at hp
     exact absurd (h.inj i o b base base' (zBK.1 hp) hpo hi hj) hi2
   ·rw [if_neg hi'] at hi hp
    rw [if_neg hj'] at hj hq
    by_cases hi2 : i = o
    ·rw [if_pos hi2] at hp; exact hp.elim
    ·by_cases hj2 : j = o
     ·rw [if_pos hj2] at hq; exact hq.elim
     ·rw [if_neg hi2] at hp
      rw [if_neg hj2] at hq
      exact h.inj i j b base base' (zBK.1 hp) (zBK.1 hq) hi hj
  ·have : s'.t = s.t.map (mapCell (zBt s o o')) := by rw [<- hg]; rfl
   rw [this]
   exact map_slots hk h.slots
  ·intro i
   rw [hob i, hmu i]
   by_cases hi : i = o'
   ·rw [if_pos hi, if_pos hi]
    have hold := h.objs o
    rw [hx] at hold
    rcases hold with hold | ⟨b, base, cur, h1, h2, h3, h4⟩
    ·exact .inl hold
    ·refine .inr ⟨b, base, cur, h1, h2, h3, fun i x hxi => ?_⟩
     have := den_less (C := s.cx μ w F) (C' := s'.cx (setMu μ o' (μ o)) w F) rfl rfl hM hD (h4 i x hxi)
     exact zBW (by intro hf; simp at hf; exact hf.1) this
   ·rw [if_neg hi, if_neg hi]
    split
    ·trivial
    ·exact obj_mapF (C := s.cx μ w F) (C' := s'.cx (setMu μ o' (μ o)) w F) hk rfl rfl hM hD (h.objs i)
  ·intro i hi
   rw [hob i] at hi ⊢
   rw [hmu i]
   by_cases hi' : i = o'
   ·rw [if_pos hi'] at hi; cases hi
   ·rw [if_neg hi'] at hi ⊢
    rw [if_neg hi']
    by_cases hi2 : i = o
    ·rw [if_pos hi2] at hi; cases hi
    ·rw [if_neg hi2] at hi ⊢
     rw [mapObj_hm] at hi; rw [mapObj_shape]; exact h.home i hi
 ·injection hg with hg
  subst hg
  exact ⟨⟨μ, h⟩, rfl⟩
theorem objOf_map (h : List Obj) (d : List HRow) (k k' : List (Nat × Nat × Hnd)) (f : Obj -> Obj) (hf : ∀ o, f (beyond d k o) = beyond d k' o) (o : Nat) : objOf (h.map f) d k' o = f (objOf h d k o) := by
 unfold objOf
 rw [List.getElem?_map]
 cases h[o]? with
 | none => exact (hf o).symm
 | some x => rfl
theorem g_weak (h : RepM tm F μ s a w) (hg : s.ghost .weak = some s') : Rep tm F s' a w /\ s'.h.length = s.h.length := by
 simp only [S.ghost] at hg
 injection hg with hg
 have hob : ∀ i, s'.obj i = ((s.obj i).mapCell weakCell).weak := by
  intro i
  rw [<- hg]
  show objOf ((s.h.map (Obj.mapCell weakCell)).map Obj.weak) s.d s.k i = _
  rw [objOf_map _ _ s.k s.k Obj.weak ?_, objOf_map _ _ s.k s.k (Obj.mapCell weakCell) ?_]
  ·rfl
  ·intro o; rcases zCL s.d s.k o with h | ⟨_, h⟩ | ⟨_, _, _, _, _, _, h⟩ <;> rw [h] <;> rfl
  ·intro o; rcases zCL s.d s.k o with h | ⟨_, h⟩ | ⟨_, _, _, _, _, _, h⟩ <;> rw [h] <;> rfl
 have hpres : ∀ i, yv (s'.obj i) ↔ yv (s.obj i) := by
  intro i
  rw [hob i]
  cases s.obj i <;> exact Iff.rfl
 have hM : ∀ b, (s'.cx μ w F).M b -> (s.cx μ w F).M b := by
  rintro b (hX | ⟨i, base, hp, hm'⟩)
  ·exact .inl hX
  refine .inr ?_
  exact ⟨i, base, (hpres i).1 hp, hm'⟩
 have hD : Dle (s.dl μ) (s'.dl μ) := by rw [<- hg]; exact Dle.refl _
 have hk0 : ∀ c v, yl (s.cx μ w F) c v -> yl (s'.cx μ w F) c v := by
  intro c v
  refine yl.less (C := s.cx μ w F) (C' := s'.cx μ w F) rfl rfl hM hD fun i => ?_
  simp only [S.cx]
  rw [hob i]
  cases hx : s.obj i with
  | absent st => exact ⟨nR _, fun _ => ⟨fun _ _ _ hh => (by cases hh), fun _ _ _ _ _ _ hh => (by cases hh)⟩⟩
  | heap D K => exact ⟨nR _, fun _ => ⟨fun _ _ _ hh => (by cases hh), fun _ _ _ _ _ _ hh => (by cases hh)⟩⟩
  | hrow e t xs => exact ⟨nR _, fun _ => ⟨fun _ _ _ hh => (by cases hh), fun _ _ _ _ _ _ hh => (by cases hh)⟩⟩
  | box st hm cs =>
   refine ⟨nR _, fun _ => ⟨fun st2 hm2 cs2 hh => ?_, fun _ _ _ _ _ _ hh => (by cases hh)⟩⟩
   simp only [Obj.mapCell, Obj.weak] at hh
   injection hh with h1 h2 h3
   subst h1
   exact ⟨⟨hm, cs, rfl⟩, by trivial⟩
  | row st hm fr e t xs =>
   refine ⟨nR _, fun _ => ⟨fun _ _ _ hh => (by cases hh), fun st2 hm2 fr2 e2 t2 xs2 hh => ?_⟩⟩
   simp only [Obj.mapCell, Obj.weak] at hh
   injection hh with h1 h2 h3 h4 h5 h6
   subst h1; subst h5
   exact ⟨⟨hm, fr, e, by rw [eq_of_heq h6]⟩, by trivial⟩
 have hk : ∀ c v, yl (s.cx μ w F) c v -> yl (s'.cx μ w F) (weakCell c) v := by
  intro c v hc
  have hc' := hk0 c v hc
  unfold weakCell
  split
  ·exact zBW (C := s'.cx μ w F) (f := false) (by intro hf; cases hf) hc'
  ·rename_i fr t x off
   obtain ⟨ad, us, h1, h2, h3, h4, h5, h6, h7⟩ := hc'
   exact ⟨ad, us, h1, h2, by simp [Cx.L], h4, h5, h6, zBW (C := s'.cx μ w F) (f := false) (by intro hf; cases hf) h7⟩
  ·exact hc'
 refine ⟨⟨μ, h.change (by rw [<- hg]; simp [S.mapCell]) ?_ ?_ ?_ ?_ ?_ (same_heap h (by rw [<- hg]; simp [S.mapCell]) (by rw [<- hg]; rfl) (by rw [<- hg]; rfl) (fun _ => rfl) fun i => .inr (by rw [hob i]; cases s.obj i <;> exact ⟨rfl, rfl, rfl⟩))⟩, by rw [<- hg]; simp [S.mapCell]⟩
 ·intro i b base hp hmi
  refine ⟨i, (hpres i).1 hp, hmi, fun _ => ?_⟩
  rw [hob i]
  cases s.obj i with
  | absent st => trivial
  | heap D K => trivial
  | hrow e t xs => trivial
  | box st hm cs => trivial
  | row st hm fr e t xs => intro hf; cases hf
 ·intro i j b base base' hp hq
  exact h.inj i j b base base' ((hpres i).1 hp) ((hpres j).1 hq)
 ·have : s'.t = s.t.map (mapCell weakCell) := by rw [<- hg]; rfl
  rw [this]
  exact map_slots hk h.slots
 ·intro i
  rw [hob i]
  have hold := obj_mapF (tm := tm) (C := s.cx μ w F) (C' := s'.cx μ w F) hk rfl rfl hM hD (h.objs i)
  simp only [S.cx] at hold ⊢
  cases hx : s.obj i with
  | absent st => trivial
  | heap D K => trivial
  | hrow e t xs => rw [hx] at hold; exact hold
  | box st hm cs => rw [hx] at hold; exact hold
  | row st hm fr e t xs =>
   rw [hx] at hold
   rcases hold with hold | ⟨b, base, cur, h1, h2, h3, h4⟩
   ·exact .inl hold
   ·exact .inr ⟨b, base, cur, h1, h2, h3, fun i x hxi => zBW (C := s'.cx μ w F) (f := false) (by intro hf; cases hf) (h4 i x hxi)⟩
 ·intro i hi
  rw [hob i] at hi ⊢
  have h1 := h.home i (by cases hx : s.obj i <;> rw [hx] at hi <;> exact hi)
  refine ⟨h1.1, ?_⟩
  rw [<- h1.2]
  cases s.obj i <;> rfl
theorem isRow_spec {x : Obj} {st : Nat} (h : x.isRow st = true) : ∃ hm fr e t, ∃ xs : List (Ty.den t), x = .row st hm fr e t xs := by
 cases x with
 | row st' hm fr e t xs => exact ⟨hm, fr, e, t, xs, by rw [eB h]⟩
 | absent => cases h
 | box => cases h
 | heap => cases h
 | hrow => cases h
theorem isBox_spec {x : Obj} {st : Nat} (h : x.isBox st = true) : ∃ hm cs, x = .box st hm cs := by
 cases x with
 | box st' hm cs => exact ⟨hm, cs, by rw [eB h]⟩
 | absent => cases h
 | row => cases h
 | heap => cases h
 | hrow => cases h
theorem set_taken (h : RepM tm F μ s a w) {K : List (Nat × Nat × Hnd)} (hK : Taken K s.obj μ s.d.length) : RepM tm F μ { s with k := K } a w := by
 have hl := h.hl
 have hl' : ({ s with k := K } : S).h.length <= HP := hl
 have hall : ∀ i, (i ≠ HP /\ ({ s with k := K } : S).obj i = s.obj i) \/ (i = HP /\ ({ s with k := K } : S).obj i = .heap s.d K /\ s.obj i = .heap s.d s.k) := by
  intro i
  rcases zBm i with hi | rfl | ⟨n, rfl⟩
  ·left
   refine ⟨by omega, ?_⟩
   by_cases h1 : i < s.h.length
   ·rw [zB9 (s := { s with k := K }) h1, zB9 h1]
   ·rw [zBR (s := { s with k := K }) (Nat.le_of_not_lt h1), zBR (Nat.le_of_not_lt h1), zBg hi, zBg hi]
  ·right; exact ⟨rfl, zBs hl', zBs hl⟩
  ·left; exact ⟨by omega, by rw [zBQ hl', zBQ hl]⟩
 have hp : ∀ i, yv (({ s with k := K } : S).obj i) -> yv (s.obj i) := by
  intro i hi
  rcases hall i with ⟨_, h1⟩ | ⟨_, h1, _⟩
  ·rw [h1] at hi; exact hi
  ·rw [h1] at hi; exact hi.elim
 have hD : Dle (s.dl μ) (({ s with k := K } : S).dl μ) := Dle.refl _
 obtain ⟨hM, hkc⟩ := heap_kept (F := F) (w := w) (s := s) (s' := { s with k := K }) (μ := μ) (μ' := μ) (fun i hpi b base hm => ⟨i, hp i hpi, hm⟩) hD (fun i => by
  rcases hall i with ⟨_, h1⟩ | ⟨_, h1, h2⟩
  ·rw [h1]; exact ⟨nR _, fun _ => .inl ⟨rfl, rfl⟩⟩
  ·rw [h1, h2]
   exact ⟨nR _, fun _ => .inr ⟨fun _ _ _ hh => (by cases hh), fun _ _ _ _ _ _ hh => (by cases hh)⟩⟩)
 refine h.change rfl ?_ ?_ ?_ ?_ ?_ ⟨hl', hD, ?_⟩
 ·intro i b base hpi hm
  rcases hall i with ⟨_, h1⟩ | ⟨_, h1, _⟩
  ·rw [h1] at hpi ⊢; exact ⟨i, hpi, hm, id⟩
  ·rw [h1] at hpi; exact hpi.elim
 ·intro i j b base base' hpi hpj
  exact h.inj i j b base base' (hp i hpi) (hp j hpj)
 ·intro i v x hv hxx
  exact RepV.map hkc (h.slots i v x hv hxx)
 ·intro i
  rcases hall i with ⟨_, h1⟩ | ⟨_, h1, _⟩
  ·rw [h1]
   have := obj_mapF (tm := tm) (f := fun c => c) hkc rfl rfl hM hD (h.objs i)
   rwa [objId] at this
  ·rw [h1]; trivial
 ·intro i hi
  rcases hall i with ⟨_, h1⟩ | ⟨_, h1, _⟩
  ·rw [h1] at hi ⊢; exact h.home i hi
  ·rw [h1] at hi; cases hi
 ·intro o st x hm
  obtain ⟨t1, t2⟩ := hK o st x hm
  rcases hall o with ⟨_, h1⟩ | ⟨_, h1, h2⟩
  ·rw [h1]; exact ⟨t1, t2⟩
  ·rw [h1]; rw [h2] at t1
   exact ⟨t1, fun _ _ _ _ _ _ _ _ _ hh => by cases hh⟩
theorem g_norm0 (h : RepM tm F μ s a w) (hg : ({ t := s.t.map (Kb.mapCell (zCU s)), h := s.h.map fun x => (x.mapCell (zCU s)).zero, d := s.d, k := [] } : S) = s') : RepM tm F μ s' a w /\ (∀ i, s'.obj i = ((s.obj i).mapCell (zCU s)).zero) /\ s'.h.length = s.h.length := by
 have hob : ∀ i, s'.obj i = ((s.obj i).mapCell (zCU s)).zero := by
  intro i
  rw [<- hg]
  show objOf (s.h.map fun x => (x.mapCell (zCU s)).zero) s.d [] i = _
  rw [objOf_map _ _ s.k [] (fun x => (x.mapCell (zCU s)).zero) ?_]
  ·rfl
  ·intro o; rcases zCL s.d s.k o with h | ⟨h0, h⟩ | ⟨_, _, _, _, h0, h1, h⟩
   ·rw [h]
    rcases zCL s.d [] o with g | ⟨g0, g⟩ | ⟨_, _, _, _, g0, g1, g⟩
    ·rw [g]; rfl
    ·rw [g0, beyond_HP] at h; cases h
    ·rw [g0, beyond_row, g1] at h; cases h
   ·rw [h, h0, beyond_HP]; rfl
   ·rw [h, h0, beyond_row, h1]; rfl
 have hpres : ∀ i, yv (s'.obj i) ↔ yv (s.obj i) := by
  intro i
  rw [hob i]
  cases s.obj i <;> exact Iff.rfl
 have hM : ∀ b, (s'.cx μ w F).M b -> (s.cx μ w F).M b := by
  rintro b (hX | ⟨i, base, hp, hm'⟩)
  ·exact .inl hX
  refine .inr ?_
  exact ⟨i, base, (hpres i).1 hp, hm'⟩
 have hst : ∀ i, (s'.obj i).stamp = 0 := by intro i; rw [hob i]; cases s.obj i <;> rfl
 have hD : Dle (s.dl μ) (s'.dl μ) := by rw [<- hg]; exact Dle.refl _
 have hk : ∀ c v, yl (s.cx μ w F) c v -> yl (s'.cx μ w F) (zCU s c) v := by
  intro c v hc
  unfold zCU
  split
  ·rename_i o st e
   cases hr : (s.obj o).isRow st
   ·trivial
   ·obtain ⟨hm, fr, ec, t, xs, hx⟩ := isRow_spec hr
    obtain ⟨h0, _, h2⟩ := hc
    refine ⟨h0, Nat.zero_le _, fun hm2 fr2 ec2 t2 xs2 hx2 => ?_⟩
    have hx2 : s'.obj o = .row 0 hm2 fr2 ec2 t2 xs2 := hx2
    rw [hob, hx] at hx2
    simp only [Obj.mapCell, Obj.zero] at hx2
    injection hx2 with e1 e2 e3 e4 e5 e6
    subst e5
    rw [<- eq_of_heq e6]
    exact h2 hm fr ec t xs hx
  ·rename_i o st off
   cases hr : (s.obj o).isBox st
   ·trivial
   ·obtain ⟨hm, cs, hx⟩ := isBox_spec hr
    obtain ⟨h0, _, h2⟩ := hc
    exact ⟨h0, Nat.zero_le _, fun hm2 cs2 hx2 => h2 hm cs hx⟩
  ·rename_i o st i off
   cases hr : (s.obj o).isRow st
   ·trivial
   ·obtain ⟨hm, fr, ec, t, xs, hx⟩ := isRow_spec hr
    obtain ⟨h0, _, h2⟩ := hc
    refine ⟨h0, Nat.zero_le _, fun hm2 fr2 ec2 t2 xs2 hx2 => ?_⟩
    have hx2 : s'.obj o = .row 0 hm2 fr2 ec2 t2 xs2 := hx2
    rw [hob, hx] at hx2
    simp only [Obj.mapCell, Obj.zero] at hx2
    injection hx2 with e1 e2 e3 e4 e5 e6
    subst e5
    rw [<- eq_of_heq e6]
    exact h2 hm fr ec t xs hx
  ·rename_i c' n1 n2 n3
   cases c with
   | sl fr t xs => exact den_less (C := s.cx μ w F) (C' := s'.cx μ w F) rfl rfl hM hD hc
   | hnd t q => exact yk.keep (Stp.refl _ _) (fun b _ hb => hM b hb) hD (nR _) hc
   | dptr fr t x off =>
    obtain ⟨ad, us, h1, h2, h3, h4, h5, h6, h7⟩ := hc
    exact ⟨ad, us, h1, h2, h3, h4, fun hb => h5 (hM _ hb), h6, den_less (C := s.cx μ w F) (C' := s'.cx μ w F) rfl rfl hM hD h7⟩
   | ref o st e => exact absurd rfl (n1 o st e)
   | ptr o st off => exact absurd rfl (n2 o st off)
   | eptr o st i off => exact absurd rfl (n3 o st i off)
   | int k n => exact hc
   | bool b => exact hc
   | str b => exact hc
   | nil => exact hc
   | junk => trivial
 refine ⟨h.change (by rw [<- hg]; simp) ?_ ?_ ?_ ?_ ?_ ⟨by rw [<- hg]; simpa using h.hl, hD, by rw [<- hg]; intro o st x hm; cases hm⟩, hob, by rw [<- hg]; simp⟩
 ·intro i b base hp hmi
  refine ⟨i, (hpres i).1 hp, hmi, fun hw => ?_⟩
  rw [hob i]
  cases hx : s.obj i with
  | absent st => trivial
  | heap D K => trivial
  | hrow e t xs => trivial
  | box st hm cs => trivial
  | row st hm fr e t xs => rw [hx] at hw; exact hw
 ·intro i j b base base' hp hq
  exact h.inj i j b base base' ((hpres i).1 hp) ((hpres j).1 hq)
 ·have : s'.t = s.t.map (mapCell (zCU s)) := by rw [<- hg]
  rw [this]
  exact map_slots hk h.slots
 ·intro i
  rw [hob i]
  have hold := obj_mapF (tm := tm) (C := s.cx μ w F) (C' := s'.cx μ w F) hk rfl rfl hM hD (h.objs i)
  simp only [S.cx] at hold ⊢
  cases hx : s.obj i with
  | absent st => trivial
  | heap D K => trivial
  | hrow e t xs => rw [hx] at hold; exact hold
  | box st hm cs => rw [hx] at hold; exact hold
  | row st hm fr e t xs => rw [hx] at hold; exact hold
 ·intro i hi
  rw [hob i] at hi ⊢
  have h1 := h.home i (by cases hx : s.obj i <;> rw [hx] at hi <;> exact hi)
  refine ⟨h1.1, ?_⟩
  rw [<- h1.2]
  cases s.obj i <;> rfl
theorem normTaken_mem {s : S} : ∀ {K : List (Nat × Nat × Hnd)} {o st : Nat} {x : Hnd}, (o, st, x) ∈ normTaken s K -> st = 0 /\ ∃ st', (o, st', x) ∈ K /\ (s.obj o).isRow st' = true
 | (o', st', y) :: r, o, st, x, h => by
  simp only [normTaken] at h
  split at h
  ·rename_i hr
   cases h with
   | head => exact ⟨rfl, st', .head _, hr⟩
   | tail _ h =>
    obtain ⟨h1, st2, h2, h3⟩ := normTaken_mem (K := r) h
    exact ⟨h1, st2, .tail _ h2, h3⟩
  ·obtain ⟨h1, st2, h2, h3⟩ := normTaken_mem (K := r) h
   exact ⟨h1, st2, .tail _ h2, h3⟩
theorem g_norm (h : RepM tm F μ s a w) (hg : s.ghost .norm = some s') : Rep tm F s' a w /\ s'.h.length = s.h.length := by
 simp only [S.ghost] at hg
 injection hg with hg
 obtain ⟨h1, hob, hlen⟩ := g_norm0 h rfl
 have h2 := set_taken (K := normTaken s s.k) h1 (by
  intro o st x hm
  obtain ⟨rfl, st', hm, hr⟩ := normTaken_mem hm
  obtain ⟨_, t2⟩ := h.taken o st' x hm
  refine ⟨Nat.zero_le _, fun k lo len hx hm' fr e t xs _ => ?_⟩
  obtain ⟨hm2, fr2, e2, t2', xs2, ho⟩ := isRow_spec hr
  exact t2 k lo len hx hm2 fr2 e2 t2' xs2 ho)
 subst hg
 exact ⟨⟨μ, h2⟩, hlen⟩
def Loc.ok (_ : Loc) : Bool := true
theorem g_hpub (h : RepM tm F μ s a w) (o : Nat) (hg : s.ghost (.hpub o) = some s') : Rep tm F s' a w /\ s'.h.length = s.h.length := by
 simp only [S.ghost] at hg
 split at hg
 ·rename_i st fr e t xs hx
  split at hg <;> try (cases hg; done)
  rename_i hp
  injection hg with hg
  have hlt := row_lt hx
  have hl := h.hl
  refine ⟨⟨_, pub_core (f := zBu o st s.d.length xs.length t) h hx hp (.inr fun _ => rfl) ?_ (by rw [<- hg]; simp [S.mapCell]) (by rw [<- hg]) (by rw [<- hg]; rfl) (by rw [<- hg]; simp [S.mapCell]) ?_⟩, by rw [<- hg]; simp [S.mapCell]⟩
  ·intro i hi
   rw [<- hg]
   have e3 : S.obj { (s.mapCell (zBu o st s.d.length xs.length t)) with h := (s.mapCell (zBu o st s.d.length xs.length t)).h.set o (.absent (st + 1)), d := s.d ++ [.row e t xs] } i =
     S.obj { (s.mapCell (zBu o st s.d.length xs.length t)) with h := (s.mapCell (zBu o st s.d.length xs.length t)).h.set o (.absent (st + 1)) } i := by
    by_cases h1 : i < s.h.length
    ·rw [zB9 (by simpa [S.mapCell] using h1), zB9 (by simpa [S.mapCell] using h1)]
    ·rw [zBR (by simp [S.mapCell]; omega), zBR (by simp [S.mapCell]; omega), zBg hi, zBg hi]
   have hlm : (s.mapCell (zBu o st s.d.length xs.length t)).h.length = s.h.length := by simp [S.mapCell]
   rw [e3, setH_obj, mapCell_obj, hlm]
   by_cases hio : i = o
   ·rw [if_pos hio, if_pos ⟨hio, by omega⟩]
   ·rw [if_neg hio, if_neg fun hh => hio hh.1]
  ·intro i v' hv'
   rw [<- hg] at hv'
   have hv' : (s.t.map (mapCell (zBu o st s.d.length xs.length t)))[i]? = some v' := hv'
   rw [List.getElem?_map] at hv'
   cases hu : s.t[i]? with
   | none => rw [hu] at hv'; cases hv'
   | some u => rw [hu] at hv'; injection hv' with hv'; exact ⟨u, rfl, .inr hv'.symm⟩
 ·injection hg with hg
  subst hg
  exact ⟨⟨μ, h⟩, rfl⟩
theorem g_hput (h : RepM tm F μ s a w) (o : Nat) (hg : s.ghost (.hput o) = some s') : Rep tm F s' a w /\ s'.h.length = s.h.length := by
 simp only [S.ghost] at hg
 split at hg
 ·injection hg with hg
  subst hg
  exact ⟨⟨μ, h⟩, rfl⟩
 rename_i o' st' q K hk
 have hdrop : Rep tm F { s with k := K } a w /\ ({ s with k := K } : S).h.length = s.h.length := ⟨⟨μ, set_taken h fun o st x hx => h.taken o st x (by rw [hk]; exact .tail _ hx)⟩, rfl⟩
 split at hg <;> try (cases hg; done)
 rename_i hoo
 have hoo := eB hoo
 subst hoo
 split at hg
 ·rename_i st fr e t xs hx
  split at hg
  ·rename_i hb
   simp only [bA] at hb
   injection hg with hg
   have h2 := eB hb.1
   subst h2
   exact ⟨⟨μ, put_core h hx hb.2 hk hg.symm⟩, by rw [<- hg]; simp⟩
  ·injection hg with hg; subst hg; exact hdrop
 ·injection hg with hg; subst hg; exact hdrop
def ghostOk (n : Nat) : Ghost -> Bool
 | .rename _ o' => Nat.blt o' n
 | .mkrow _ o _ _ => Nat.blt o n
 | _ => true
def ghostsOk (n : Nat) : List Ghost -> Bool
 | [] => true
 | g :: r => ghostOk n g && ghostsOk n r
theorem ghost_sound {g : Ghost} (hok : ghostOk s.h.length g = true) (h : Rep tm F s a w) (hg : s.ghost g = some s') : Rep tm F s' a w /\ s'.h.length = s.h.length := by
 obtain ⟨μ, h⟩ := h
 cases g with
 | freeze o => exact g_freeze h o hg
 | rename o o' => exact g_rename h o o' (by simpa [ghostOk, Nat.blt_eq] using hok) hg
 | mkrow l o e t =>
  have ho : o < s.h.length := by simpa [ghostOk, Nat.blt_eq] using hok
  cases l with
  | slot n => exact g_mkrow_slot h n o e t ho hg
  | boxc b i => exact g_mkrow_box h b i o e t ho hg
 | unnil l t =>
  cases l with
  | slot n => exact g_unnil_slot h n t hg
  | boxc b i => exact g_unnil_box h b i t hg
 | keep l => exact g_keep h l hg
 | drop o => exact g_drop h o hg
 | away o => exact g_away h o hg
 | weak => exact g_weak h hg
 | norm => exact g_norm h hg
 | hpub o => exact g_hpub h o hg
 | hput o => exact g_hput h o hg
theorem putAll_ok (n : Nat) : ∀ K, ghostsOk n (putAll K) = true
 | [] => rfl
 | (o, st, q) :: r => by simp [putAll, ghostsOk, ghostOk, putAll_ok n r]
theorem ghosts_sound : ∀ {gs : List Ghost} {s s' : S}, ghostsOk s.h.length gs = true -> Rep tm F s a w -> s.ghosts gs = some s' -> Rep tm F s' a w /\ s'.h.length = s.h.length := by
 intro gs
 induction gs with
 | nil => intro s s' _ h hg; simp only [S.ghosts] at hg; injection hg with hg; subst hg; exact ⟨h, rfl⟩
 | cons g r ih =>
  intro s s' hok h hg
  simp only [ghostsOk, bA] at hok
  simp only [S.ghosts] at hg
  split at hg
  ·rename_i s1 hs1
   obtain ⟨h1, h2⟩ := ghost_sound hok.1 h hs1
   obtain ⟨h3, h4⟩ := ih (by rw [h2]; exact hok.2) h1 hg
   exact ⟨h3, h4.trans h2⟩
  ·cases hg
end
end Go.Kb
/- Code does what its abstract code does. -/
namespace Go.Kb
def codeOk (E : Env1) (nobj : Nat) : XCode -> Code -> Bool
 | .skip, c => match c with
  | .skip => true
  | _ => false
 | .region d xs, c => match c with
  | .region _ ops d' => d == d' && (opsOk E nobj ops ops.toList xs && (!d || drawAll ops xs ops.size))
  | _ => false
 | .seq x y, c => match c with
  | .seq a b => codeOk E nobj x a && codeOk E nobj y b
  | _ => false
 | .cond z x y, c => match c with
  | .cond o a b => argOk z o && (codeOk E nobj x a && codeOk E nobj y b)
  | _ => false
 | .block i x, c => match c with
  | .block j a => Nat.beq i j && codeOk E nobj x a
  | _ => false
 | .loop h x, c => match c with
  | .loop a => ghostsOk nobj h && codeOk E nobj x a
  | _ => false
 | .exit i, c => match c with
  | .exit j => Nat.beq i j
  | _ => false
 | .ret, c => match c with
  | .ret => true
  | _ => false
 | .adj h x, c => ghostsOk nobj h && codeOk E nobj x c
def exOf : Ex -> Exit
 | .normal => .normal
 | .exit id => .exit id
 | .ret => .ret
section
variable {E : Env1} {F : Fx} {fs : Nat -> FS} {nobj : Nat}
def Post (E : Env1) (F : Fx) (nobj : Nat) {R : Type} (k : Ex -> S -> Option R) (r : R) (e : Exit) (a : Act) (w : World) : Prop :=
 ∃ ex s, e = exOf ex /\ s.h.length = nobj /\ Rep E.tm F s a w /\ k ex s = some r
theorem code_sound (heqT : ∀ T t, E.eqT T t = true -> eqTB E.P T t = true) (hcall : CallOk E F fs nobj) (hmix : E.P.follows .mixedOrders = true) (N : Nat) :
  ∀ (x : XCode) (c : Code), codeOk E nobj x c = true -> ∀ {R : Type} (s : S) (k : Ex -> S -> Option R) (r : R) (a : Act) (w : World), x.runK (envOf fs) N s k = some r -> s.h.length = nobj -> Rep E.tm F s a w ->
   c.wp E.P (Post E F nobj k r) a w := by
 intro x
 induction x with
 | skip =>
  intro c hok R s k r a w h hn hr
  simp only [codeOk] at hok
  split at hok <;> try (cases hok; done)
  exact wp_skip ⟨.normal, s, rfl, hn, hr, h⟩
 | region d xs =>
  intro c hok R s k r a w h hn hr
  simp only [codeOk] at hok
  split at hok <;> try (cases hok; done)
  rename_i id ops d'
  simp only [bA] at hok
  obtain ⟨h1, h2, h3⟩ := hok
  have h1 : d = d' := by simpa using h1
  subst h1
  simp only [XCode.runK] at h
  have hQ : ∀ s a w, s.h.length = nobj -> Rep E.tm F s a w -> k .normal s = some r -> Post E F nobj k r .normal a w := fun s a w hn hr hk => ⟨.normal, s, rfl, hn, hr, hk⟩
  cases d with
  | false => exact region_seq heqT hcall h2 hQ h hn hr
  | true => exact region_any heqT hcall hmix h2 (by simpa using h3) hQ h hn hr
 | seq x y ihx ihy =>
  intro c hok R s k r a w h hn hr
  simp only [codeOk] at hok
  split at hok <;> try (cases hok; done)
  simp only [bA] at hok
  simp only [XCode.runK] at h
  refine wp_seq (wp_mono (ihx _ hok.1 s _ r a w h hn hr) ?_)
  rintro e a' w' ⟨ex, s', rfl, hn', hr', hk⟩
  cases ex with
  | normal => exact ihy _ hok.2 s' k r a' w' hk hn' hr'
  | exit id => exact ⟨.exit id, s', rfl, hn', hr', hk⟩
  | ret => exact ⟨.ret, s', rfl, hn', hr', hk⟩
 | cond z x y ihx ihy =>
  intro c hok R s k r a w h hn hr
  simp only [codeOk] at hok
  split at hok <;> try (cases hok; done)
  rename_i o ca cb
  simp only [bA] at hok
  simp only [XCode.runK] at h
  split at h <;> try (cases h; done)
  rename_i b hb
  obtain ⟨μ, hr'⟩ := hr
  have hv := arg_rep hr' hok.1
  rw [hb] at hv
  have hv : a.eval o = .bool b := hv
  refine wp_cond hv ?_
  cases b with
  | true => exact ihx _ hok.2.1 s k r a w h hn ⟨μ, hr'⟩
  | false => exact ihy _ hok.2.2 s k r a w h hn ⟨μ, hr'⟩
 | block i x ih =>
  intro c hok R s k r a w h hn hr
  simp only [codeOk] at hok
  split at hok <;> try (cases hok; done)
  simp only [bA] at hok
  have hi := eB hok.1
  subst hi
  simp only [XCode.runK] at h
  refine wp_block (wp_mono (ih _ hok.2 s _ r a w h hn hr) ?_)
  rintro e a' w' ⟨ex, s', rfl, hn', hr', hk⟩
  cases ex with
  | normal => exact ⟨.normal, s', rfl, hn', hr', hk⟩
  | exit id =>
   simp only [exOf, Exit.inBlock]
   simp only [y7] at hk
   split at hk
   ·rename_i hb
    have := eB hb
    rw [if_pos this]
    exact ⟨.normal, s', rfl, hn', hr', hk⟩
   ·rename_i hb
    rw [if_neg fun hh => by rw [hh] at hb; simp at hb]
    exact ⟨.exit id, s', rfl, hn', hr', hk⟩
  | ret => exact ⟨.ret, s', rfl, hn', hr', hk⟩
 | loop g x ih =>
  intro c hok R s k r a w h hn hr
  simp only [codeOk] at hok
  split at hok <;> try (cases hok; done)
  rename_i body
  simp only [bA] at hok
  simp only [XCode.runK] at h
  obtain ⟨s1, hs1, h⟩ := zBL h
  subst hn
  obtain ⟨hr1, hn1⟩ := ghosts_sound hok.1 hr hs1
  refine wp_loop_ghost (fun n a w => ∃ s', loopK g (fun s k => x.runK (envOf fs) N s k) n s' k = some r /\ s'.h.length = s.h.length /\ Rep E.tm F s' a w) N ⟨s1, h, hn1, hr1⟩ ?_
  rintro n a' w' ⟨s2, h2, hn2, hr2⟩
  cases n with
  | zero => cases h2
  | succ n =>
   simp only [loopK] at h2
   refine wp_mono (ih _ hok.2 s2 _ r a' w' h2 hn2 hr2) ?_
   rintro e a3 w3 ⟨ex, s3, rfl, hn3, hr3, hk⟩
   cases ex with
   | normal =>
    simp only [seqK] at hk
    obtain ⟨s4, hs4, hk⟩ := zBL hk
    obtain ⟨hr4, hn4⟩ := ghosts_sound (by rw [hn3]; exact hok.1) hr3 hs4
    exact ⟨n, Nat.lt_succ_self n, s4, hk, hn4.trans hn3, hr4⟩
   | exit id => exact ⟨.exit id, s3, rfl, hn3, hr3, hk⟩
   | ret => exact ⟨.ret, s3, rfl, hn3, hr3, hk⟩
 | exit i =>
  intro c hok R s k r a w h hn hr
  simp only [codeOk] at hok
  split at hok <;> try (cases hok; done)
  have hi := eB hok
  subst hi
  exact wp_exit ⟨.exit i, s, rfl, hn, hr, h⟩
 | ret =>
  intro c hok R s k r a w h hn hr
  simp only [codeOk] at hok
  split at hok <;> try (cases hok; done)
  exact wp_ret ⟨.ret, s, rfl, hn, hr, h⟩
 | adj g x ih =>
  intro c hok R s k r a w h hn hr
  simp only [codeOk, bA] at hok
  simp only [XCode.runK] at h
  obtain ⟨s1, hs1, h⟩ := zBL h
  subst hn
  obtain ⟨hr1, hn1⟩ := ghosts_sound hok.1 hr hs1
  exact ih _ hok.2 s1 k r a w h hn1 hr1
end
end Go.Kb
/- What a function does for its caller. -/
namespace Go.Kb
def zBV (w : World) (M : Nat -> Prop) (δ : Dl) (B : Nat) : Cell -> Value -> Prop
 | .int k n, v => v = .int k n
 | .bool b, v => v = .bool b
 | .str s, v => ∃ b : ByteArray, v = .string b /\ b.data.toList = s
 | .nil, v => v = .slice none 0 0
 | .sl fr t xs, v => yk w M δ (if fr then B else 0) (.list t) xs [v]
 | .hnd t h, v => yk w M δ 0 (.hnd t) h [v]
 | _, _ => False
def RowAt (tm : Nat -> TypeId) (w : World) (M : Nat -> Prop) (δ : Dl) (B : Nat) (m : Option (Nat × Nat)) (fr : Bool) (e : Nat) (t : Ty) (xs : List t.den) : Prop :=
 (m = none /\ xs = []) \/ ∃ b base cur, m = some (b, base) /\ w.heap[b]? = some (.cells cur (tm e) (0, 0)) /\ base + xs.length * t.sz <= cur.size /\ RepElems w M δ (if fr then B else 0) t base cur xs
def ParsR (w : World) (home : Nat -> Option (Nat × Nat)) : List FPar -> List Value -> List Value -> Prop
 | [], [], raw => raw = []
 | .val true n :: ps, v :: vs, raw => ∃ us rest, v = .agg us.toArray /\ us.length = n /\ raw = us ++ rest /\ ParsR w home ps vs rest
 | .val false n :: ps, v :: vs, raw => ∃ rest, n = 1 /\ raw = v :: rest /\ ParsR w home ps vs rest
 | .box o n :: ps, v :: vs, raw => ∃ b us T rest, home o = some (b, 0) /\ v = .pointer (some ⟨b, 0, none⟩) /\ w.heap[b]? = some (.cells (List.toArray us) T (0, 0)) /\ us.length = n /\ raw = us ++ rest /\ ParsR w home ps vs rest
 | _, _, _ => False
def InR (tm : Nat -> TypeId) (w : World) (M : Nat -> Prop) (δ : Dl) (B : Nat) (home : Nat -> Option (Nat × Nat)) (shape : Nat -> Option (Nat × Ty × Nat)) : List (Option (Nat × Nat)) -> List Cell -> List Value -> Prop
 | [], [], [] => True
 | none :: ms, c :: cs, v :: vs => zBV w M δ B c v /\ InR tm w M δ B home shape ms cs vs
 | some (o, e) :: ms, .sl fr t xs :: cs, v :: vs => (zCE w (home o) t.sz xs.length 0 xs.length v /\ RowAt tm w M δ B (home o) fr e t xs /\ shape o = some (e, t, xs.length)) /\ InR tm w M δ B home shape ms cs vs
 | _, _, _ => False
def RetR (w : World) : List RetS -> List Value -> List Value -> List Nat -> Prop
 | [], [], raw, bs => raw = [] /\ bs = []
 | .val true n :: ps, v :: vs, raw, bs => ∃ us rest, v = .agg us.toArray /\ us.length = n /\ raw = us ++ rest /\ RetR w ps vs rest bs
 | .val false n :: ps, v :: vs, raw, bs => ∃ rest, n = 1 /\ raw = v :: rest /\ RetR w ps vs rest bs
 | .ptr n :: ps, v :: vs, raw, bs => ∃ b us T rest bs', v = .pointer (some ⟨b, 0, none⟩) /\ w.heap[b]? = some (.cells (List.toArray us) T (0, 0)) /\ us.length = n /\ raw = us ++ rest /\ bs = b :: bs' /\ RetR w ps vs rest bs'
 | _, _, _, _ => False
def BoxR (w : World) (home : Nat -> Option (Nat × Nat)) : List FPar -> List Value -> Prop
 | [], raw => raw = []
 | .val _ _ :: ps, raw => BoxR w home ps raw
 | .box o n :: ps, raw => ∃ b us T rest, home o = some (b, 0) /\ w.heap[b]? = some (.cells (List.toArray us) T (0, 0)) /\ us.length = n /\ raw = us ++ rest /\ BoxR w home ps rest
def OutR (tm : Nat -> TypeId) (w : World) (M : Nat -> Prop) (δ : Dl) (B : Nat) (home : Nat -> Option (Nat × Nat)) (shape : Nat -> Option (Nat × Ty × Nat)) : List OutF -> List Cell -> List Value -> List (Option (Nat × Nat)) -> Prop
 | [], [], [], L => L = []
 | .imm :: ms, c :: cs, v :: vs, L => zBV w M δ B c v /\ OutR tm w M δ B home shape ms cs vs L
 | .own e :: ms, .sl fr t xs :: cs, v :: vs, L => ∃ m L', L = m :: L' /\ (zCE w m t.sz xs.length 0 xs.length v /\ RowAt tm w M δ B m fr e t xs /\ (fr = true -> ∀ b base, m = some (b, base) -> B <= b)) /\ OutR tm w M δ B home shape ms cs vs L'
 | .back o :: ms, .sl fr t xs :: cs, vs, L => (∃ e, shape o = some (e, t, xs.length) /\ RowAt tm w M δ B (home o) fr e t xs) /\ OutR tm w M δ B home shape ms cs vs L
 | _, _, _, _ => False
def Sig.inObjs (g : Sig) : List Nat := zBI g.pars ++ zAb g.rowsIn
def Sig.inBlocks (g : Sig) (home : Nat -> Option (Nat × Nat)) (b : Nat) : Prop := ∃ o base, o ∈ g.inObjs /\ home o = some (b, base)
def Sig.outMs (g : Sig) (home : Nat -> Option (Nat × Nat)) (bs : List Nat) (ms : List (Option (Nat × Nat))) : List (Option (Nat × Nat)) :=
 (bs.map fun b => some (b, 0)) ++ (ms ++ ((zBI g.pars).map home ++ (zCI g.outs).map home))
def Apart (m m' : Option (Nat × Nat)) : Prop := ∀ b base base', m = some (b, base) -> m' = some (b, base') -> False
def oneOrTuple : List Value -> Value
 | [x] => x
 | l => .tuple l.toArray
def Cell.isSl : Cell -> Bool
 | .sl _ _ _ => true
 | _ => false
def Ty.kinds : Ty -> List Bool
 | .int _ | .bool | .str | .hnd _ => [false]
 | .unit => []
 | .pair a b => a.kinds ++ b.kinds
 | .list _ => [true]
theorem cells_kinds (fr : Bool) : ∀ (t : Ty) (x : t.den), (t.cells fr x).map Cell.isSl = t.kinds := by
 intro t
 induction t with
 | pair a b iha ihb => intro x; simp only [Ty.cells, Ty.kinds, List.map_append]; rw [iha, ihb]
 | _ => intro x; rfl
def rowsK : List (Option (Nat × Nat)) -> List Bool -> Bool
 | [], [] => true
 | none :: r, _ :: k => rowsK r k
 | some _ :: r, b :: k => b && rowsK r k
 | _, _ => false
def outsK : List OutF -> List Bool -> Bool
 | [], [] => true
 | .imm :: r, _ :: k => outsK r k
 | .own _ :: r, b :: k => b && outsK r k
 | .back _ :: r, b :: k => b && outsK r k
 | _, _ => false
def isHRow : Option HRow -> Bool
 | some (.row _ _ _) => true
 | _ => false
def zBZ (D : List HRow) : List Nat := (List.range D.length).filter fun k => isHRow D[k]?
def heapMs (D : List HRow) (hd : Nat -> Option (Nat × Nat)) : List (Option (Nat × Nat)) := (zBZ D).map hd
theorem zB3 {D : List HRow} {k : Nat} : k ∈ zBZ D ↔ ∃ e t, ∃ xs : List (Ty.den t), D[k]? = some (.row e t xs) := by
 unfold zBZ
 rw [List.mem_filter, List.mem_range]
 constructor
 ·rintro ⟨_, h⟩
  cases hd : D[k]? with
  | none => rw [hd] at h; cases h
  | some r =>
   cases r with
   | gone => rw [hd] at h; cases h
   | row e t xs => exact ⟨e, t, xs, rfl⟩
 ·rintro ⟨e, t, xs, h⟩
  exact ⟨(List.getElem?_eq_some_iff.1 h).1, by rw [h]; rfl⟩
theorem heapKs_nodup (D : List HRow) : (zBZ D).Nodup := List.Pairwise.filter _ List.nodup_range
def HRowAt (tm : Nat -> TypeId) (w : World) (m : Option (Nat × Nat)) (e : Nat) (t : Ty) (xs : List t.den) : Prop :=
 t.pure = true /\ ((m = none /\ xs = []) \/ ∃ b base cur, m = some (b, base) /\ w.heap[b]? = some (.cells cur (tm e) (0, 0)) /\ base + xs.length * t.sz <= cur.size /\ RepElems w (fun _ => False) (fun _ => none) 0 t base cur xs)
def HeapR (tm : Nat -> TypeId) (w : World) (hd : Nat -> Option (Nat × Nat)) (D : List HRow) : Prop :=
 ∀ k e t xs, D[k]? = some (.row e t xs) -> HRowAt tm w (hd k) e t xs
theorem pure_den {w w' : World} {M M' : Nat -> Prop} {δ δ' : Dl} {L L' : Nat} : ∀ {t : Ty} {x : t.den} {vs : List Value}, t.pure = true -> yk w M δ L t x vs -> yk w' M' δ' L' t x vs := by
 intro t
 induction t with
 | int k => exact fun _ h => h
 | bool => exact fun _ h => h
 | str => exact fun _ h => h
 | unit => exact fun _ h => h
 | pair t u iht ihu =>
  intro x vs hf h
  simp only [Ty.pure, bA] at hf
  obtain ⟨p, q, rfl, hp, hq⟩ := h
  exact ⟨p, q, rfl, iht hf.1 hp, ihu hf.2 hq⟩
 | list t _ => intro x vs hf; cases hf
 | hnd t _ => intro x vs hf; cases hf
theorem hrow_at {tm : Nat -> TypeId} {C : Cx} {m : Option (Nat × Nat)} {e : Nat} {t : Ty} {xs : List t.den} : zBU tm C m (.hrow e t xs) ↔ HRowAt tm C.w m e t xs := by
 constructor
 ·rintro ⟨h1, h2⟩
  refine ⟨h1, h2.imp id ?_⟩
  rintro ⟨b, base, cur, g1, g2, g3, g4⟩
  exact ⟨b, base, cur, g1, g2, g3, fun i x hx => pure_den h1 (g4 i x hx)⟩
 ·rintro ⟨h1, h2⟩
  refine ⟨h1, h2.imp id ?_⟩
  rintro ⟨b, base, cur, g1, g2, g3, g4⟩
  exact ⟨b, base, cur, g1, g2, g3, fun i x hx => pure_den h1 (g4 i x hx)⟩
def heapB (D : List HRow) (home : Nat -> Option (Nat × Nat)) (b : Nat) : Prop := ∃ k base, k ∈ zBZ D /\ home (HP + 1 + k) = some (b, base)
def Sig.mayW (g : Sig) (home : Nat -> Option (Nat × Nat)) (D : List HRow) (b : Nat) : Prop := g.inBlocks home b \/ heapB D home b
def FS.runs (f : FS) (x : f.arg.den) (D : List HRow) (r : f.ret.den) (D' : List HRow) : Prop :=
 match f.hp with
 | false => f.F x = some r /\ D' = []
 | true => f.H x D = some (r, D')
structure OutPost (tm : Nat -> TypeId) (g : Sig) (f : FS) (w : World) (B : Nat) (X : Nat -> Prop) (home : Nat -> Option (Nat × Nat)) (shape : Nat -> Option (Nat × Ty × Nat)) (D : List HRow) (r : f.ret.den) (D' : List HRow) (v : Value) (w' : World) : Prop where
 step : Stp (g.mayW home D) w w'
 out : ∃ (vals rawA rawB : List Value) (bs : List Nat) (ms : List (Option (Nat × Nat))) (hd : Nat -> Option (Nat × Nat)),
  v = oneOrTuple vals /\ RetR w' g.rets vals rawA bs /\ BoxR w' home g.pars rawB /\
  ((f.hp = true -> D.length <= D'.length) /\ (∀ k, k < D.length -> hd (HP + 1 + k) = home (HP + 1 + k)) /\ HeapR tm w' (fun k => hd (HP + 1 + k)) D') /\
  OutR tm w' (fun b => X b \/ ∃ base, some (b, base) ∈ g.outMs home bs ms ++ heapMs D' (fun k => hd (HP + 1 + k))) (dlOf D'.length hd) B home shape g.outs (f.ret.cells (f.fresh || f.keep) r) (rawA ++ rawB) ms /\
  (g.outMs home bs ms ++ heapMs D' (fun k => hd (HP + 1 + k))).Pairwise Apart /\
  ∀ b base, some (b, base) ∈ g.outMs home bs ms ++ heapMs D' (fun k => hd (HP + 1 + k)) -> (w.heap.size <= b \/ g.mayW home D b) /\ b < w'.heap.size
def Sound (P : Program) (tm : Nat -> TypeId) (G : Nat -> Prop) (Q : World -> Prop) (fid : FuncId) (g : Sig) (f : FS) : Prop :=
 (rowsK g.rowsIn f.arg.kinds = true /\ f.hp = g.hp) /\ ∀ (w : World) (B : Nat) (X : Nat -> Prop) (home : Nat -> Option (Nat × Nat)) (shape : Nat -> Option (Nat × Ty × Nat)) (args raw : List Value) (D : List HRow) (x : f.arg.den) (r : f.ret.den) (D' : List HRow),
  (∀ b, G b -> b < w.heap.size /\ ¬ g.mayW home D b) -> Q w -> B <= w.heap.size -> (f.keep = false -> B = w.heap.size) -> (f.keep = true -> ∀ o b base, o ∈ zAb g.rowsIn -> home o = some (b, base) -> B <= b) ->
  (∀ b, X b -> b < w.heap.size /\ ¬ g.mayW home D b) ->
  (∀ o o' b base base', o ∈ g.inObjs -> o' ∈ g.inObjs -> home o = some (b, base) -> home o' = some (b, base') -> o = o') ->
  (∀ o b base, o ∈ g.inObjs -> home o = some (b, base) -> b < w.heap.size) ->
  ((f.hp = false -> D = []) /\ HeapR tm w (fun k => home (HP + 1 + k)) D /\ (∀ b, heapB D home b -> b < w.heap.size /\ ¬ g.inBlocks home b) /\
    ∀ k k' b base base', k ∈ zBZ D -> k' ∈ zBZ D -> home (HP + 1 + k) = some (b, base) -> home (HP + 1 + k') = some (b, base') -> k = k') ->
  ParsR w home g.pars args raw ->
  InR tm w (fun b => X b \/ g.mayW home D b) (dlOf D.length home) B home shape g.rowsIn (f.arg.cells f.keep x) raw ->
  f.runs x D r D' ->
  Calls P fid args.toArray w (fun e w' => ∃ v, e = .returned v /\ OutPost tm g f w B X home shape D r D' v w')
def Same (fr : Bool) : Cell -> Cell -> Prop
 | .int k n, c => c = .int k n
 | .bool b, c => c = .bool b
 | .str s, c => c = .str s
 | .nil, c => (∃ t, c = .sl fr t []) \/ ∃ t, c = .hnd t none
 | .sl g t xs, c => c = .sl fr t xs /\ (fr = true -> g = true)
 | .hnd t h, c => c = .hnd t h
 | _, _ => False
def Sames (fr : Bool) : List Cell -> List Cell -> Prop
 | [], [] => True
 | c :: cs, d :: ds => Same fr c d /\ Sames fr cs ds
 | _, _ => False
theorem Sames.append {fr : Bool} : ∀ {a b c d : List Cell}, Sames fr a b -> Sames fr c d -> Sames fr (a ++ c) (b ++ d)
 | [], [], _, _, _, h => h
 | _ :: _, _ :: _, _, _, h, k => ⟨h.1, Sames.append h.2 k⟩
 | [], _ :: _, _, _, h, _ => h.elim
 | _ :: _, [], _, _, h, _ => h.elim
theorem ofCells_sames (fr : Bool) : ∀ {t : Ty} {cs : List Cell} {f : Bool} {x : t.den} {r : List Cell}, t.ofCells noLook cs = some (f, x, r) -> (fr = true -> f = true) ->
  ∃ pre, cs = pre ++ r /\ Sames fr pre (t.cells fr x) := by
 intro t
 induction t with
 | int k =>
  intro cs f x r h hf
  simp only [Ty.ofCells] at h
  split at h <;> try (cases h; done)
  rename_i j n r'
  split at h <;> try (cases h; done)
  rename_i hb
  have := IntKind.code_inj (eB hb); subst this
  injection h with h; injection h with h1 h2; injection h2 with h2 h3; subst h1; subst h2; subst h3
  exact ⟨[_], rfl, rfl, trivial⟩
 | bool =>
  intro cs f x r h hf
  simp only [Ty.ofCells] at h
  split at h <;> try (cases h; done)
  injection h with h; injection h with h1 h2; injection h2 with h2 h3; subst h1; subst h2; subst h3
  exact ⟨[_], rfl, rfl, trivial⟩
 | str =>
  intro cs f x r h hf
  simp only [Ty.ofCells] at h
  split at h <;> try (cases h; done)
  injection h with h; injection h with h1 h2; injection h2 with h2 h3; subst h1; subst h2; subst h3
  exact ⟨[_], rfl, rfl, trivial⟩
 | unit =>
  intro cs f x r h hf
  simp only [Ty.ofCells] at h
  injection h with h; injection h with h1 h2; injection h2 with h2 h3; subst h1; subst h3
  exact ⟨[], rfl, trivial⟩
 | pair t u iht ihu =>
  intro cs f x r h hf
  simp only [Ty.ofCells] at h
  split at h <;> try (cases h; done)
  rename_i f1 x1 r1 h1
  split at h <;> try (cases h; done)
  rename_i f2 x2 r2 h2
  injection h with h; injection h with e1 e2; injection e2 with e2 e3; subst e1; subst e2; subst e3
  obtain ⟨p, rfl, hp⟩ := iht h1 (fun hh => by have := hf hh; simp at this; exact this.1)
  obtain ⟨q, rfl, hq⟩ := ihu h2 (fun hh => by have := hf hh; simp at this; exact this.2)
  exact ⟨p ++ q, by simp, hp.append hq⟩
 | list t _ =>
  intro cs f x r h hf
  simp only [Ty.ofCells] at h
  split at h <;> try (cases h; done)
  rename_i c r'
  split at h <;> try (cases h; done)
  rename_i f1 xs h1
  injection h with h; injection h with e1 e2; injection e2 with e2 e3; subst e1; subst e2; subst e3
  refine ⟨[c], rfl, ?_, trivial⟩
  unfold listOf at h1
  split at h1 <;> try (cases h1; done)
  ·injection h1 with h1; injection h1 with e1 e2; subst e1; subst e2
   exact .inl ⟨t, rfl⟩
  ·split at h1 <;> try (cases h1; done)
   rename_i hb
   have := Ty.eq_of_beq hb; subst this
   injection h1 with h1; injection h1 with e1 e2; subst e1; subst e2
   exact ⟨rfl, hf⟩
 | hnd t _ =>
  intro cs f x r h hf
  simp only [Ty.ofCells] at h
  split at h <;> try (cases h; done)
  ·rename_i u q r'
   split at h <;> try (cases h; done)
   rename_i hb
   have := Ty.eq_of_beq hb; subst this
   injection h with h; injection h with e1 e2; injection e2 with e2 e3; subst e1; subst e2; subst e3
   exact ⟨[_], rfl, rfl, trivial⟩
  ·injection h with h; injection h with e1 e2; injection e2 with e2 e3; subst e1; subst e2; subst e3
   exact ⟨[_], rfl, .inr ⟨t, rfl⟩, trivial⟩
def unfl : Cell -> Cell
 | .sl _ t xs => .sl false t xs
 | c => c
theorem cells_unfl (fr : Bool) : ∀ (t : Ty) (x : t.den), (t.cells fr x).map unfl = t.cells false x := by
 intro t
 induction t with
 | pair a b iha ihb => intro x; simp only [Ty.cells, List.map_append]; rw [iha, ihb]
 | _ => intro x; rfl
theorem zBV.rep {C : Cx} {c : Cell} {v : Value} (h : zBV C.w C.M C.dl C.B c v) : yl C c v := by
 cases c with
 | sl fr t xs => exact h
 | hnd t q => exact h
 | int => exact h
 | bool => exact h
 | str => exact h
 | nil => exact h
 | _ => exact h.elim
theorem zBV.same {w : World} {M : Nat -> Prop} {δ : Dl} {B : Nat} {fr : Bool} {c d : Cell} {v : Value} (h : zBV w M δ B c v) (hs : Same fr c d) : zBV w M δ B d v := by
 cases c with
 | int k n => have hs : d = .int k n := hs; subst hs; exact h
 | bool b => have hs : d = .bool b := hs; subst hs; exact h
 | str s => have hs : d = .str s := hs; subst hs; exact h
 | nil =>
  have h : v = .slice none 0 0 := h
  subst h
  rcases hs with ⟨t, rfl⟩ | ⟨t, rfl⟩
  ·exact nil_den _ _ _ _ t
  ·exact ⟨_, rfl, rfl⟩
 | hnd t q => have hs : d = .hnd t q := hs; subst hs; exact h
 | sl g t xs =>
  obtain ⟨rfl, hg⟩ := hs
  have h : yk w M δ (if g then B else 0) (.list t) xs [v] := h
  show yk w M δ (if fr then B else 0) (.list t) xs [v]
  refine h.keep (Stp.refl _ _) (fun _ _ h => h) (Dle.refl _) ?_
  cases fr with
  | false => simp
  | true => simp [hg rfl]
 | _ => exact h.elim
theorem zBV.keep {w w' : World} {M M' : Nat -> Prop} {δ δ' : Dl} {B B' : Nat} {c : Cell} {v : Value} (hs : Stp M w w') (hM : ∀ b, b < w.heap.size -> M' b -> M b) (hD : Dle δ δ') (hB : B' <= B) (h : zBV w M δ B c v) : zBV w' M' δ' B' c v := by
 cases c with
 | sl fr t xs =>
  refine yk.keep hs hM hD ?_ h
  cases fr <;> simp [hB]
 | hnd t q => exact yk.keep hs hM hD (nR _) h
 | int => exact h
 | bool => exact h
 | str => exact h
 | nil => exact h
 | _ => exact h.elim
end Go.Kb
