/- The abstract machine: code, functions and calls are sound; the entry from a row. -/
import Derived.Test.YticidpdbkjgebabGreatKe
import Derived.ProofKit
import Derived.Deep.Slices
import Derived.Test.YticidpdbkjgebabGreatKa
/- The end of a function: what it hands back. -/
namespace Go.Kb
inductive zCS (μ : Nat -> Option (Nat × Nat)) (s : S) : List (Option (Nat × Nat)) -> List Nat -> Prop
 | nil : zCS μ s [] []
 | none {ms os} : zCS μ s ms os -> zCS μ s (Option.none :: ms) os
 | some {m ms o os} : (∀ b base, m = Option.some (b, base) -> ∃ base', μ o = Option.some (b, base')) -> yv (s.obj o) -> zCS μ s ms os -> zCS μ s (m :: ms) (o :: os)
section
variable {tm : Nat -> TypeId} {F : Fx} {μ : Nat -> Option (Nat × Nat)} {s : S} {a : Act} {w : World}
theorem zCS.append {ms ms' : List (Option (Nat × Nat))} {os os' : List Nat} (h : zCS μ s ms os) (k : zCS μ s ms' os') : zCS μ s (ms ++ ms') (os ++ os') := by
 induction h with
 | nil => exact k
 | none _ ih => exact .none ih
 | some h1 h2 _ ih => exact .some h1 h2 ih
theorem zCS.mem {ms : List (Option (Nat × Nat))} {os : List Nat} (h : zCS μ s ms os) : ∀ b base, Option.some (b, base) ∈ ms -> ∃ o base', o ∈ os /\ yv (s.obj o) /\ μ o = Option.some (b, base') := by
 induction h with
 | nil => intro b base h; cases h
 | none _ ih =>
  intro b base h
  cases h with
  | tail _ h => exact ih b base h
 | @some m ms o os h1 h2 _ ih =>
  intro b base h
  cases h with
  | head => obtain ⟨b', h3⟩ := h1 b base rfl; exact ⟨o, b', .head _, h2, h3⟩
  | tail _ h => obtain ⟨o', b', h3, h4, h5⟩ := ih b base h; exact ⟨o', b', .tail _ h3, h4, h5⟩
theorem nodup_spec : ∀ {l : List Nat}, nodup l = true -> l.Nodup
 | [], _ => List.nodup_nil
 | n :: r, h => by
  simp only [nodup, bA, Bool.not_eq_true'] at h
  exact List.nodup_cons.2 ⟨(fun hm => by rw [zBd.2 hm] at h; cases h.1), nodup_spec h.2⟩
theorem zCS.apart (hr : RepM tm F μ s a w) {ms : List (Option (Nat × Nat))} {os : List Nat} (h : zCS μ s ms os) (hn : os.Nodup) : ms.Pairwise Apart := by
 induction h with
 | nil => exact .nil
 | none _ ih => exact List.pairwise_cons.2 ⟨(fun m' _ b base base' hm => by cases hm), ih hn⟩
 | @some m ms o os h1 h2 h3 ih =>
  obtain ⟨hno, hn⟩ := List.nodup_cons.1 hn
  refine List.pairwise_cons.2 ⟨?_, ih hn⟩
  intro m' hm' b base base' hm hmb
  subst hmb
  obtain ⟨b1, h4⟩ := h1 b base hm
  obtain ⟨o', b2, h5, h6, h7⟩ := h3.mem b base' hm'
  exact hno (hr.inj o o' b b1 b2 h2 h6 h4 h7 ▸ h5)
def RetF.sig : RetF -> RetS
 | .tmp _ g n => .val g n
 | .var _ g n => .val g n
 | .ptr _ n => .ptr n
def retOk (P : Program) : List RetF -> List ResultVar -> Bool
 | [], [] => true
 | .tmp n g k :: r, .tmp t :: q => Nat.beq n t && ((g || Nat.beq k 1) && retOk P r q)
 | .ptr n _ :: r, .tmp t :: q => Nat.beq n t && retOk P r q
 | .var n g k :: r, .cell t T :: q => Nat.beq n t && ((match aggOf P T with | some g' => g' == g | none => false) && (szOk P T g k && retOk P r q))
 | _, _ => false
def resOne (tmps : Array Value) : ResultVar -> Sem Value
 | .tmp t => pure (tmps.getD t undef)
 | .cell a t => do loadVar t (<- asAddr (tmps.getD a undef))
theorem results_eq (fn : Func) (tmps : Array Value) : results fn tmps = (do let vs <- fn.results.mapM (resOne tmps); pure (if h : vs.size = 1 then vs[0] else .tuple vs)) := rfl
theorem box_rep (h : RepM tm F μ s a w) {slot n o : Nat} {cs : List Cell} (hb : boxAt s slot n = some (o, cs)) :
  ∃ b us T, μ o = some (b, 0) /\ a.tmps.getD slot undef = .pointer (some ⟨b, 0, none⟩) /\ w.heap[b]? = some (.cells (List.toArray us) T (0, 0)) /\ us.length = n /\ zi (s.cx μ w F) cs us /\ yv (s.obj o) := by
 unfold boxAt at hb
 split at hb <;> try (cases hb; done)
 rename_i o' st hs
 split at hb <;> try (cases hb; done)
 rename_i st' hm cs' hx
 split at hb <;> try (cases hb; done)
 rename_i hc
 simp only [bA] at hc
 injection hb with hb; injection hb with h1 h2; subst h1; subst h2
 have h1 := eB hc.1
 subst h1
 obtain ⟨y, hy, hr⟩ := slot_value h hs
 obtain ⟨_, _, hp⟩ := hr
 obtain ⟨b, hmu, hv⟩ := hp hm cs' hx
 have hobj := h.objs o'
 rw [hx] at hobj
 obtain ⟨b', vs, T, h3, h4, h5⟩ := hobj
 have hmu : μ o' = some (b, 0) := hmu
 rw [hmu] at h3; injection h3 with h3; injection h3 with h3 _; subst h3
 have h4' : w.heap[b]? = some (.cells vs T (0, 0)) := h4
 refine ⟨b, vs.toList, T, hmu, ?_, by simpa using h4', ?_, h5, by rw [hx]; trivial⟩
 ·rw [Array.getD_eq_getD_getElem?, hy]; exact hv
 ·rw [<- h5.len]; exact eB hc.2
theorem ret_sound {P : Program} (h : RepM tm F μ s a w) : ∀ {rets : List RetF} {rvs : List ResultVar} {acells : List Cell} {os : List Nat}, retOk P rets rvs = true -> zCT s rets = some (acells, os) ->
  ∃ vals raw bs, (rvs.mapM (resOne a.tmps)).run P w = .ok vals w /\ RetR w (rets.map RetF.sig) vals raw bs /\ zi (s.cx μ w F) acells raw /\ zCS μ s (bs.map fun b => Option.some (b, 0)) os := by
 intro rets
 induction rets with
 | nil =>
  intro rvs ac os hok hc
  cases rvs with
  | cons _ _ => simp [retOk] at hok
  | nil =>
   simp only [zCT] at hc
   injection hc with hc; injection hc with h1 h2; subst h1; subst h2
   exact ⟨[], [], [], by simp, ⟨rfl, rfl⟩, trivial, .nil⟩
 | cons rf r ih =>
  intro rvs ac os hok hc
  cases rvs with
  | nil => cases rf <;> simp [retOk] at hok
  | cons rv q =>
   cases rf with
   | tmp n g k =>
    cases rv with
    | cell _ _ => simp [retOk] at hok
    | tmp t =>
     simp only [retOk, bA] at hok
     obtain ⟨h1, h2, h3⟩ := hok
     have h1 := eB h1
     subst h1
     cases g with
     | false =>
      simp only [zCT] at hc
      split at hc <;> try (cases hc; done)
      rename_i c hs
      split at hc <;> try (cases hc; done)
      rename_i l os' hl
      injection hc with hc; injection hc with e1 e2; subst e1; subst e2
      obtain ⟨vals, raw, bs, e3, e4, e5, e6⟩ := ih h3 hl
      obtain ⟨y, hy, hr⟩ := slot_value h hs
      have hg : a.tmps.getD n undef = y := by rw [Array.getD_eq_getD_getElem?, hy]; rfl
      refine ⟨y :: vals, y :: raw, bs, ?_, ⟨raw, by simpa using h2, rfl, e4⟩, ⟨hr, e5⟩, e6⟩
      rw [List.mapM_cons]
      simp [resOne, hg, e3]
     | true =>
      simp only [zCT] at hc
      split at hc <;> try (cases hc; done)
      rename_i cs hs
      split at hc <;> try (cases hc; done)
      rename_i hk
      split at hc <;> try (cases hc; done)
      rename_i l os' hl
      injection hc with hc; injection hc with e1 e2; subst e1; subst e2
      obtain ⟨vals, raw, bs, e3, e4, e5, e6⟩ := ih h3 hl
      have hslot : ∃ y, a.tmps[n]? = some y /\ RepV (s.cx μ w F) (.agg cs) y := by
       rcases slot_rep h n with h4 | ⟨y, h4, h5⟩
       ·rw [h4] at hs; cases hs
       ·rw [hs] at h5; exact ⟨y, h4, h5⟩
      obtain ⟨y, hy, us, hyu, hr⟩ := hslot
      have hg : a.tmps.getD n undef = y := by rw [Array.getD_eq_getD_getElem?, hy]; rfl
      refine ⟨y :: vals, us ++ raw, bs, ?_, ⟨us, raw, hyu, by rw [<- hr.len]; exact eB hk, rfl, e4⟩, hr.append e5, e6⟩
      rw [List.mapM_cons]
      simp [resOne, hg, e3]
   | var n g k =>
    cases rv with
    | tmp _ => simp [retOk] at hok
    | cell t T =>
     simp only [retOk, bA] at hok
     obtain ⟨h1, h2, h3, h4⟩ := hok
     have h1 := eB h1
     subst h1
     simp only [zCT] at hc
     split at hc <;> try (cases hc; done)
     rename_i o cs hb
     split at hc <;> try (cases hc; done)
     rename_i l os' hl
     injection hc with hc; injection hc with e1 e2; subst e1; subst e2
     obtain ⟨vals, raw, bs, e3, e4, e5, e6⟩ := ih h4 hl
     obtain ⟨b, us, T', f1, f2, f3, f4, f5, f6⟩ := box_rep h hb
     have hagg : aggOf P T = some g := by
      split at h2
      ·rename_i g' hg'; rw [hg']; simpa using h2
      ·cases h2
     have hcell : ∀ j u, us[j]? = some u -> (s.cx μ w F).w.cell? (Addr.add ⟨b, 0, none⟩ j) = some u := by
      intro j u hu
      show w.cell? _ = _
      rw [zB4 rfl, Nat.zero_add, cell_lit w b j _ _ _ f3]
      simpa using hu
     have hrun : (loadVar T ⟨b, 0, none⟩).run P w = .ok (ldV g us) w := by
      have := run_load_rep (P := P) (C := s.cx μ w F) hagg (szOk_iff h3) f4 hcell
      have this : (Instr.loadAt T (.pointer (some ⟨b, 0, none⟩))).run P w = .ok (ldV g us) w := this
      simpa [Instr.loadAt, Instr.sureAddr] using this
     cases g with
     | true =>
      refine ⟨.agg us.toArray :: vals, us ++ raw, bs, ?_, ⟨us, raw, rfl, f4, rfl, e4⟩, f5.append e5, e6⟩
      rw [List.mapM_cons]
      simp [resOne, f2, asAddr, hrun, ldV, e3]
     | false =>
      have hk1 : k = 1 := by have := szOk_iff h3; simpa using this
      match us, f4 with
      | [u], _ =>
       refine ⟨u :: vals, u :: raw, bs, ?_, ⟨raw, hk1, rfl, e4⟩, f5.append e5, e6⟩
       rw [List.mapM_cons]
       simp [resOne, f2, asAddr, hrun, ldV, e3]
      | [], f4 => simp at f4; omega
      | _ :: _ :: _, f4 => simp at f4; omega
   | ptr n k =>
    cases rv with
    | cell _ _ => simp [retOk] at hok
    | tmp t =>
     simp only [retOk, bA] at hok
     obtain ⟨h1, h3⟩ := hok
     have h1 := eB h1
     subst h1
     simp only [zCT] at hc
     split at hc <;> try (cases hc; done)
     rename_i o cs hb
     split at hc <;> try (cases hc; done)
     rename_i l os' hl
     injection hc with hc; injection hc with e1 e2; subst e1; subst e2
     obtain ⟨vals, raw, bs, e3, e4, e5, e6⟩ := ih h3 hl
     obtain ⟨b, us, T', f1, f2, f3, f4, f5, f6⟩ := box_rep h hb
     refine ⟨.pointer (some ⟨b, 0, none⟩) :: vals, us ++ raw, b :: bs, ?_, ⟨b, us, T', raw, bs, rfl, f3, f4, rfl, rfl, e4⟩, f5.append e5, .some (fun b' base he => ?_) f6 e6⟩
     ·rw [List.mapM_cons]
      simp [resOne, f2, e3]
     ·injection he with he; injection he with he _; subst he; exact ⟨0, f1⟩
theorem boxes_sound (h : RepM tm F μ s a w) : ∀ {ps : List FPar} {cells : List Cell}, boxCells s ps = some cells ->
  ∃ raw, BoxR w F.home ps raw /\ zi (s.cx μ w F) cells raw /\ zCS μ s ((zBI ps).map F.home) (zBI ps) := by
 intro ps
 induction ps with
 | nil =>
  intro cells hc
  simp only [boxCells] at hc
  injection hc with hc; subst hc
  exact ⟨[], rfl, trivial, .nil⟩
 | cons p ps ih =>
  intro cells hc
  cases p with
  | val g n =>
   simp only [boxCells] at hc
   obtain ⟨raw, h1, h2, h3⟩ := ih hc
   exact ⟨raw, h1, h2, h3⟩
  | box o n =>
   simp only [boxCells] at hc
   split at hc <;> try (cases hc; done)
   rename_i st cs hx
   split at hc <;> try (cases hc; done)
   rename_i hl
   split at hc <;> try (cases hc; done)
   rename_i l hbl
   injection hc with hc; subst hc
   obtain ⟨raw, h1, h2, h3⟩ := ih hbl
   have hh := (h.home o (by rw [hx]; rfl)).1
   have hobj := h.objs o
   rw [hx] at hobj
   obtain ⟨b, vs, T, h4, h5, h6⟩ := hobj
   have h5' : w.heap[b]? = some (.cells vs T (0, 0)) := h5
   refine ⟨vs.toList ++ raw, ⟨b, vs.toList, T, raw, by rw [<- hh]; exact h4, by simpa using h5', by rw [<- h6.len]; exact eB hl, rfl, h1⟩, h6.append h2, ?_⟩
   exact .some (fun b' base he => ⟨base, by rw [hh]; exact he⟩) (by rw [hx]; trivial) h3
end
end Go.Kb
/- The end of a function: the cells that go out. -/
namespace Go.Kb
section
variable {tm : Nat -> TypeId} {F : Fx} {μ : Nat -> Option (Nat × Nat)} {s : S} {a : Act} {w : World}
def goOut (F : Fx) (μ : Nat -> Option (Nat × Nat)) (s : S) (L : List Nat) (b : Nat) : Prop := F.X b \/ ∃ o base, o ∈ L /\ yv (s.obj o) /\ μ o = some (b, base)
theorem goOut_M {L : List Nat} {b : Nat} (h : goOut F μ s L b) : (s.cx μ w F).M b := by
 rcases h with h | ⟨o, base, _, h1, h2⟩
 ·exact .inl h
 ·exact .inr ⟨o, base, h1, h2⟩
theorem conj_app {a b : List Bool} (h : conj (a ++ b) = true) : conj a = true /\ conj b = true := by
 induction a with
 | nil => exact ⟨rfl, h⟩
 | cons x r ih =>
  cases r with
  | nil =>
   cases b with
   | nil => exact ⟨h, rfl⟩
   | cons y s =>
    simp only [List.cons_append, List.nil_append, conj, bA] at h ⊢
    exact ⟨h.1, h.2⟩
  | cons y s =>
   simp only [List.cons_append, conj, bA] at h ih ⊢
   obtain ⟨h1, h2⟩ := h
   obtain ⟨h3, h4⟩ := ih h2
   exact ⟨⟨h1, h3⟩, h4⟩
theorem un_sz : ∀ (t : Ty), t.un.sz = t.sz := by
 intro t
 induction t with
 | pair a b iha ihb => simp [Ty.un, Ty.sz, iha, ihb]
 | _ => rfl
theorem noH_den {w : World} {M : Nat -> Prop} {δ δ' : Dl} {L : Nat} : ∀ {t : Ty} {x : t.den} {vs : List Value}, t.hasH = false -> yk w M δ L t x vs -> yk w M δ' L t x vs := by
 intro t
 induction t with
 | int k => exact fun _ h => h
 | bool => exact fun _ h => h
 | str => exact fun _ h => h
 | unit => exact fun _ h => h
 | pair t u iht ihu =>
  intro x vs hf h
  simp only [Ty.hasH, Bool.or_eq_false_iff] at hf
  obtain ⟨p, q, rfl, hp, hq⟩ := h
  exact ⟨p, q, rfl, iht hf.1 hp, ihu hf.2 hq⟩
 | list t ih =>
  intro xs vs hf h
  obtain ⟨a, cap, h1, h2, h3, h4⟩ := h
  refine ⟨a, cap, h1, h2, h3, fun i x hx => ?_⟩
  obtain ⟨ad, us, g1, g2, g3, g4⟩ := h4 i x hx
  exact ⟨ad, us, g1, g2, g3, ih hf g4⟩
 | hnd t _ => intro x vs hf; cases hf
theorem conv_den {w : World} {M : Nat -> Prop} {δ δ' : Dl} {L : Nat} {un : Bool} (hδ : un = false -> Dle δ δ') {t : Ty} {x : t.den} {vs : List Value} (ht : (un && t.hasH) = false) (h : yk w M δ L t x vs) : yk w M δ' L t x vs := by
 cases un with
 | false => exact h.keep (Stp.refl _ _) (fun _ _ h => h) (hδ rfl) (nR _)
 | true => exact noH_den (by simpa using ht) h
theorem unden_rep (h : RepM tm F μ s a w) {D : List HRow} (hDs : ∀ (k : Nat) (r : HRow), D[k]? = some r -> s.d[k]? = some r) {M M' : Nat -> Prop} (hM : ∀ b, M' b -> M b) (hno : ∀ k, k ∈ zBZ s.d -> ∀ b base, μ (HP + 1 + k) = some (b, base) -> ¬ M' b) {L : Nat} {δ' : Dl} :
  ∀ {t : Ty} {x : t.den} {vs : List Value}, t.unok D x = true -> yk w M (s.dl μ) L t x vs -> yk w M' δ' 0 t.un (t.unden D x) vs := by
 intro t
 induction t with
 | int k => exact fun _ h => h
 | bool => exact fun _ h => h
 | str => exact fun _ h => h
 | unit => exact fun _ h => h
 | pair t u iht ihu =>
  intro x vs hf h
  simp only [Ty.unok, bA] at hf
  obtain ⟨p, q, rfl, hp, hq⟩ := h
  exact ⟨p, q, rfl, iht hf.1 hp, ihu hf.2 hq⟩
 | list t ih =>
  intro xs vs hf h
  obtain ⟨ad, cap, h1, h2, h3, h4⟩ := h
  have hlen : List.length (Ty.unden D (.list t) xs) = List.length xs := by simp [Ty.unden]
  have hf : ∀ x ∈ (show List t.den from xs), t.unok D x = true := by
   have hf : List.all xs (t.unok D) = true := hf
   exact List.all_eq_true.1 hf
  refine ⟨ad, cap, by rw [hlen]; exact h1, by rw [hlen]; exact h2, ?_, fun i x hx => ?_⟩
  ·rcases h3 with h3 | ⟨a1, g1, g2, g3, g4⟩
   ·left; subst h3; rfl
   ·exact .inr ⟨a1, g1, Nat.zero_le _, g3, fun hb => g4 (hM _ hb)⟩
  ·have hx : (List.map (t.unden D) xs)[i]? = some x := hx
   rw [List.getElem?_map] at hx
   cases hy : (show List t.den from xs)[i]? with
   | none => rw [hy] at hx; cases hx
   | some y =>
    rw [hy] at hx
    injection hx with hx
    subst hx
    obtain ⟨a1, us, g1, g2, g3, g4⟩ := h4 i y hy
    refine ⟨a1, us, g1, by rw [un_sz]; exact g2, fun j u hu => by rw [un_sz]; exact g3 j u hu, ih (hf y (List.mem_of_getElem? hy)) g4⟩
 | hnd u _ =>
  intro q vs hf hd
  obtain ⟨v, rfl, hd⟩ := hd
  cases q with
  | none =>
   have hd : v = .slice none 0 0 := hd
   subst hd
   exact nil_den _ _ _ _ u
  | some q =>
   obtain ⟨k, lo, len⟩ := q
   obtain ⟨m, g1, g2⟩ := hd
   simp only [Ty.unok, hok, bA] at hf
   obtain ⟨e, xs, hk, hxs⟩ := hisAt_spec hf.1
   have hk := hDs k _ hk
   have hle := Nat.le_of_ble_eq_true hf.2
   rw [hxs] at hle
   have hkl : k < s.d.length := (List.getElem?_eq_some_iff.1 hk).1
   simp only [S.dl] at g1
   rw [if_pos hkl] at g1
   injection g1 with g1
   subst g1
   have hob : s.obj (HP + 1 + k) = .hrow e u xs := by rw [zBQ h.hl, hk]; rfl
   have hr := h.objs (HP + 1 + k)
   rw [hob] at hr
   obtain ⟨hpure, hr⟩ := hr
   have hcutE : hcut D u (some (k, lo, len)) = (xs.drop lo).take len := by simp [hcut, hxs]
   show yk w M' δ' 0 (.list u) (hcut D u (some (k, lo, len))) [v]
   rw [hcutE]
   have hcl : ((xs.drop lo).take len).length = len := by simp; omega
   rcases g2 with ⟨m0, h0, hv⟩ | ⟨b, base, ad, cap, cur, T, hm, hv, p1, p2, p3, p4, p5, p6, p7⟩
   ·have : len = 0 := by omega
    subst this
    subst hv
    simpa using nil_den w M' δ' 0 u
   ·have hp : yv (s.obj (HP + 1 + k)) := by rw [hob]; trivial
    refine ⟨some ad, cap, by rw [hcl, hv], by rw [hcl]; exact p1, .inr ⟨ad, rfl, Nat.zero_le _, by rw [p3]; exact h.lt _ b base hp hm, by rw [p3]; exact hno k (zB3.2 ⟨e, u, xs, hk⟩) b base hm⟩, fun i x hx => ?_⟩
    have hi : i < len := by rw [<- hcl]; exact (List.getElem?_eq_some_iff.1 hx).1
    rw [List.getElem?_take, if_pos hi, List.getElem?_drop] at hx
    rcases hr with ⟨hr, _⟩ | ⟨b', base', cur', hm2, q1, q2, q3⟩
    ·rw [hm] at hr; cases hr
    rw [hm] at hm2; injection hm2 with hm2; injection hm2 with e1 e2; subst e1; subst e2
    have q1 : w.heap[b]? = some (.cells cur' (tm e) (0, 0)) := q1
    have hd := q3 _ _ hx
    refine ⟨ad, _, rfl, hd.len, fun j y hy => ?_, pure_den hpure hd⟩
    rw [zB4 p4, p3, p5 (by omega), cell_lit w b _ _ _ _ q1]
    rw [List.getElem?_take] at hy
    split at hy
    ·rw [List.getElem?_drop] at hy
     rw [<- Array.getElem?_toList, <- hy]
     congr 1
     rw [Nat.add_mul]; omega
    ·cases hy
theorem RowAt.conv {w : World} {M : Nat -> Prop} {δ δ' : Dl} {B : Nat} {un : Bool} (hδ : un = false -> Dle δ δ') {m : Option (Nat × Nat)} {fr : Bool} {e : Nat} {t : Ty} {xs : List t.den} (ht : (un && t.hasH) = false) (h : RowAt tm w M δ B m fr e t xs) : RowAt tm w M δ' B m fr e t xs := by
 rcases h with h | ⟨b, base, cur, h1, h2, h3, h4⟩
 ·exact .inl h
 ·exact .inr ⟨b, base, cur, h1, h2, h3, fun i x hx => conv_den hδ ht (h4 i x hx)⟩
theorem den_out {L : List Nat} {fr g : Bool} (hg : g = true -> fr = true) {t : Ty} {x : t.den} {vs : List Value} (h : yk (s.cx μ w F).w (s.cx μ w F).M (s.cx μ w F).dl ((s.cx μ w F).L fr) t x vs) :
  yk w (goOut F μ s L) (s.dl μ) (if g then F.B else 0) t x vs := by
 refine yk.keep (Stp.refl _ _) (fun b _ hb => goOut_M hb) (Dle.refl _) ?_ h
 cases g with
 | false => simp
 | true => rw [hg rfl]; simp [Cx.L, S.cx]
theorem row_out (h : RepM tm F μ s a w) {L : List Nat} {o st e : Nat} {hm fr g : Bool} {t : Ty} {xs : List t.den} {ex : Ext} {v : Value} (hx : s.obj o = .row st hm fr e t xs) (hc : yl (s.cx μ w F) (.ref o st ex) v)
  (hw : ex.whole = true) (hg : g = true -> (fr && !hm) = true) :
  ∃ m, (∀ b base, m = some (b, base) -> ∃ base', μ o = some (b, base')) /\ zCE w m t.sz (ex.cut xs).length 0 (ex.cut xs).length v /\ RowAt tm w (goOut F μ s L) (s.dl μ) F.B m g e t (ex.cut xs) /\
   (g = true -> ∀ b base, m = some (b, base) -> F.B <= b) := by
 obtain ⟨_, _, hr⟩ := hc
 obtain ⟨hok, hrow⟩ := hr hm fr e t xs hx
 have hob := h.objs o
 rw [hx] at hob
 have hlo : ex.lo + (ex.cut xs).length = xs.length := by
  rw [num_cut ex xs hok]
  cases ex with
  | all => simp [Ext.lo, Ext.num]
  | tail l => simp [Ext.lo, Ext.num, Ext.ok] at *; omega
  | part l r => cases hw
 have hpo : yv (s.obj o) := by rw [hx]; trivial
 rcases hrow with ⟨hm0, hn, hv⟩ | ⟨b, base, ad, cap, cur, T, hm0, hv, h1, h2, h3, h4, h5, h6, h7⟩
 ·have hm0 : μ o = none := hm0
  have hl : (ex.cut xs).length = 0 := by omega
  refine ⟨none, (fun b base he => by cases he), .inl ⟨rfl, hl, hv⟩, .inl ⟨rfl, List.eq_nil_of_length_eq_zero hl⟩, (fun _ b base he => by cases he)⟩
 ·have hm0 : μ o = some (b, base) := hm0
  have h6 : w.heap[b]? = some (.cells cur T (0, 0)) := h6
  refine ⟨some (b, base + ex.lo * t.sz), fun b' base' he => ?_, .inr ⟨b, base + ex.lo * t.sz, ad, cap, cur, T, rfl, ?_, ?_, h2, h3, h4, fun hc => ?_, h6, ?_⟩, .inr ?_, fun hgt b' base' he => ?_⟩
  ·injection he with he; injection he with he _; subst he; exact ⟨base, hm0⟩
  ·rw [num_cut ex xs hok]; exact hv
  ·rw [num_cut ex xs hok]; exact h1
  ·rw [h5 hc]; simp
  ·rw [Nat.zero_add]; rw [Nat.add_mul] at h7; omega
  ·rcases hob with ⟨hnone, _⟩ | ⟨b', base', cur', hm2, hh, hsz, hel⟩
   ·have hnone : μ o = none := hnone
    rw [hnone] at hm0; cases hm0
   ·rw [hm0] at hm2
    injection hm2 with hm2; injection hm2 with e1 e2; subst e1; subst e2
    have hh : w.heap[b]? = some (.cells cur' (tm e) (0, 0)) := hh
    refine ⟨b, base + ex.lo * t.sz, cur', rfl, hh, ?_, ?_⟩
    ·have : (ex.lo + (ex.cut xs).length) * t.sz = xs.length * t.sz := by rw [hlo]
     rw [Nat.add_mul] at this
     omega
    ·intro i x hxi
     have := hel _ _ (cut_get ex xs i x hxi)
     have hpos : base + ex.lo * t.sz + i * t.sz = base + (ex.lo + i) * t.sz := by rw [Nat.add_mul]; omega
     rw [hpos]
     exact den_out (fun hh => by have := hg hh; simp at this; exact this.1) this
  ·injection he with he; injection he with he _; subst he
   rcases h.own o b base hpo hm0 with h8 | ⟨_, h8 | h8⟩
   ·exact Nat.le_trans F.hB h8
   ·rw [hx] at h8
    have h9 := hg hgt
    simp at h9
    have := h8 h9.1
    rw [h9.2] at this; cases this
   ·exact h8
theorem flat_out (h : RepM tm F μ s a w) {L : List Nat} {un : Bool} {δ : Dl} (hδ : un = false -> Dle (s.dl μ) δ) (hLd : un = true -> ∀ k, HP + 1 + k ∉ L) {c c' : Cell} {v : Value} {qb : List Bool}
  (hnoL : ∀ o st e, c = .ref o st e -> o < HP -> o ∉ L) (hf : flat un s.d s.obj c = some (qb, c')) (hq : conj qb = true) (hc : yl (s.cx μ w F) c v) : zBV w (goOut F μ s L) δ F.B c' v := by
 have hX : ∀ o, yv (s.obj o) -> ∀ b base, μ o = some (b, base) -> ¬ F.X b := by
  intro o hp b base hm hb
  have hX' := F.hX b hb
  rcases h.own o b base hp hm with h4 | ⟨h4, _⟩
  ·exact absurd hX'.1 (by omega)
  ·exact hX'.2 h4
 have hnoD : un = true -> ∀ k, k ∈ zBZ s.d -> ∀ b base, μ (HP + 1 + k) = some (b, base) -> ¬ goOut F μ s L b := by
  intro hu k hk b base hm hb
  obtain ⟨e, t, xs, hd⟩ := zB3.1 hk
  have hp : yv (s.obj (HP + 1 + k)) := by rw [zBQ h.hl, hd]; trivial
  rcases hb with hb | ⟨o, base', hL, hp', hm'⟩
  ·exact hX _ hp b base hm hb
  ·have := h.inj o (HP + 1 + k) b base' base hp' hp hm' hm
   exact hLd hu k (this ▸ hL)
 have lst : ∀ {g : Bool} {t : Ty} {xs : List t.den}, yk w (goOut F μ s L) (s.dl μ) (if g then F.B else 0) (.list t) xs [v] -> conj (flatL un s.d g t xs).1 = true -> zBV w (goOut F μ s L) δ F.B (flatL un s.d g t xs).2 v := by
  intro g t xs hd hq
  unfold flatL at hq ⊢
  cases hu : un && t.hasH with
  | false =>
   simp only []
   exact conv_den (t := .list t) hδ hu hd
  | true =>
   rw [hu] at hq
   simp only [] at hq ⊢
   simp only [bA] at hu
   have := unden_rep (δ' := δ) (M' := goOut F μ s L) h (fun _ _ h => h) (fun _ hb => hb) (hnoD hu.1) (t := .list t) (x := xs) hq hd
   show yk w (goOut F μ s L) δ 0 (.list t.un) _ [v]
   exact this
 cases c with
 | int k n => simp only [flat] at hf; injection hf with hf; injection hf with _ hf; subst hf; exact hc
 | bool b => simp only [flat] at hf; injection hf with hf; injection hf with _ hf; subst hf; exact hc
 | str b => simp only [flat] at hf; injection hf with hf; injection hf with _ hf; subst hf; exact hc
 | nil => simp only [flat] at hf; injection hf with hf; injection hf with _ hf; subst hf; exact hc
 | sl g t xs =>
  simp only [flat] at hf; injection hf with hf
  have h1 : qb = (flatL un s.d g t xs).1 := by rw [hf]
  have h2 : c' = (flatL un s.d g t xs).2 := by rw [hf]
  rw [h2]
  exact lst (den_out (L := L) (fun h => h) hc) (h1 ▸ hq)
 | hnd t x =>
  simp only [flat] at hf
  have hd : yk w (goOut F μ s L) (s.dl μ) 0 (.hnd t) x [v] := yk.keep (M := (s.cx μ w F).M) (Stp.refl _ _) (fun b _ hb => goOut_M (w := w) hb) (Dle.refl _) (nR _) hc
  cases un with
  | false =>
   simp only [] at hf
   injection hf with hf; injection hf with _ hf; subst hf
   exact hd.keep (Stp.refl _ _) (fun _ _ h => h) (hδ rfl) (nR _)
  | true =>
   simp only [] at hf
   injection hf with hf; injection hf with h1 hf; subst hf; subst h1
   have := unden_rep (δ' := δ) (M' := goOut F μ s L) h (fun _ _ h => h) (fun _ hb => hb) (hnoD rfl) (t := .hnd t) (x := x) hq hd
   exact this
 | ref o st e =>
  simp only [flat] at hf
  split at hf <;> try (cases hf; done)
  rename_i st' hm fr' ec t xs hx
  split at hf <;> try (cases hf; done)
  rename_i hst
  have hst := eB hst
  subst hst
  injection hf with hf
  have h1 : qb = (flatL un s.d (fr' && !hm) t (e.cut xs)).1 := by rw [hf]
  have h2 : c' = (flatL un s.d (fr' && !hm) t (e.cut xs)).2 := by rw [hf]
  rw [h2]
  refine lst ?_ (h1 ▸ hq)
  have hno : o ∉ L := hnoL o st e rfl (Nat.lt_of_lt_of_le (row_lt hx) h.hl)
  have hpo : yv (s.obj o) := by rw [hx]; trivial
  have hM : ∀ b, (Cx.mk μ (fun _ => .absent 0) w F.B (goOut F μ s L) (s.dl μ)).M b -> goOut F μ s L b := by
   rintro b (hb | ⟨_, _, hp, _⟩)
   ·exact hb
   ·exact hp.elim
  have := row_den (C := s.cx μ w F) (C' := Cx.mk μ (fun _ => .absent 0) w F.B (goOut F μ s L) (s.dl μ)) (h.objs o) hx hc rfl rfl (fun b hb => goOut_M (hM b hb)) (Dle.refl _) ?_ ?_ (fr' := fr' && !hm) ?_ ?_
  ·have this : yk w (Cx.mk μ (fun _ => .absent 0) w F.B (goOut F μ s L) (s.dl μ)).M (s.dl μ) (if (fr' && !hm) then F.B else 0) (.list t) (e.cut xs) [v] := this
   exact yk.keep (Stp.refl _ _) (fun b _ hb => Or.inl hb) (Dle.refl _) (nR _) this
  ·intro b base hmu hb
   have hmu : μ o = some (b, base) := hmu
   rcases hM b hb with hXb | ⟨o', base', hL, hp, hmu'⟩
   ·exact hX o hpo b base hmu hXb
   ·have := h.inj o o' b base base' hpo hp hmu hmu'
    exact hno (this ▸ hL)
  ·intro b base hmu; exact h.lt o b base hpo hmu
  ·intro hf; simp at hf; exact hf.1
  ·intro hf b base hmu
   simp at hf
   rcases h.own o b base hpo hmu with h4 | ⟨_, h4 | h4⟩
   ·exact Nat.le_trans F.hB h4
   ·rw [hx] at h4; have := h4 hf.1; rw [hf.2] at this; cases this
   ·exact h4
 | ptr _ _ _ => simp [flat] at hf
 | dptr _ _ _ _ => simp [flat] at hf
 | eptr _ _ _ _ => simp [flat] at hf
 | junk => simp [flat] at hf
theorem out_sound (h : RepM tm F μ s a w) {L L0 : List Nat} (hL0 : ∀ o, o ∈ L -> o ∈ L0 \/ HP < o) {fr un : Bool} {δ : Dl} (hδ : un = false -> Dle (s.dl μ) δ) (hLd : un = true -> ∀ k, HP + 1 + k ∉ L) :
  ∀ {outs : List OutF} {cells : List Cell} {raw : List Value} {qs : List Bool} {out ds : List Cell}, zBP un s outs cells = some (qs, out) -> conj qs = true -> zi (s.cx μ w F) cells raw -> Sames fr out ds -> apartL (immOuts outs cells) L0 = true -> outsK outs (ds.map Cell.isSl) = true ->
   ∃ ms, OutR tm w (goOut F μ s L) δ F.B F.home F.shape outs ds raw ms /\ zCS μ s ms (ownRefs outs cells) /\ zCS μ s ((zCI outs).map F.home) (zCI outs) := by
 intro outs
 induction outs with
 | nil =>
  intro cells raw qs out ds ho _ hc hs _ _
  cases cells with
  | cons _ _ => simp [zBP] at ho
  | nil =>
   simp only [zBP] at ho
   injection ho with ho; injection ho with _ ho; subst ho
   cases ds with
   | cons _ _ => exact hs.elim
   | nil =>
    cases raw with
    | cons _ _ => exact hc.elim
    | nil => exact ⟨[], rfl, .nil, .nil⟩
 | cons k outs ih =>
  intro cells raw qs out ds ho hq hc hs hap hK
  cases k with
  | imm =>
   cases cells with
   | nil => simp [zBP] at ho
   | cons c cs =>
    simp only [zBP] at ho
    split at ho <;> try (cases ho; done)
    rename_i qb c' hf
    split at ho <;> try (cases ho; done)
    rename_i qr l hl
    injection ho with ho; injection ho with hqe ho; subst ho; subst hqe
    cases ds with
    | nil => exact hs.elim
    | cons d ds =>
     cases raw with
     | nil => exact hc.elim
     | cons v raw =>
      have hap' : apartL (immOuts outs cs) L0 = true := by
       cases c <;> simp only [immOuts, apartL, bA] at hap <;> first | exact hap | exact hap.2
      obtain ⟨ms, h1, h2, h3⟩ := ih hl (conj_app hq).2 hc.2 hs.2 hap' (by simpa [outsK] using hK)
      refine ⟨ms, ⟨zBV.same ?_ hs.1, h1⟩, ?_, h3⟩
      ·refine flat_out h hδ hLd (fun o st e hce hlt => ?_) hf (conj_app hq).1 hc.1
       subst hce
       simp only [immOuts, apartL, bA, Bool.not_eq_true'] at hap
       intro hm2
       rcases hL0 o hm2 with hm2 | hm2
       ·rw [zBd.2 hm2] at hap; cases hap.1
       ·omega
      ·exact h2
  | own e =>
   cases cells with
   | nil => simp [zBP] at ho
   | cons c cs =>
    cases raw with
    | nil => exact hc.elim
    | cons v raw =>
     cases c with
     | nil =>
      simp only [zBP] at ho
      split at ho <;> try (cases ho; done)
      rename_i qr l hl
      injection ho with ho; injection ho with hqe ho; subst ho; subst hqe
      cases ds with
      | nil => exact hs.elim
      | cons d ds =>
       simp only [List.map_cons, outsK, bA] at hK
       obtain ⟨ms, h1, h2, h3⟩ := ih hl hq hc.2 hs.2 hap hK.2
       rcases hs.1 with ⟨t, hd⟩ | ⟨t, hd⟩
       case inr => rw [hd] at hK; cases hK.1
       subst hd
       have hv : v = .slice none 0 0 := hc.1
       refine ⟨none :: ms, ⟨none, ms, rfl, ⟨.inl ⟨rfl, rfl, hv⟩, .inl ⟨rfl, rfl⟩, (fun _ b base he => by cases he)⟩, h1⟩, .none h2, h3⟩
     | ref o st ex =>
      simp only [zBP] at ho
      split at ho <;> try (cases ho; done)
      rename_i st' hm fr' e' t xs hx
      split at ho <;> try (cases ho; done)
      rename_i hb
      split at ho <;> try (cases ho; done)
      rename_i qr l hl
      injection ho with ho; injection ho with hqe ho; subst ho; subst hqe
      simp only [bA, Bool.not_eq_true'] at hb
      have e1 := eB hb.1
      have e2 := eB hb.2.1
      subst e1; subst e2
      cases ds with
      | nil => exact hs.elim
      | cons d ds =>
       simp only [List.map_cons, outsK, bA] at hK
       obtain ⟨ms, h1, h2, h3⟩ := ih hl hq hc.2 hs.2 hap hK.2
       obtain ⟨hd, hfr⟩ := hs.1
       subst hd
       obtain ⟨m, m1, m2, m3, m4⟩ := row_out h (L := L) hx hc.1 hb.2.2.1 hfr
       exact ⟨m :: ms, ⟨m, ms, rfl, ⟨m2, m3.conv hδ hb.2.2.2, m4⟩, h1⟩, .some m1 (by rw [hx]; trivial) h2, h3⟩
     | int _ _ => simp [zBP] at ho
     | bool _ => simp [zBP] at ho
     | str _ => simp [zBP] at ho
     | sl _ _ _ => simp [zBP] at ho
     | hnd _ _ => simp [zBP] at ho
     | ptr _ _ _ => simp [zBP] at ho
     | dptr _ _ _ _ => simp [zBP] at ho
     | eptr _ _ _ _ => simp [zBP] at ho
     | junk => simp [zBP] at ho
  | back o =>
   simp only [zBP] at ho
   split at ho <;> try (cases ho; done)
   rename_i st fr' e t xs hx
   split at ho <;> try (cases ho; done)
   rename_i hun
   split at ho <;> try (cases ho; done)
   rename_i qr l hl
   injection ho with ho; injection ho with hqe ho; subst ho; subst hqe
   cases ds with
   | nil => exact hs.elim
   | cons d ds =>
    simp only [List.map_cons, outsK, bA] at hK
    obtain ⟨ms, h1, h2, h3⟩ := ih hl hq hc hs.2 (by simpa [immOuts] using hap) hK.2
    obtain ⟨hd, hfr⟩ := hs.1
    subst hd
    obtain ⟨hh1, hh2⟩ := h.home o (by rw [hx]; rfl)
    rw [hx] at hh2
    have hob := h.objs o
    rw [hx] at hob
    refine ⟨ms, ⟨⟨e, hh2.symm, ?_⟩, h1⟩, by simpa [ownRefs] using h2, .some (fun b base he => ⟨base, by rw [hh1]; exact he⟩) (by rw [hx]; trivial) h3⟩
    rw [<- hh1]
    refine RowAt.conv hδ hun ?_
    rcases hob with hob | ⟨b, base, cur, g1, g2, g3, g4⟩
    ·exact .inl hob
    ·exact .inr ⟨b, base, cur, g1, g2, g3, fun i x hxi => den_out hfr (g4 i x hxi)⟩
end
end Go.Kb
/- A function keeps its contract. -/
namespace Go.Kb
def begin' (w : World) (B : Nat) (X : Nat -> Prop) (home : Nat -> Option (Nat × Nat)) (h : Nat -> Obj) (δ : Dl) : Cx := ⟨home, h, w, B, X, δ⟩
section
variable {tm : Nat -> TypeId} {w : World} {X M : Nat -> Prop} {home : Nat -> Option (Nat × Nat)} {shape : Nat -> Option (Nat × Ty × Nat)} {h : Nat -> Obj} {B : Nat} {kp : Bool} {δ : Dl}
theorem initRows_sound (hM : ∀ b, (begin' w B X home h δ).M b -> M b) : ∀ {rows : List (Option (Nat × Nat))} {cells cs : List Cell} {raw : List Value} {u : List (Nat × Obj)},
  InR tm w M δ B home shape rows cells raw -> zBe kp rows cells = some (cs, u) -> (∀ o y, (o, y) ∈ u -> h o = y) ->
  zi (begin' w B X home h δ) cs raw /\ u.map (·.1) = zAb rows /\ ∀ o y, (o, y) ∈ u -> yv y /\ (kp = false -> zBh y) /\ zBU tm (begin' w B X home h δ) (home o) y /\ y.shape = shape o := by
 intro rows
 induction rows with
 | nil =>
  intro cells cs raw u hi hr hu
  cases cells with
  | cons _ _ => simp [zBe] at hr
  | nil =>
   simp only [zBe] at hr
   injection hr with hr; injection hr with e1 e2; subst e1; subst e2
   cases raw with
   | nil => exact ⟨trivial, rfl, fun o y hy => by cases hy⟩
   | cons _ _ => exact hi.elim
 | cons k rows ih =>
  intro cells cs raw u hi hr hu
  cases k with
  | none =>
   cases cells with
   | nil => simp [zBe] at hr
   | cons c cells =>
    simp only [zBe] at hr
    split at hr <;> try (cases hr; done)
    rename_i l u' hl
    injection hr with hr; injection hr with e1 e2; subst e1; subst e2
    cases raw with
    | nil => exact hi.elim
    | cons v raw =>
     obtain ⟨h1, h2, h3⟩ := ih hi.2 hl hu
     exact ⟨⟨zBV.rep (C := begin' w B X home h δ) (zBV.keep (Stp.refl _ _) (fun b _ hb => hM b hb) (Dle.refl _) (nR _) hi.1), h1⟩, h2, h3⟩
  | some p =>
   obtain ⟨o, e⟩ := p
   cases cells with
   | nil => simp [zBe] at hr
   | cons c cells =>
    cases c with
    | sl fr t xs =>
     simp only [zBe] at hr
     split at hr <;> try (cases hr; done)
     rename_i l u' hl
     injection hr with hr; injection hr with e1 e2; subst e1; subst e2
     cases raw with
     | nil => exact hi.elim
     | cons v raw =>
      obtain ⟨h1, h2, h3⟩ := ih hi.2 hl fun o' y hy => hu o' y (.tail _ hy)
      have ho := hu o _ (.head _)
      obtain ⟨g1, g2, g3⟩ := hi.1
      refine ⟨⟨⟨?_, Nat.zero_le _, fun hm2 fr2 ec2 t2 xs2 hx => ?_⟩, h1⟩, by simp [zAb, h2], fun o' y hy => ?_⟩
      ·rcases g1 with ⟨_, _, hv⟩ | ⟨b, base, ad, cap, cur, T, _, hv, _⟩
       ·exact ⟨_, _, _, hv⟩
       ·exact ⟨_, _, _, hv⟩
      ·have hx : h o = _ := hx
       rw [ho] at hx
       injection hx with e1 e2 e3 e4 e5 e6
       subst e5
       have e6 := eq_of_heq e6
       subst e6
       exact ⟨trivial, g1⟩
      ·cases hy with
       | head =>
        refine ⟨trivial, fun hk _ => by rw [hk]; rfl, ?_, g3.symm⟩
        rcases g2 with g2 | ⟨b, base, cur, k1, k2, k3, k4⟩
        ·exact .inl g2
        ·exact .inr ⟨b, base, cur, k1, k2, k3, fun i x hx => yk.keep (Stp.refl _ _) (fun b _ hb => hM b hb) (Dle.refl _) (by cases fr <;> simp [Cx.L, begin']) (k4 i x hx)⟩
       | tail _ hy => exact h3 o' y hy
    | _ => simp [zBe] at hr
theorem initPars_sound : ∀ {ps : List FPar} {args raw : List Value} {cs : List Cell} {vs : List V} {u : List (Nat × Obj)}, ParsR w home ps args raw -> zi (begin' w B X home h δ) cs raw -> zBf ps cs = some (vs, u) ->
  (∀ o y, (o, y) ∈ u -> h o = y) ->
  RepVs (begin' w B X home h δ) vs args /\ u.map (·.1) = zBI ps /\ ∀ o y, (o, y) ∈ u -> yv y /\ zBh y /\ zBU tm (begin' w B X home h δ) (home o) y /\ y.shape = none := by
 intro ps
 induction ps with
 | nil =>
  intro args raw cs vs u hp hc hi hu
  cases args with
  | cons _ _ => exact hp.elim
  | nil =>
   have hp : raw = [] := hp
   subst hp
   cases cs with
   | cons _ _ => exact hc.elim
   | nil =>
    simp only [zBf] at hi
    injection hi with hi; injection hi with e1 e2; subst e1; subst e2
    exact ⟨trivial, rfl, fun o y hy => by cases hy⟩
 | cons p ps ih =>
  intro args raw cs vs u hp hc hi hu
  cases args with
  | nil => cases p with
   | val g n => cases g <;> exact hp.elim
   | box o n => exact hp.elim
  | cons v args =>
   cases p with
   | val g n =>
    simp only [zBf] at hi
    split at hi <;> try (cases hi; done)
    rename_i l u' hl
    injection hi with hi; injection hi with e1 e2; subst e1; subst e2
    cases g with
    | true =>
     obtain ⟨us, rest, rfl, hn, rfl, hp⟩ := hp
     have hd := zi.drop n hc
     rw [<- hn, List.drop_left'  rfl] at hd
     rw [<- hn] at hl
     obtain ⟨h1, h2, h3⟩ := ih hp hd hl hu
     have ht := zi.take n hc
     rw [<- hn, List.take_left' rfl] at ht
     exact ⟨⟨⟨us, rfl, by rw [<- hn]; exact ht⟩, h1⟩, h2, h3⟩
    | false =>
     obtain ⟨rest, hn, rfl, hp⟩ := hp
     subst hn
     cases cs with
     | nil => exact hc.elim
     | cons c cs =>
      obtain ⟨h1, h2, h3⟩ := ih hp hc.2 hl hu
      exact ⟨⟨hc.1, h1⟩, h2, h3⟩
   | box o n =>
    simp only [zBf] at hi
    split at hi <;> try (cases hi; done)
    rename_i l u' hl
    injection hi with hi; injection hi with e1 e2; subst e1; subst e2
    obtain ⟨b, us, T, rest, g1, rfl, g2, hn, rfl, hp⟩ := hp
    have hd := zi.drop n hc
    rw [<- hn, List.drop_left' rfl] at hd
    rw [<- hn] at hl
    obtain ⟨h1, h2, h3⟩ := ih hp hd hl fun o' y hy => hu o' y (.tail _ hy)
    have ht := zi.take n hc
    rw [<- hn, List.take_left' rfl] at ht
    refine ⟨⟨⟨⟨_, rfl⟩, Nat.zero_le _, fun hm cs' hx => ⟨b, g1, rfl⟩⟩, h1⟩, by simp [zBI, h2], fun o' y hy => ?_⟩
    cases hy with
    | head => exact ⟨trivial, trivial, ⟨b, us.toArray, T, g1, g2, by rw [<- hn]; exact ht⟩, rfl⟩
    | tail _ hy => exact h3 o' y hy
end
theorem ups_get : ∀ (u : List (Nat × Obj)) (s : S) (o : Nat) (y : Obj), (u.map (·.1)).Nodup -> (o, y) ∈ u -> o < s.h.length -> s.h.length <= HP -> (s.ups u).obj o = y
 | (m, z) :: r, s, o, y, hn, hm, ho, hl => by
  simp only [S.ups]
  obtain ⟨hno, hn⟩ := List.nodup_cons.1 hn
  cases hm with
  | head =>
   rw [ups_obj r _ m (fun x hx => hno (List.mem_map.2 ⟨(m, x), hx, rfl⟩)) (.inl (by omega)), zBz (by omega), setObj_obj s ho, if_pos rfl]
  | tail _ hm => exact ups_get r (s.setO m z) o y hn hm (by rw [setO_h]; exact ho) (by rw [setO_h]; exact hl)
theorem ups_d : ∀ (u : List (Nat × Obj)) (s : S), (∀ x, (HP, x) ∉ u) -> (s.ups u).d = s.d /\ (s.ups u).k = s.k
 | [], _, _ => ⟨rfl, rfl⟩
 | (m, z) :: r, s, h => by
  simp only [S.ups]
  have hm : m ≠ HP := by rintro rfl; exact h z (.head _)
  obtain ⟨h1, h2⟩ := ups_d r (s.setO m z) fun x hx => h x (.tail _ hx)
  rw [h1, h2, zBz hm]
  exact ⟨rfl, rfl⟩
def XFunc.sig (x : XFunc) : Sig := ⟨x.pars, x.rowsIn, x.rets.map RetF.sig, x.outs, x.hp⟩
def zw (E : Env1) (fid : FuncId) (x : XFunc) : Bool :=
 match E.P.funcs[fid]? with
 | some fn => match fn.body with
  | some c => Nat.beq fn.ntmps x.nslots && (Nat.ble x.pars.length x.nslots && (retOk E.P x.rets fn.results.toList && (nodup (zAb x.rowsIn ++ zBI x.pars) && (allLt x.nobj (zAb x.rowsIn ++ zBI x.pars) && (Nat.ble x.nobj HP && (rowsK x.rowsIn x.arg.kinds && (outsK x.outs x.ret.kinds && codeOk E x.nobj x.body c)))))))
  | none => false
 | none => false
theorem initPars_len : ∀ {ps : List FPar} {cs : List Cell} {vs : List V} {u : List (Nat × Obj)}, zBf ps cs = some (vs, u) -> vs.length = ps.length
 | [], [], _, _, h => by simp only [zBf] at h; injection h with h; injection h with h _; subst h; rfl
 | [], _ :: _, _, _, h => by simp [zBf] at h
 | .val g n :: ps, cs, vs, u, h => by
  simp only [zBf] at h
  split at h <;> try (cases h; done)
  rename_i l u' hl
  injection h with h; injection h with e1 e2; subst e1
  simp [initPars_len hl]
 | .box o n :: ps, cs, vs, u, h => by
  simp only [zBf] at h
  split at h <;> try (cases h; done)
  rename_i l u' hl
  injection h with h; injection h with e1 e2; subst e1
  simp [initPars_len hl]
theorem RepVs.get {C : Cx} : ∀ {vs : List V} {xs : List Value} (i : Nat) {v : V} {x : Value}, RepVs C vs xs -> vs[i]? = some v -> xs[i]? = some x -> RepV C v x
 | _ :: _, _ :: _, 0, _, _, h, hv, hx => by simp at hv hx; subst hv; subst hx; exact h.1
 | _ :: _, _ :: _, i + 1, _, _, h, hv, hx => RepVs.get i h.2 (by simpa using hv) (by simpa using hx)
 | [], [], i, _, _, _, hv, _ => by simp at hv
 | [], _ :: _, _, _, _, h, _, _ => h.elim
 | _ :: _, [], _, _, _, h, _, _ => h.elim
theorem RepVs.len {C : Cx} : ∀ {vs : List V} {xs : List Value}, RepVs C vs xs -> vs.length = xs.length
 | [], [], _ => rfl
 | _ :: _, _ :: _, h => by simp [RepVs.len h.2]
 | [], _ :: _, h => h.elim
 | _ :: _, [], h => h.elim
theorem allLt_mem {n : Nat} {l : List Nat} {m : Nat} (h : allLt n l = true) (hm : m ∈ l) : m < n := allLt_memb h (zBd.2 hm)
theorem initRows_keys : ∀ {rows : List (Option (Nat × Nat))} {cells cs : List Cell} {u : List (Nat × Obj)} {kp : Bool}, zBe kp rows cells = some (cs, u) -> u.map (·.1) = zAb rows := by
 intro rows
 induction rows with
 | nil =>
  intro cells cs u kp h
  cases cells with
  | nil => simp only [zBe] at h; injection h with h; injection h with _ h; subst h; rfl
  | cons _ _ => simp [zBe] at h
 | cons k rows ih =>
  intro cells cs u kp h
  cases cells with
  | nil => cases k <;> simp [zBe] at h
  | cons c cells =>
   cases k with
   | none =>
    simp only [zBe] at h
    split at h <;> try (cases h; done)
    rename_i l u' hl
    injection h with h; injection h with _ h; subst h
    exact ih hl
   | some p =>
    obtain ⟨o, e⟩ := p
    cases c <;> simp only [zBe] at h <;> try (cases h; done)
    split at h <;> try (cases h; done)
    rename_i l u' hl
    injection h with h; injection h with _ h; subst h
    simp [zAb, ih hl]
theorem initPars_keys : ∀ {ps : List FPar} {cs : List Cell} {vs : List V} {u : List (Nat × Obj)}, zBf ps cs = some (vs, u) -> u.map (·.1) = zBI ps := by
 intro ps
 induction ps with
 | nil =>
  intro cs vs u h
  cases cs with
  | nil => simp only [zBf] at h; injection h with h; injection h with _ h; subst h; rfl
  | cons _ _ => simp [zBf] at h
 | cons p ps ih =>
  intro cs vs u h
  cases p with
  | val g n =>
   simp only [zBf] at h
   split at h <;> try (cases h; done)
   rename_i l u' hl
   injection h with h; injection h with _ h; subst h
   exact ih hl
  | box o n =>
   simp only [zBf] at h
   split at h <;> try (cases h; done)
   rename_i l u' hl
   injection h with h; injection h with _ h; subst h
   simp [zBI, ih hl]
theorem OutR.weaken {tm : Nat -> TypeId} {w : World} {M M' : Nat -> Prop} {δ : Dl} {B : Nat} {home : Nat -> Option (Nat × Nat)} {sh sh' : Nat -> Option (Nat × Ty × Nat)} (hM : ∀ b, M' b -> M b) (hsh : ∀ o z, sh o = some z -> sh' o = some z) :
  ∀ {outs : List OutF} {cs : List Cell} {vs : List Value} {L : List (Option (Nat × Nat))}, OutR tm w M δ B home sh outs cs vs L -> OutR tm w M' δ B home sh' outs cs vs L := by
 have hden : ∀ {g : Bool} {t : Ty} {x : t.den} {us : List Value}, yk w M δ (if g then B else 0) t x us -> yk w M' δ (if g then B else 0) t x us := fun h => h.keep (Stp.refl _ _) (fun b _ hb => hM b hb) (Dle.refl _) (nR _)
 have hrow : ∀ {m : Option (Nat × Nat)} {fr : Bool} {e : Nat} {t : Ty} {xs : List t.den}, RowAt tm w M δ B m fr e t xs -> RowAt tm w M' δ B m fr e t xs := by
  intro m fr e t xs h
  rcases h with h | ⟨b, base, cur, h1, h2, h3, h4⟩
  ·exact .inl h
  ·exact .inr ⟨b, base, cur, h1, h2, h3, fun i x hx => hden (h4 i x hx)⟩
 intro outs
 induction outs with
 | nil =>
  intro cs vs L h
  cases cs <;> cases vs <;> first | exact h | exact h.elim
 | cons k outs ih =>
  intro cs vs L h
  cases k with
  | imm =>
   cases cs with
   | nil => exact h.elim
   | cons c cs =>
    cases vs with
    | nil => exact h.elim
    | cons v vs => exact ⟨zBV.keep (Stp.refl _ _) (fun b _ hb => hM b hb) (Dle.refl _) (nR _) h.1, ih h.2⟩
  | own e =>
   cases cs with
   | nil => exact h.elim
   | cons c cs =>
    cases vs with
    | nil => cases c <;> exact h.elim
    | cons v vs =>
     cases c <;> try (exact h.elim)
     obtain ⟨m, L', h1, ⟨h2, h3, h4⟩, h5⟩ := h
     exact ⟨m, L', h1, ⟨h2, hrow h3, h4⟩, ih h5⟩
  | back o =>
   cases cs with
   | nil => exact h.elim
   | cons c cs =>
    cases c <;> try (exact h.elim)
    obtain ⟨⟨e, h1, h2⟩, h3⟩ := h
    exact ⟨⟨e, hsh _ _ h1, hrow h2⟩, ih h3⟩
theorem zB0 : ∀ {l : List Nat} {n : Nat}, allBelow l = true -> n ∈ l -> n < HP
 | m :: r, n, h, hn => by
  simp only [allBelow, bA] at h
  cases hn with
  | head => simpa using h.1
  | tail _ hn => exact zB0 h.2 hn
theorem own_dyn {μ : Nat -> Option (Nat × Nat)} {s : S} (hl : s.h.length <= HP) : ∀ {l : List Nat}, (∀ k ∈ l, k ∈ zBZ s.d) -> zCS μ s (l.map fun k => μ (HP + 1 + k)) (l.map fun k => HP + 1 + k)
 | [], _ => .nil
 | k :: r, h => by
  refine .some (fun b base hm => ⟨base, hm⟩) ?_ (own_dyn hl fun k hk => h k (.tail _ hk))
  obtain ⟨e, t, xs, hd⟩ := zB3.1 (h k (.head _))
  rw [zBQ hl, hd]; trivial
theorem func_core {E : Env1} {fs : Nat -> FS} {fid : FuncId} {x : XFunc} {f : FS} (N : Nat) (heqT : ∀ T t, E.eqT T t = true -> eqTB E.P T t = true) (hcall : ∀ F : Fx, (∀ b, E.G b -> b < F.w0.heap.size /\ ¬ F.M0 b) -> E.Q F.w0 -> CallOk E F fs x.nobj) (hmix : E.P.follows .mixedOrders = true) (hok : zw E fid x = true)
  (F0 : x.arg.den -> Option x.ret.den) (H0 : x.arg.den -> List HRow -> Option (x.ret.den × List HRow))
  (hf : f = { arg := x.arg, ret := x.ret, fresh := x.fresh, F := F0, keep := x.keep, hp := x.hp, H := H0 })
  (hruns : ∀ (y : x.arg.den) (D : List HRow) (r : x.ret.den) (D' : List HRow), FS.runs { arg := x.arg, ret := x.ret, fresh := x.fresh, F := F0, keep := x.keep, hp := x.hp, H := H0 } y D r D' -> (x.hp = false -> D = []) ->
   ∃ s0, x.init (x.arg.cells x.keep y) D = some s0 /\ ∃ (R : Type) (k : Ex -> S -> Option R) (rr : R), x.body.runK (envOf fs) N s0 k = some rr /\
    ∀ ex s0, k ex s0 = some rr -> (∀ id, ex ≠ .exit id) /\ ∃ s, s0.ghosts (putAll s0.k) = some s /\ x.final s = some r /\ D' = (match x.hp with | true => s.d | false => [])) :
  Sound E.P E.tm E.G E.Q fid x.sig f := by
 subst hf
 unfold zw at hok
 split at hok <;> try (cases hok; done)
 rename_i fn hfn
 split at hok <;> try (cases hok; done)
 rename_i c hbody
 simp only [bA] at hok
 obtain ⟨k1, k2, k3, k4, k5, kHP, kR, kO, k6⟩ := hok
 have k1 := eB k1
 have k2 := Nat.le_of_ble_eq_true k2
 have kHP := Nat.le_of_ble_eq_true kHP
 have k4 := nodup_spec k4
 refine ⟨⟨kR, rfl⟩, ?_⟩
 intro w B X home shape args raw D y r D' hG hQ hBw hB1 hB2 hX hin hlt hheap hpars hrows hF
 obtain ⟨hD0, hD1, hD2, hD3⟩ := hheap
 have hD0 : x.hp = false -> D = [] := hD0
 obtain ⟨s0, hs0, R, kk, rr, hrun, hend⟩ := hruns y D r D' hF hD0
 unfold XFunc.init at hs0
 split at hs0 <;> try (cases hs0; done)
 rename_i cs u hu
 split at hs0 <;> try (cases hs0; done)
 rename_i vs u2 hu2
 injection hs0 with hs0
 have hl0 : s0.h.length = x.nobj := by rw [<- hs0, ups_len]; simp
 have hlHP : s0.h.length <= HP := by rw [hl0]; exact kHP
 have ht0 : s0.t = vs ++ List.replicate (x.nslots - vs.length) .junk := by rw [<- hs0, ups_t]
 have key1 := initRows_keys hu
 have key2 := initPars_keys hu2
 have hkeys : ((u ++ u2).map (·.1)).Nodup := by rw [List.map_append, key1, key2]; exact k4
 have hmemKey : ∀ o z, (o, z) ∈ u ++ u2 -> o ∈ zAb x.rowsIn ++ zBI x.pars := by
  intro o z hm
  have : o ∈ (u ++ u2).map (·.1) := List.mem_map.2 ⟨(o, z), hm, rfl⟩
  rwa [List.map_append, key1, key2] at this
 have hkeyHP : ∀ z, (HP, z) ∉ u ++ u2 := fun z hz => by
  have := allLt_mem k5 (hmemKey HP z hz); omega
 obtain ⟨hd0, hk0⟩ := ups_d (u ++ u2) { t := vs ++ List.replicate (x.nslots - vs.length) .junk, h := List.replicate x.nobj (.absent 0), d := D } hkeyHP
 rw [hs0] at hd0 hk0
 have hd0 : s0.d = D := hd0
 have hk0 : s0.k = [] := hk0
 have hget : ∀ o z, (o, z) ∈ u ++ u2 -> s0.obj o = z := by
  intro o z hm
  rw [<- hs0]
  exact ups_get _ _ o z hkeys hm (by simp; exact allLt_mem k5 (hmemKey o z hm)) (by simp; exact kHP)
 have hother : ∀ o, o < HP -> o ∉ zAb x.rowsIn ++ zBI x.pars -> s0.obj o = .absent 0 := by
  intro o hoHP ho
  rw [<- hs0, ups_obj _ _ o (fun z hz => ho (hmemKey o z hz)) (.inl (by omega))]
  simp only [S.obj, objOf, List.getElem?_replicate]
  split <;> rename_i heq
  ·split at heq
   ·injection heq with heq; exact heq.symm
   ·cases heq
  ·exact zBg hoHP
 have hin2 : ∀ o, o ∈ x.sig.inObjs ↔ o ∈ zAb x.rowsIn ++ zBI x.pars := by
  intro o
  simp only [Sig.inObjs, XFunc.sig, List.mem_append]
  exact Or.comm
 have hinHP : ∀ o, o ∈ x.sig.inObjs -> o < HP := fun o ho => by
  have := allLt_mem k5 ((hin2 o).1 ho); omega
 have hpres : ∀ o, yv (s0.obj o) -> o ∈ x.sig.inObjs \/ ∃ k, k ∈ zBZ D /\ o = HP + 1 + k := by
  intro o hp
  rcases zBm o with h1 | rfl | ⟨k, rfl⟩
  ·left
   apply Classical.byContradiction
   intro hn
   rw [hother o h1 fun hm => hn ((hin2 o).2 hm)] at hp
   exact hp
  ·rw [zBs hlHP] at hp; exact hp.elim
  ·right
   rw [zBQ hlHP, hd0] at hp
   refine ⟨k, ?_, rfl⟩
   rcases zB2 D[k]? with h2 | ⟨e, t, xs, h2, _⟩
   ·rw [h2] at hp; exact hp.elim
   ·exact zB3.2 ⟨e, t, xs, h2⟩
 have hdynB : ∀ k b base, k ∈ zBZ D -> home (HP + 1 + k) = some (b, base) -> heapB D home b := fun k b base hk hh => ⟨k, base, hk, hh⟩
 let F : Fx := { w0 := w, M0 := x.sig.mayW home D, X := X, home := home, shape := fun o => if memb o (zAb x.rowsIn) then shape o else none, hX := hX, B := B, hB := hBw, dl := dlOf D.length home }
 have hM : ∀ b, (begin' w B X home s0.obj (dlOf D.length home)).M b -> (X b \/ x.sig.mayW home D b) := by
  rintro b (hb | ⟨o, base, hp, hmu⟩)
  ·exact .inl hb
  ·rcases hpres o hp with h1 | ⟨k, h1, rfl⟩
   ·exact .inr (.inl ⟨o, base, h1, hmu⟩)
   ·exact .inr (.inr ⟨k, base, h1, hmu⟩)
 obtain ⟨r1, _, r3⟩ := initRows_sound (h := s0.obj) hM hrows hu fun o z hz => hget o z (List.mem_append.2 (.inl hz))
 obtain ⟨p1, _, p3⟩ := initPars_sound (tm := E.tm) (h := s0.obj) hpars r1 hu2 fun o z hz => hget o z (List.mem_append.2 (.inr hz))
 have hvl : vs.length = x.pars.length := initPars_len hu2
 have hal : vs.length = args.length := p1.len
 have hcx : s0.cx home w F = begin' w B X home s0.obj (dlOf D.length home) := by
  have hdl : s0.dl home = dlOf D.length home := by funext k; simp only [S.dl, dlOf, hd0]
  simp only [S.cx, begin', hdl, F]
 have hall : ∀ o, o ∈ zAb x.rowsIn ++ zBI x.pars -> (x.keep = false \/ o ∈ zBI x.pars -> zBh (s0.obj o)) /\ zBU E.tm (begin' w B X home s0.obj (dlOf D.length home)) (home o) (s0.obj o) /\ (s0.obj o).shape = F.shape o := by
  intro o ho
  have ho' : o ∈ (u ++ u2).map (·.1) := by rw [List.map_append, key1, key2]; exact ho
  obtain ⟨⟨o', z⟩, hm, rfl⟩ := List.mem_map.1 ho'
  have hz := hget o' z hm
  rw [show (o', z).1 = o' from rfl, hz]
  rcases List.mem_append.1 hm with hm | hm
  ·obtain ⟨_, q2, q3, q4⟩ := r3 o' z hm
   have hr : o' ∈ zAb x.rowsIn := by rw [<- key1]; exact List.mem_map.2 ⟨(o', z), hm, rfl⟩
   have hnr : o' ∉ zBI x.pars := fun hh => (List.nodup_append.1 k4).2.2 o' hr o' hh rfl
   exact ⟨fun hh => q2 (hh.resolve_right hnr), q3, by rw [q4]; simp only [F]; rw [if_pos (zBd.2 hr)]⟩
  ·obtain ⟨_, q2, q3, q4⟩ := p3 o' z hm
   have hr : o' ∈ zBI x.pars := by rw [<- key2]; exact List.mem_map.2 ⟨(o', z), hm, rfl⟩
   have hnr : o' ∉ zAb x.rowsIn := fun hh => (List.nodup_append.1 k4).2.2 o' hh o' hr rfl
   exact ⟨fun _ => q2, q3, by rw [q4]; simp only [F]; rw [if_neg fun hh => hnr (zBd.1 hh)]⟩
 have hrep : RepM E.tm F home s0 { tmps := args.toArray ++ Array.replicate (fn.ntmps - args.toArray.size) undef, defers := [] } w := by
  constructor
  ·rfl
  ·rw [ht0]; simp; omega
  ·intro i v z hv hz
   rw [hcx]
   rw [ht0, List.getElem?_append] at hv
   by_cases hi : i < vs.length
   ·rw [if_pos hi] at hv
    rw [Array.getElem?_append] at hz
    rw [if_pos (by simp; omega)] at hz
    exact RepVs.get (C := begin' w B X home s0.obj (dlOf D.length home)) i p1 hv (by simpa using hz)
   ·rw [if_neg hi, List.getElem?_replicate] at hv
    split at hv
    ·injection hv with hv; subst hv; trivial
    ·cases hv
  ·intro o
   rw [hcx]
   rcases zBm o with h1 | rfl | ⟨k, rfl⟩
   ·by_cases ho : o ∈ zAb x.rowsIn ++ zBI x.pars
    ·exact (hall o ho).2.1
    ·rw [hother o h1 ho]; trivial
   ·rw [zBs hlHP]; trivial
   ·rw [zBQ hlHP, hd0]
    rcases zB2 D[k]? with h2 | ⟨e, t, xs, h2, h3⟩
    ·rw [h2]; trivial
    ·rw [h3]; exact hrow_at.2 (hD1 k e t xs h2)
  ·intro o o' b base base' hp hp' h1 h2
   rcases hpres o hp with g1 | ⟨k, g1, rfl⟩ <;> rcases hpres o' hp' with g2 | ⟨k', g2, rfl⟩
   ·exact hin o o' b base base' g1 g2 h1 h2
   ·exact absurd ⟨o, base, g1, h1⟩ (hD2 b (hdynB k' b base' g2 h2)).2
   ·exact absurd ⟨o', base', g2, h2⟩ (hD2 b (hdynB k b base g1 h1)).2
   ·rw [hD3 k k' b base base' g1 g2 h1 h2]
  ·intro o b base hp h1
   rcases hpres o hp with g1 | ⟨k, g1, rfl⟩
   ·exact hlt o b base g1 h1
   ·exact (hD2 b (hdynB k b base g1 h1)).1
  ·intro o b base hp h1
   rcases hpres o hp with g1 | ⟨k, g1, rfl⟩
   ·refine .inr ⟨.inl ⟨o, base, g1, h1⟩, ?_⟩
    have ho := (hin2 o).1 g1
    cases hkp : x.keep with
    | false => exact .inl ((hall o ho).1 (.inl hkp))
    | true =>
     rcases List.mem_append.1 ho with h2 | h2
     ·exact .inr (hB2 hkp o b base h2 h1)
     ·exact .inl ((hall o ho).1 (.inr h2))
   ·refine .inr ⟨.inr ⟨k, base, g1, h1⟩, .inl ?_⟩
    rw [zBQ hlHP]; exact hview_weak _
  ·intro o hm
   rcases zBm o with h1 | rfl | ⟨k, rfl⟩
   ·by_cases ho : o ∈ zAb x.rowsIn ++ zBI x.pars
    ·exact ⟨rfl, (hall o ho).2.2⟩
    ·rw [hother o h1 ho] at hm; cases hm
   ·rw [zBs hlHP] at hm; cases hm
   ·rw [zBQ hlHP, hview_hm] at hm; cases hm
  ·exact Stp.refl _ _
  ·exact hlHP
  ·show Dle (dlOf D.length home) (s0.dl home)
   have hdl : s0.dl home = dlOf D.length home := by funext k; simp only [S.dl, dlOf, hd0]
   rw [hdl]
   exact Dle.refl _
  ·rw [hk0]; intro o st z hz; cases hz
 refine calls_of_wp hfn hbody (wp_mono (code_sound heqT (hcall F hG hQ) hmix N x.body c k6 s0 kk rr _ w hrun hl0 ⟨home, hrep⟩) ?_)
 rintro e a w' ⟨exx, sZ, rfl, hn, hrZ, hk⟩
 obtain ⟨hexx, s, hgh, hfin, hD'⟩ := hend exx sZ hk
 obtain ⟨⟨μ, hr⟩, _⟩ := ghosts_sound (putAll_ok _ _) hrZ hgh
 have main : a.defers = [] /\ ∃ v, (results fn a.tmps).run E.P w' = .ok v w' /\ ∃ v', Ending.returned v = .returned v' /\ OutPost E.tm x.sig { arg := x.arg, ret := x.ret, fresh := x.fresh, F := F0, keep := x.keep, hp := x.hp, H := H0 } w B X home shape D r D' v' w' := by
  refine ⟨hr.defers, ?_⟩
  unfold XFunc.final at hfin
  split at hfin <;> try (cases hfin; done)
  rename_i ac os hac
  split at hfin <;> try (cases hfin; done)
  rename_i bc hbc
  split at hfin <;> try (cases hfin; done)
  rename_i hnd
  rw [bA] at hnd
  obtain ⟨hnd, hbel⟩ := hnd
  split at hfin <;> try (cases hfin; done)
  rename_i qs out hout hap
  split at hfin <;> try (cases hfin; done)
  rename_i fr r' hof
  have hfr : (!(x.fresh || x.keep) || fr) = true /\ conj qs = true /\ r' = r := by
   cases hb : (!(x.fresh || x.keep) || fr)
   ·rw [hb] at hfin; cases hfin
   ·rw [hb] at hfin
    cases hb2 : conj qs
    ·rw [hb2] at hfin; cases hfin
    ·rw [hb2] at hfin; injection hfin with hfin; exact ⟨rfl, rfl, hfin⟩
  obtain ⟨hfr, hqs, rfl⟩ := hfr
  obtain ⟨vals, rawA, bs, e1, e2, e3, e4⟩ := ret_sound (P := E.P) hr k3 hac
  obtain ⟨rawB, b1, b2, b3⟩ := boxes_sound hr hbc
  obtain ⟨pre, hpre, hsames⟩ := ofCells_sames (x.fresh || x.keep) hof (by intro hh; rw [hh] at hfr; simpa using hfr)
  rw [List.append_nil] at hpre
  subst hpre
  obtain ⟨L0, hL0⟩ : ∃ L, L = os ++ (ownRefs x.outs (ac ++ bc) ++ (zBI x.pars ++ zCI x.outs)) := ⟨_, rfl⟩
  rw [<- hL0] at hnd hbel hap
  have hsub : ∀ k, k ∈ zBZ D' -> k ∈ zBZ s.d := by
   intro k hk
   rw [hD'] at hk
   cases hhp : x.hp with
   | true => rw [hhp] at hk; exact hk
   | false => rw [hhp] at hk; cases hk
  have hknown : ∀ k, k < D.length -> k < s.d.length /\ μ (HP + 1 + k) = home (HP + 1 + k) := by
   intro k hk
   have := hr.known k (home (HP + 1 + k)) (by simp only [F, dlOf]; rw [if_pos hk])
   simp only [S.dl] at this
   split at this
   ·rename_i h1; injection this with h2; exact ⟨h1, h2⟩
   ·cases this
  obtain ⟨ms, o1, o2, o3⟩ := out_sound (δ := dlOf D'.length μ) hr (un := !x.hp) (L := L0 ++ (zBZ D').map fun k => HP + 1 + k) (L0 := L0) (fun o ho => by
   rcases List.mem_append.1 ho with ho | ho
   ·exact .inl ho
   ·obtain ⟨k, _, rfl⟩ := List.mem_map.1 ho
    right; omega) (by
   intro hu
   have hu : x.hp = true := by simpa using hu
   rw [hu] at hD'
   have hD' : D' = s.d := hD'
   rw [hD']
   exact Dle.refl _) (by
   intro hu k hk
   have hu : x.hp = false := by simpa using hu
   rw [hu] at hD'
   have hD' : D' = [] := hD'
   rw [hD'] at hk
   rcases List.mem_append.1 hk with hk | hk
   ·have := zB0 hbel hk; omega
   ·cases hk) hout hqs (e3.append b2) hsames hap (by rw [cells_kinds]; exact kO)
  have hown0 : zCS μ s (x.sig.outMs home bs ms) L0 := by rw [hL0]; exact e4.append (o2.append (b3.append o3))
  have hown : zCS μ s (x.sig.outMs home bs ms ++ heapMs D' (fun k => μ (HP + 1 + k))) (L0 ++ (zBZ D').map fun k => HP + 1 + k) := hown0.append (own_dyn hr.hl hsub)
  have hndA : (L0 ++ (zBZ D').map fun k => HP + 1 + k).Nodup := by
   refine List.nodup_append.2 ⟨nodup_spec hnd, ?_, ?_⟩
   ·refine List.pairwise_map.2 ((heapKs_nodup D').imp fun h => by omega)
   ·intro a ha b hb hab
    obtain ⟨k, _, rfl⟩ := List.mem_map.1 hb
    have := zB0 hbel ha
    omega
  refine ⟨oneOrTuple vals, ?_, _, rfl, ⟨hr.frame, vals, rawA, rawB, bs, ms, μ, rfl, e2, b1, ⟨fun hhp => ?_, fun k hk => (hknown k hk).2, ?_⟩, ?_, hown.apart hr hndA, ?_⟩⟩
  ·rw [results_eq, Array.mapM_eq_mapM_toList]
   simp [e1, oneOrTuple]
   match vals with
   | [] => rfl
   | [v] => rfl
   | _ :: _ :: _ => rfl
  ·have hhp : x.hp = true := hhp
   rw [hhp] at hD'
   have hD' : D' = s.d := hD'
   rw [hD']
   cases hDl : D.length with
   | zero => omega
   | succ n => have := (hknown n (by omega)).1; omega
  ·intro k e t xs hk
   have hk1 : k ∈ zBZ D' := zB3.2 ⟨e, t, xs, hk⟩
   have hs : s.d[k]? = some (.row e t xs) := by
    rw [hD'] at hk
    cases hhp : x.hp with
    | true => rw [hhp] at hk; exact hk
    | false => rw [hhp] at hk; cases hk
   have := hr.objs (HP + 1 + k)
   rw [zBQ hr.hl, hs] at this
   exact hrow_at.1 this
  ·refine OutR.weaken ?_ ?_ o1
   ·rintro b (hb | ⟨base, hb⟩)
    ·exact .inl hb
    ·obtain ⟨o, base', g1, g2, g3⟩ := hown.mem b base hb
     exact .inr ⟨o, base', g1, g2, g3⟩
   ·intro o z hz
    simp only [F] at hz
    split at hz
    ·exact hz
    ·cases hz
  ·intro b base hb
   obtain ⟨o, base', g1, g2, g3⟩ := hown.mem b base hb
   exact ⟨(hr.own o b base' g2 g3).imp id (·.1), hr.lt o b base' g2 g3⟩
 cases exx with
 | normal => exact main
 | ret => exact main
 | exit id => exact absurd rfl (hexx id)
theorem func_sound {E : Env1} {fs : Nat -> FS} {fid : FuncId} {x : XFunc} (N : Nat) (heqT : ∀ T t, E.eqT T t = true -> eqTB E.P T t = true) (hcall : ∀ F : Fx, (∀ b, E.G b -> b < F.w0.heap.size /\ ¬ F.M0 b) -> E.Q F.w0 -> CallOk E F fs x.nobj) (hmix : E.P.follows .mixedOrders = true) (hp : x.hp = false) (hok : zw E fid x = true) :
  Sound E.P E.tm E.G E.Q fid x.sig { arg := x.arg, ret := x.ret, fresh := x.fresh, F := fun y => x.run (envOf fs) N y, keep := x.keep } := by
 refine func_core N heqT hcall hmix hok (fun y => x.run (envOf fs) N y) (fun _ _ => none) (by rw [hp]) ?_
 intro y D r D' hr hD
 have hD := hD hp
 subst hD
 simp only [FS.runs, hp] at hr
 obtain ⟨hr, rfl⟩ := hr
 simp only [XFunc.run] at hr
 split at hr <;> try (cases hr; done)
 rename_i s0 hs0
 have main : ∀ s : S, (match s.k with | [] => x.final s | k => bindO (s.ghosts (putAll k)) x.final) = some r -> ∃ s1, s.ghosts (putAll s.k) = some s1 /\ x.final s1 = some r /\ ([] : List HRow) = [] := by
  intro s hk
  split at hk
  ·rename_i h0
   exact ⟨s, by rw [h0]; rfl, hk, rfl⟩
  ·obtain ⟨s1, h1, h2⟩ := zBL hk
   exact ⟨s1, h1, h2, rfl⟩
 refine ⟨s0, hs0, _, x.endK, r, hr, fun ex s hk => ?_⟩
 rw [hp]
 cases ex with
 | normal => exact ⟨fun id h => (by cases h), main s hk⟩
 | ret => exact ⟨fun id h => (by cases h), main s hk⟩
 | exit id => cases hk
theorem func_soundH {E : Env1} {fs : Nat -> FS} {fid : FuncId} {x : XFunc} (N : Nat) (heqT : ∀ T t, E.eqT T t = true -> eqTB E.P T t = true) (hcall : ∀ F : Fx, (∀ b, E.G b -> b < F.w0.heap.size /\ ¬ F.M0 b) -> E.Q F.w0 -> CallOk E F fs x.nobj) (hmix : E.P.follows .mixedOrders = true) (hp : x.hp = true) (hok : zw E fid x = true) :
  Sound E.P E.tm E.G E.Q fid x.sig { arg := x.arg, ret := x.ret, fresh := x.fresh, F := fun _ => none, keep := x.keep, hp := true, H := fun y D => x.runH (envOf fs) N y D } := by
 refine func_core N heqT hcall hmix hok (fun _ => none) (fun y D => x.runH (envOf fs) N y D) (by rw [hp]) ?_
 intro y D r D' hr _
 simp only [FS.runs, hp] at hr
 simp only [XFunc.runH] at hr
 split at hr <;> try (cases hr; done)
 rename_i s0 hs0
 have main : ∀ s : S, (bindO (s.ghosts (putAll s.k)) fun s' => bindO (x.final s') fun r => some (r, s'.d)) = some (r, D') -> ∃ s1, s.ghosts (putAll s.k) = some s1 /\ x.final s1 = some r /\ D' = s1.d := by
  intro s hk
  obtain ⟨s1, h0, hk⟩ := zBL hk
  obtain ⟨q, h1, h2⟩ := zBL hk
  injection h2 with h2; injection h2 with h3 h4
  subst h3
  exact ⟨s1, h0, h1, h4.symm⟩
 refine ⟨s0, hs0, _, x.endKH, (r, D'), hr, fun ex s hk => ?_⟩
 rw [hp]
 cases ex with
 | normal => exact ⟨fun id h => (by cases h), main s hk⟩
 | ret => exact ⟨fun id h => (by cases h), main s hk⟩
 | exit id => cases hk
end Go.Kb
/- Calls, from the caller's side: what is handed in. -/
namespace Go.Kb
abbrev AL := List (Nat × Nat × Option (Nat × Nat))
def parAL (μ : Nat -> Option (Nat × Nat)) : List XPar -> List FPar -> AL
 | .box o _ :: r, .box oc _ :: q => (oc, o, μ o) :: parAL μ r q
 | _ :: r, _ :: q => parAL μ r q
 | _, _ => []
def nilOr {α : Type} (c : Cell) (x : α) (y : α) : α := match c with | .nil => x | _ => y
def rowAL (μ : Nat -> Option (Nat × Nat)) : List (Option (Nat × Nat)) -> List (Option (Nat × Nat)) -> List Cell -> AL
 | some (o, _) :: r, some (oc, _) :: q, c :: cs => (oc, o, nilOr c none (μ o)) :: rowAL μ r q cs
 | _ :: r, _ :: q, _ :: cs => rowAL μ r q cs
 | _, _, _ => []
def zB7 : List (Option (Nat × Nat)) -> List Cell -> List (Nat × Option (Nat × Ty × Nat))
 | some (oc, e) :: q, .sl _ t xs :: cs => (oc, some (e, t, xs.length)) :: zB7 q cs
 | _ :: q, _ :: cs => zB7 q cs
 | _, _ => []
def alook {α : Type} (d : α) : List (Nat × α) -> Nat -> α
 | [], _ => d
 | (k, x) :: r, n => if n = k then x else alook d r n
theorem alook_get {α : Type} (d : α) : ∀ {l : List (Nat × α)} {k : Nat} {x : α}, (l.map (·.1)).Nodup -> (k, x) ∈ l -> alook d l k = x
 | (m, y) :: r, k, x, hn, hm => by
  obtain ⟨hno, hn⟩ := List.nodup_cons.1 hn
  cases hm with
  | head => simp [alook]
  | tail _ hm =>
   have hne : k ≠ m := by rintro rfl; exact hno (List.mem_map.2 ⟨(k, x), hm, rfl⟩)
   simp only [alook, if_neg hne]
   exact alook_get d hn hm
section
variable {tm : Nat -> TypeId} {F : Fx} {μ : Nat -> Option (Nat × Nat)} {s : S} {a : Act} {w : World} {look : Nat -> Obj}
theorem box_args (h : RepM tm F μ s a w) (hs : Sees look s.obj) {o o' st st' : Nat} {hm : Bool} {cs : List Cell} {v : Value} (hx : look o = .box st' hm cs) (h1 : o = o') (h2 : st = st') (hv : yl (s.cx μ w F) (.ptr o' st 0) v) :
  ∃ b us T, μ o = some (b, 0) /\ v = .pointer (some ⟨b, 0, none⟩) /\ w.heap[b]? = some (.cells (List.toArray us) T (0, 0)) /\ zi (s.cx μ w F) cs us /\ yv (s.obj o) := by
 subst h1; subst h2
 have hob := hs.row hx trivial
 obtain ⟨_, _, hp⟩ := hv
 obtain ⟨b, hmu, hv⟩ := hp hm cs hob
 have hobj := h.objs o
 rw [hob] at hobj
 obtain ⟨b', vs, T, h3, h4, h5⟩ := hobj
 have hmu : μ o = some (b, 0) := hmu
 rw [hmu] at h3; injection h3 with h3; injection h3 with h3 _; subst h3
 have h4 : w.heap[b]? = some (.cells vs T (0, 0)) := h4
 exact ⟨b, vs.toList, T, hmu, hv, by simpa using h4, h5, by rw [hob]; trivial⟩
theorem collect_rep (h : RepM tm F μ s a w) (hs : Sees look s.obj) : ∀ {ps : List XPar} {gs : List FPar} {vs : List V} {raw : List Cell} {args : List Value}, zCP ps gs = true -> zBj look ps vs = some raw -> RepVs (s.cx μ w F) vs args ->
  ∃ rawv, zi (s.cx μ w F) raw rawv /\ (∀ p ∈ parAL μ ps gs, yv (s.obj p.2.1) /\ p.2.2 = μ p.2.1) /\ (parAL μ ps gs).map (·.1) = zBI gs /\ (parAL μ ps gs).map (·.2.1) = zBJ ps /\
   ∀ home : Nat -> Option (Nat × Nat), (∀ p ∈ parAL μ ps gs, home p.1 = p.2.2) -> ParsR w home gs args rawv := by
 intro ps
 induction ps with
 | nil =>
  intro gs vs raw args hok hc hv
  cases gs with
  | cons _ _ => simp [zCP] at hok
  | nil =>
   cases vs with
   | cons _ _ => simp [zBj] at hc
   | nil =>
    simp only [zBj] at hc
    injection hc with hc; subst hc
    cases args with
    | cons _ _ => exact hv.elim
    | nil => exact ⟨[], trivial, fun p hp => (by cases hp), rfl, rfl, fun home _ => rfl⟩
 | cons p ps ih =>
  intro gs vs raw args hok hc hv
  cases gs with
  | nil => cases p <;> simp [zCP] at hok
  | cons q gs =>
   cases vs with
   | nil => cases p with
    | val g n => cases g <;> simp [zBj] at hc
    | box o n => simp [zBj] at hc
   | cons v vs =>
    cases args with
    | nil => exact hv.elim
    | cons arg args =>
     cases p with
     | val g n =>
      cases q with
      | box _ _ => simp [zCP] at hok
      | val g' n' =>
       simp only [zCP, bA] at hok
       obtain ⟨h1, h2, h3, h4⟩ := hok
       have h1 : g = g' := by simpa using h1
       have h2 := eB h2
       subst h1; subst h2
       cases g with
       | true =>
        cases v with
        | agg cs =>
         simp only [zBj] at hc
         split at hc <;> try (cases hc; done)
         rename_i hl
         split at hc <;> try (cases hc; done)
         rename_i r hr
         injection hc with hc; subst hc
         obtain ⟨rawv, e1, e2, e3, e4, e5⟩ := ih h4 hr hv.2
         obtain ⟨us, hu, hcs⟩ := hv.1
         refine ⟨us ++ rawv, hcs.append e1, e2, e3, e4, fun home hh => ⟨us, rawv, hu, ?_, rfl, e5 home hh⟩⟩
         rw [<- hcs.len]; exact eB hl
        | _ => simp [zBj] at hc
       | false =>
        cases v with
        | one c =>
         simp only [zBj] at hc
         split at hc <;> try (cases hc; done)
         rename_i r hr
         injection hc with hc; subst hc
         obtain ⟨rawv, e1, e2, e3, e4, e5⟩ := ih h4 hr hv.2
         exact ⟨arg :: rawv, ⟨hv.1, e1⟩, e2, e3, e4, fun home hh => ⟨rawv, by simpa using h3, rfl, e5 home hh⟩⟩
        | _ => simp [zBj] at hc
     | box o n =>
      cases q with
      | val _ _ => simp [zCP] at hok
      | box oc n' =>
       simp only [zCP, bA] at hok
       have h2 := eB hok.1
       subst h2
       cases v with
       | one cl =>
        cases cl with
        | ptr o' st off =>
         cases off with
         | succ k => simp [zBj] at hc
         | zero =>
          simp only [zBj] at hc
          split at hc <;> try (cases hc; done)
          rename_i st' hm cs hx
          split at hc <;> try (cases hc; done)
          rename_i hb
          split at hc <;> try (cases hc; done)
          rename_i r hr
          injection hc with hc; subst hc
          simp only [bA] at hb
          obtain ⟨rawv, e1, e2, e3, e4, e5⟩ := ih hok.2 hr hv.2
          obtain ⟨b, us, T, g1, g2, g3, g4, g5⟩ := box_args h hs hx (eB hb.1) (eB hb.2.1) hv.1
          refine ⟨us ++ rawv, g4.append e1, fun p hp => ?_, by simp [parAL, zBI, e3], by simp [parAL, zBJ, e4], fun home hh => ?_⟩
          ·cases hp with
           | head => exact ⟨g5, rfl⟩
           | tail _ hp => exact e2 p hp
          ·refine ⟨b, us, T, rawv, ?_, g2, g3, ?_, rfl, e5 home fun p hp => hh p (.tail _ hp)⟩
           ·rw [hh _ (.head _)]; exact g1
           ·rw [<- g4.len]; exact eB hb.2.2
        | _ => simp [zBj] at hc
       | _ => simp [zBj] at hc
theorem noHs_cons {look : Nat -> Obj} {c : Cell} {r : List Cell} (h : noHs look (c :: r) = true) : noHs look [c] = true /\ noHs look r = true := by
 cases c with
 | hnd _ _ => simp [noHs] at h
 | sl _ _ _ => simpa [noHs] using h
 | ref _ _ _ => simpa [noHs] using h
 | _ => exact ⟨rfl, h⟩
theorem flat_lent (h : RepM tm F μ s a w) (hs : Sees look s.obj) {M' : Nat -> Prop} {δ : Dl} {un : Bool} {D : List HRow} (hDs : ∀ (k : Nat) (r : HRow), D[k]? = some r -> s.d[k]? = some r) (hδ : un = false -> Dle (s.dl μ) δ)
  (hM : ∀ b, M' b -> (s.cx μ w F).M b) {kp : Bool} {c c' d : Cell} {v : Value} {qb : List Bool} (hf : flat un D look c = some (qb, c')) (hq : conj qb = true) (hd : Same kp c' d) (hc : yl (s.cx μ w F) c v)
  (hnoD : un = true -> noHs look [c] = false -> ∀ k, k ∈ zBZ s.d -> ∀ b base, μ (HP + 1 + k) = some (b, base) -> ¬ M' b)
  (hl : ∀ o st e, c = .ref o st e -> ∀ b base, μ o = some (b, base) -> ¬ M' b) {B : Nat} (hB : kp = true -> B <= F.B) (hnr : kp = true -> ∀ o st e, c ≠ .ref o st e) : zBV w M' δ B d v := by
 -- data, once they are data outside M'
 have lst : ∀ {g : Bool} {t : Ty} {xs : List t.den}, (t.hasH = true -> noHs look [c] = false) -> yk w M' (s.dl μ) (if kp && g then B else 0) (.list t) xs [v] -> conj (flatL un D g t xs).1 = true -> Same kp (flatL un D g t xs).2 d -> zBV w M' δ B d v := by
  intro g t xs hth hd0 hq0 hsm
  unfold flatL at hq0 hsm
  cases hu : un && t.hasH with
  | false =>
   rw [hu] at hsm
   simp only [] at hsm
   obtain ⟨rfl, hg⟩ := hsm
   refine yk.keep (Stp.refl _ _) (fun _ _ hb => hb) (Dle.refl _) ?_ (conv_den (t := .list t) hδ hu hd0)
   cases kp with
   | false => simp
   | true => simp [hg rfl]
  | true =>
   rw [hu] at hq0 hsm
   simp only [] at hq0 hsm
   simp only [bA] at hu
   obtain ⟨rfl, hg⟩ := hsm
   have := unden_rep (δ' := δ) (M' := M') h hDs (fun _ hb => hb) (hnoD hu.1 (hth hu.2)) (t := .list t) (x := xs) hq0 hd0
   show yk w M' δ (if kp then B else 0) (.list t.un) _ [v]
   cases kp with
   | false => exact this
   | true => have := hg rfl; cases this
 cases c with
 | int k n => simp only [flat] at hf; injection hf with hf; injection hf with _ hf; subst hf; exact zBV.same (c := .int k n) (by exact hc) hd
 | bool b => simp only [flat] at hf; injection hf with hf; injection hf with _ hf; subst hf; exact zBV.same (c := .bool b) (by exact hc) hd
 | str b => simp only [flat] at hf; injection hf with hf; injection hf with _ hf; subst hf; exact zBV.same (c := .str b) (by exact hc) hd
 | nil => simp only [flat] at hf; injection hf with hf; injection hf with _ hf; subst hf; exact zBV.same (c := .nil) (by exact hc) hd
 | sl g t xs =>
  simp only [flat] at hf; injection hf with hf
  have h1 : qb = (flatL un D g t xs).1 := by rw [hf]
  have h2 : c' = (flatL un D g t xs).2 := by rw [hf]
  subst h1; subst h2
  refine lst (fun hh => by simp [noHs, hh]) ?_ hq hd
  refine yk.keep (M := (s.cx μ w F).M) (Stp.refl _ _) (fun b _ hb => hM b hb) (Dle.refl _) ?_ hc
  cases kp with
  | false => simp
  | true =>
   cases g with
   | false => simp
   | true => simp only [Cx.L, Bool.and_self, if_true]; exact hB rfl
 | hnd t x =>
  simp only [flat] at hf
  have hd0 : yk w M' (s.dl μ) 0 (.hnd t) x [v] := yk.keep (M := (s.cx μ w F).M) (Stp.refl _ _) (fun b _ hb => hM b hb) (Dle.refl _) (nR _) hc
  cases un with
  | false =>
   simp only [] at hf
   injection hf with hf; injection hf with _ hf; subst hf
   have hd : d = .hnd t x := hd
   subst hd
   exact hd0.keep (Stp.refl _ _) (fun _ _ h => h) (hδ rfl) (nR _)
  | true =>
   simp only [] at hf
   injection hf with hf; injection hf with h1 hf; subst hf; subst h1
   obtain ⟨rfl, hg⟩ := hd
   have := unden_rep (δ' := δ) (M' := M') h hDs (fun _ hb => hb) (hnoD rfl rfl) (t := .hnd t) (x := x) hq hd0
   show yk w M' δ (if kp then B else 0) (.list t) _ [v]
   cases kp with
   | false => exact this
   | true => have := hg rfl; cases this
 | ref o st e =>
  simp only [flat] at hf
  split at hf <;> try (cases hf; done)
  rename_i st' hm fr' ec t xs hx
  split at hf <;> try (cases hf; done)
  rename_i hst
  have hst := eB hst
  subst hst
  injection hf with hf
  have h1 : qb = (flatL un D (fr' && !hm) t (e.cut xs)).1 := by rw [hf]
  have h2 : c' = (flatL un D (fr' && !hm) t (e.cut xs)).2 := by rw [hf]
  subst h1; subst h2
  cases kp with
  | true => exact absurd rfl (hnr rfl _ _ _)
  | false =>
  refine lst (fun hh => by simp [noHs, hx, hh]) ?_ hq hd
  have hob := hs.row hx trivial
  have hpo : yv (s.obj o) := by rw [hob]; trivial
  have hM2 : ∀ b, (Cx.mk μ (fun _ => .absent 0) w B M' (s.dl μ)).M b -> M' b := by
   rintro b (hb | ⟨_, _, hp, _⟩)
   ·exact hb
   ·exact hp.elim
  have hob' : zBU tm (Cx.mk μ s.obj w 0 F.X (s.dl μ)) (μ o) (.row st hm fr' ec t xs) := by
   have := h.objs o
   rw [hob] at this
   rcases this with this | ⟨b, base, cur, k1, k2, k3, k4⟩
   ·exact .inl this
   ·exact .inr ⟨b, base, cur, k1, k2, k3, fun i x hxi => yk.keep (Stp.refl _ _) (fun _ _ hb => hb) (Dle.refl _) (by simp [Cx.L]) (k4 i x hxi)⟩
  have := row_den (tm := tm) (C := Cx.mk μ s.obj w 0 F.X (s.dl μ)) (C' := Cx.mk μ (fun _ => .absent 0) w 0 M' (s.dl μ)) (fr' := false) (by show zBU tm _ (μ o) (s.obj o); rw [hob]; exact hob') hob (by
   obtain ⟨c1, c2, c3⟩ := hc
   exact ⟨c1, c2, c3⟩) rfl rfl (fun b hb => hM b (by
    rcases hb with hb | ⟨_, _, hp, _⟩
    ·exact hb
    ·exact hp.elim)) (Dle.refl _) (fun b base hmu hb => hl o _ e rfl b base hmu (by
    rcases hb with hb | ⟨_, _, hp, _⟩
    ·exact hb
    ·exact hp.elim)) (fun b base hmu => h.lt o b base hpo hmu) (by intro hh; cases hh) (by intro hh; cases hh)
  have this : yk w (Cx.mk μ (fun _ => .absent 0) w 0 M' (s.dl μ)).M (s.dl μ) _ (.list t) (e.cut xs) [v] := this
  exact this.keep (Stp.refl _ _) (fun b _ hb => Or.inl hb) (Dle.refl _) (by simp [Cx.L])
 | ptr _ _ _ => simp [flat] at hf
 | dptr _ _ _ _ => simp [flat] at hf
 | eptr _ _ _ _ => simp [flat] at hf
 | junk => simp [flat] at hf
theorem handIn_rep (h : RepM tm F μ s a w) (hs : Sees look s.obj) {M' : Nat -> Prop} {δ : Dl} {B : Nat} {un : Bool} {D : List HRow} (hDs : ∀ (k : Nat) (r : HRow), D[k]? = some r -> s.d[k]? = some r) (hδ : un = false -> Dle (s.dl μ) δ) (hM : ∀ b, M' b -> (s.cx μ w F).M b) {kp : Bool} (hB : kp = true -> B <= F.B) :
  ∀ {rows gr : List (Option (Nat × Nat))} {raw inp ds : List Cell} {qs : List Bool} {rawv : List Value}, zAq un D look rows raw = some (qs, inp) -> conj qs = true -> zB6 rows gr = true -> zi (s.cx μ w F) raw rawv -> Sames kp inp ds ->
   rowsK gr (ds.map Cell.isSl) = true -> (un = true -> noHs look raw = false -> ∀ k, k ∈ zBZ s.d -> ∀ b base, μ (HP + 1 + k) = some (b, base) -> ¬ M' b) ->
   (∀ o, o ∈ zBF rows raw -> ∀ b base, μ o = some (b, base) -> ¬ M' b) -> (kp = true -> zBF rows raw = []) ->
   (∀ p ∈ rowAL μ rows gr raw, ∀ b base, p.2.2 = some (b, base) -> yv (s.obj p.2.1) /\ μ p.2.1 = some (b, base)) /\
   (rowAL μ rows gr raw).map (·.1) = zAb gr /\ (rowAL μ rows gr raw).map (·.2.1) = zAb rows /\ (zB7 gr ds).map (·.1) = zAb gr /\
   ∀ (home : Nat -> Option (Nat × Nat)) (shape : Nat -> Option (Nat × Ty × Nat)), (∀ p ∈ rowAL μ rows gr raw, home p.1 = p.2.2) -> (∀ p ∈ zB7 gr ds, shape p.1 = p.2) ->
    InR tm w M' δ B home shape gr ds rawv := by
 intro rows
 induction rows with
 | nil =>
  intro gr raw inp ds qs rawv hh hq hok hc hsm hK hnD hl hn
  cases gr with
  | cons _ _ => simp [zB6] at hok
  | nil =>
   cases raw with
   | cons _ _ => simp [zAq] at hh
   | nil =>
    simp only [zAq] at hh
    injection hh with hh; injection hh with _ hh; subst hh
    cases ds with
    | cons _ _ => exact hsm.elim
    | nil =>
     cases rawv with
     | cons _ _ => exact hc.elim
     | nil => exact ⟨fun p hp => (by cases hp), rfl, rfl, rfl, fun _ _ _ _ => trivial⟩
 | cons k rows ih =>
  intro gr raw inp ds qs rawv hh hq hok hc hsm hK hnD hl hn
  cases gr with
  | nil => cases k <;> simp [zB6] at hok
  | cons q gr =>
   cases raw with
   | nil => cases k <;> simp [zAq] at hh
   | cons c raw =>
    cases rawv with
    | nil => exact hc.elim
    | cons v rawv =>
     cases k with
     | none =>
      cases q with
      | some _ => simp [zB6] at hok
      | none =>
       simp only [zB6] at hok
       simp only [zAq] at hh
       split at hh <;> try (cases hh; done)
       rename_i qb c' hf
       split at hh <;> try (cases hh; done)
       rename_i qr r hr
       injection hh with hh; injection hh with hqe hh; subst hh; subst hqe
       cases ds with
       | nil => exact hsm.elim
       | cons d ds =>
        obtain ⟨e1, e2, e3, e4, e5⟩ := ih hr (conj_app hq).2 hok hc.2 hsm.2 (by simpa [rowsK] using hK) (fun hu hn2 => hnD hu (by cases hb : noHs look (c :: raw) with | false => rfl | true => rw [(noHs_cons hb).2] at hn2; cases hn2)) (fun o ho => hl o (by cases c <;> simp only [zBF] <;> first | exact ho | exact .tail _ ho)) (fun hk => by have := hn hk; cases c <;> simp only [zBF] at this <;> first | exact this | cases this)
        refine ⟨e1, e2, e3, by simpa [zB7, zAb] using e4, fun home shape h1 h2 => ⟨?_, e5 home shape h1 (by simpa [zB7] using h2)⟩⟩
        exact flat_lent h hs hDs hδ hM hf (conj_app hq).1 hsm.1 hc.1 (fun hu hn2 => hnD hu (by cases hb : noHs look (c :: raw) with | false => rfl | true => rw [(noHs_cons hb).1] at hn2; cases hn2)) (fun o st e he => hl o (by subst he; simp [zBF])) hB (fun hk o st e he => by have := hn hk; subst he; simp [zBF] at this)
     | some p =>
      obtain ⟨o, e⟩ := p
      cases q with
      | none => simp [zB6] at hok
      | some p' =>
       obtain ⟨oc, e'⟩ := p'
       simp only [zB6, bA] at hok
       obtain ⟨hee, hok⟩ := hok
       have hee := eB hee
       subst hee
       cases c with
       | nil =>
        simp only [zAq] at hh
        split at hh <;> try (cases hh; done)
        rename_i st hab
        split at hh <;> try (cases hh; done)
        rename_i qr r hr
        injection hh with hh; injection hh with hqe hh; subst hh; subst hqe
        cases ds with
        | nil => exact hsm.elim
        | cons d ds =>
         simp only [List.map_cons, rowsK, bA] at hK
         rcases hsm.1 with ⟨t, hd⟩ | ⟨t, hd⟩
         case inr => rw [hd] at hK; cases hK.1
         subst hd
         obtain ⟨e1, e2, e3, e4, e5⟩ := ih hr hq hok hc.2 hsm.2 hK.2 (fun hu hn2 => hnD hu (by cases hb : noHs look (_ :: raw) with | false => rfl | true => rw [(noHs_cons hb).2] at hn2; cases hn2)) (fun o ho => hl o (by simp only [zBF]; exact ho)) (fun hk => by have := hn hk; simpa only [zBF] using this)
         have hv : v = .slice none 0 0 := hc.1
         refine ⟨fun p hp b base hpb => ?_, by simp [rowAL, zAb, e2], by simp [rowAL, zAb, e3], by simp [zB7, zAb, e4], fun home shape h1 h2 => ?_⟩
         ·cases hp with
          | head => cases hpb
          | tail _ hp => exact e1 p hp b base hpb
         ·have g1 := h1 _ (.head _)
          have g2 := h2 _ (.head _)
          have g1 : home oc = none := g1
          refine ⟨⟨by rw [g1]; exact .inl ⟨rfl, rfl, hv⟩, by rw [g1]; exact .inl ⟨rfl, rfl⟩, g2⟩, e5 home shape (fun p hp => h1 p (.tail _ hp)) fun p hp => h2 p (.tail _ hp)⟩
       | ref o' st ex =>
        cases ex with
        | all =>
         simp only [zAq] at hh
         split at hh <;> try (cases hh; done)
         rename_i st' hm fr e2 t xs hx
         split at hh <;> try (cases hh; done)
         rename_i hb
         split at hh <;> try (cases hh; done)
         rename_i qr r hr
         injection hh with hh; injection hh with hqe hh; subst hh; subst hqe
         simp only [bA, Bool.not_eq_true'] at hb
         have b1 := eB hb.1
         have b2 := eB hb.2.1
         have b3 := eB hb.2.2.1
         have b4 := hb.2.2.2
         subst b1; subst b2; subst b3
         cases ds with
         | nil => exact hsm.elim
         | cons d ds =>
          simp only [List.map_cons, rowsK, bA] at hK
          obtain ⟨hd, hgf⟩ := hsm.1
          subst hd
          obtain ⟨e1, e2, e3, e4, e5⟩ := ih hr hq hok hc.2 hsm.2 hK.2 (fun hu hn2 => hnD hu (by cases hb : noHs look (_ :: raw) with | false => rfl | true => rw [(noHs_cons hb).2] at hn2; cases hn2)) (fun o ho => hl o (by simp only [zBF]; exact ho)) (fun hk => by have := hn hk; simpa only [zBF] using this)
          have hob := hs.row hx trivial
          have hpo : yv (s.obj o) := by rw [hob]; trivial
          obtain ⟨_, _, hrow⟩ := hc.1
          obtain ⟨_, hrow⟩ := hrow hm fr e t xs hob
          refine ⟨fun p hp b base hpb => ?_, by simp [rowAL, zAb, e2], by simp [rowAL, zAb, e3], by simp [zB7, zAb, e4], fun home shape h1 h2 => ?_⟩
          ·cases hp with
           | head => exact ⟨hpo, hpb⟩
           | tail _ hp => exact e1 p hp b base hpb
          ·have g1 : home oc = μ o := h1 _ (.head _)
           have g2 := h2 _ (.head _)
           refine ⟨⟨by rw [g1]; exact hrow, ?_, g2⟩, e5 home shape (fun p hp => h1 p (.tail _ hp)) fun p hp => h2 p (.tail _ hp)⟩
           rw [g1]
           have := h.objs o
           rw [hob] at this
           rcases this with this | ⟨b, base, cur, k1, k2, k3, k4⟩
           ·exact .inl this
           ·exact .inr ⟨b, base, cur, k1, k2, k3, fun i x hxi => conv_den hδ b4 <| yk.keep (Stp.refl _ _) (fun b _ hb => hM b hb) (Dle.refl _) (by
             cases kp with
             | false => simp
             | true =>
              have hfr := hgf rfl
              simp at hfr
              rw [hfr.1]; simp only [Cx.L, if_true]; exact hB rfl) (k4 i x hxi)⟩
        | tail _ => simp [zAq] at hh
        | part _ _ => simp [zAq] at hh
       | int _ _ => simp [zAq] at hh
       | bool _ => simp [zAq] at hh
       | str _ => simp [zAq] at hh
       | sl _ _ _ => simp [zAq] at hh
       | hnd _ _ => simp [zAq] at hh
       | ptr _ _ _ => simp [zAq] at hh
       | dptr _ _ _ _ => simp [zAq] at hh
       | eptr _ _ _ _ => simp [zAq] at hh
       | junk => simp [zAq] at hh
end
end Go.Kb
/- Calls, from the caller's side: what comes back. -/
namespace Go.Kb
abbrev TL := List (Option Nat × Option (Nat × Nat))
theorem den_above {w : World} {M : Nat -> Prop} {δ : Dl} {L : Nat} : ∀ {t : Ty} {x : t.den} {vs : List Value}, yk w M δ L t x vs -> yk w (fun b => M b \/ b < L) δ L t x vs := by
 intro t
 induction t with
 | int k => exact fun h => h
 | bool => exact fun h => h
 | str => exact fun h => h
 | unit => exact fun h => h
 | pair t u iht ihu =>
  intro x vs h
  obtain ⟨p, q, rfl, hp, hq⟩ := h
  exact ⟨p, q, rfl, iht hp, ihu hq⟩
 | list t ih =>
  intro xs vs h
  obtain ⟨a, cap, rfl, hc, hb, hcells⟩ := h
  refine ⟨a, cap, rfl, hc, ?_, ?_⟩
  ·rcases hb with h0 | ⟨ad, rfl, h1, h2, h3⟩
   ·exact .inl h0
   ·exact .inr ⟨ad, rfl, h1, h2, fun hm => hm.elim h3 fun h => by omega⟩
  ·intro i x hx
   obtain ⟨ad, us, rfl, hl, hcell, hd⟩ := hcells i x hx
   exact ⟨ad, us, rfl, hl, hcell, ih hd⟩
 | hnd t _ => exact fun h => h
theorem flat_zero {w : World} {M : Nat -> Prop} {δ : Dl} {B : Nat} {c : Cell} {v : Value} : zBV w M δ B (unfl c) v ↔ zBV w M δ 0 c v := by
 cases c <;> simp [unfl, zBV]
theorem InR.up {tm : Nat -> TypeId} {w : World} {M : Nat -> Prop} {δ : Dl} {B : Nat} {home : Nat -> Option (Nat × Nat)} {shape : Nat -> Option (Nat × Ty × Nat)} : ∀ {rows : List (Option (Nat × Nat))} {cs : List Cell} {vs : List Value}, InR tm w M δ B home shape rows (cs.map unfl) vs -> InR tm w M δ 0 home shape rows cs vs := by
 intro rows
 induction rows with
 | nil => intro cs vs h; cases cs <;> cases vs <;> first | exact h | exact h.elim
 | cons k rows ih =>
  intro cs vs h
  cases cs with
  | nil => cases k <;> exact h.elim
  | cons c cs =>
   cases vs with
   | nil =>
    cases k with
    | none => exact h.elim
    | some p => cases c <;> exact h.elim
   | cons v vs =>
    cases k with
    | none => exact ⟨flat_zero.1 h.1, ih h.2⟩
    | some p =>
     cases c <;> try (exact h.elim)
     obtain ⟨⟨h1, h2, h3⟩, h4⟩ := h
     refine ⟨⟨h1, ?_, h3⟩, ih h4⟩
     rcases h2 with h2 | ⟨b, base, cur, k1, k2, k3, k4⟩
     ·exact .inl h2
     ·exact .inr ⟨b, base, cur, k1, k2, k3, fun i x hx => by simpa using k4 i x hx⟩
theorem OutR.down {tm : Nat -> TypeId} {w : World} {M : Nat -> Prop} {δ : Dl} {B : Nat} {home : Nat -> Option (Nat × Nat)} {shape : Nat -> Option (Nat × Ty × Nat)} : ∀ {outs : List OutF} {cs : List Cell} {vs : List Value} {L : List (Option (Nat × Nat))}, OutR tm w M δ 0 home shape outs cs vs L -> OutR tm w M δ B home shape outs (cs.map unfl) vs L := by
 intro outs
 induction outs with
 | nil => intro cs vs L h; cases cs <;> cases vs <;> first | exact h | exact h.elim
 | cons k outs ih =>
  intro cs vs L h
  have hrow : ∀ {m : Option (Nat × Nat)} {fr : Bool} {e : Nat} {t : Ty} {xs : List t.den}, RowAt tm w M δ 0 m fr e t xs -> RowAt tm w M δ B m false e t xs := by
   intro m fr e t xs h
   rcases h with h | ⟨b, base, cur, h1, h2, h3, h4⟩
   ·exact .inl h
   ·exact .inr ⟨b, base, cur, h1, h2, h3, fun i x hx => by simpa using h4 i x hx⟩
  cases k with
  | imm =>
   cases cs with
   | nil => exact h.elim
   | cons c cs =>
    cases vs with
    | nil => exact h.elim
    | cons v vs => exact ⟨flat_zero.2 h.1, ih h.2⟩
  | own e =>
   cases cs with
   | nil => exact h.elim
   | cons c cs =>
    cases vs with
    | nil => cases c <;> exact h.elim
    | cons v vs =>
     cases c <;> try (exact h.elim)
     obtain ⟨m, L', h1, ⟨h2, h3, h4⟩, h5⟩ := h
     exact ⟨m, L', h1, ⟨h2, hrow h3, fun hh => by cases hh⟩, ih h5⟩
  | back o =>
   cases cs with
   | nil => exact h.elim
   | cons c cs =>
    cases c <;> try (exact h.elim)
    obtain ⟨⟨e, h1, h2⟩, h3⟩ := h
    exact ⟨⟨e, h1, hrow h2⟩, ih h3⟩
theorem cells_flag {fr : Bool} : ∀ {t : Ty} {x : t.den} {g : Bool} {u : Ty} {xs : List u.den}, Cell.sl g u xs ∈ t.cells fr x -> g = fr := by
 intro t
 induction t with
 | int k => intro x g u xs h; simp [Ty.cells] at h
 | bool => intro x g u xs h; simp [Ty.cells] at h
 | str => intro x g u xs h; simp [Ty.cells] at h
 | unit => intro x g u xs h; simp [Ty.cells] at h
 | pair t u iht ihu =>
  intro x g v xs h
  simp only [Ty.cells, List.mem_append] at h
  exact h.elim iht ihu
 | list t _ =>
  intro x g u xs h
  simp only [Ty.cells, List.mem_singleton] at h
  injection h
 | hnd t _ => intro x g u xs h; simp [Ty.cells] at h
section
variable {tm : Nat -> TypeId} {w : World} {M : Nat -> Prop} {δ : Dl} {B : Nat} {home : Nat -> Option (Nat × Nat)} {shape : Nat -> Option (Nat × Ty × Nat)}
theorem row_above {m : Option (Nat × Nat)} {e : Nat} {t : Ty} {xs : List t.den} (h : RowAt tm w M δ B m true e t xs) : RowAt tm w (fun b => M b \/ b < B) δ B m true e t xs := by
 rcases h with h | ⟨b, base, cur, h1, h2, h3, h4⟩
 ·exact .inl h
 ·exact .inr ⟨b, base, cur, h1, h2, h3, fun i x hx => den_above (h4 i x hx)⟩
theorem OutR.above : ∀ {outs : List OutF} {cs : List Cell} {vs : List Value} {L : List (Option (Nat × Nat))}, (∀ g u xs, Cell.sl g u xs ∈ cs -> g = true) -> OutR tm w M δ B home shape outs cs vs L ->
  OutR tm w (fun b => M b \/ b < B) δ B home shape outs cs vs L := by
 intro outs
 induction outs with
 | nil => intro cs vs L _ h; cases cs <;> cases vs <;> first | exact h | exact h.elim
 | cons k outs ih =>
  intro cs vs L hg h
  have hg' : ∀ c r, cs = c :: r -> ∀ g u xs, Cell.sl g u xs ∈ r -> g = true := fun c r hc g u xs hm => hg g u xs (hc ▸ .tail _ hm)
  cases k with
  | imm =>
   cases cs with
   | nil => exact h.elim
   | cons c cs =>
    cases vs with
    | nil => exact h.elim
    | cons v vs =>
     refine ⟨?_, ih (hg' _ _ rfl) h.2⟩
     have h1 := h.1
     cases c with
     | sl g t xs => have := hg g t xs (.head _); subst this; exact den_above (show yk w M δ B (.list t) xs [v] from h1)
     | int => exact h1
     | bool => exact h1
     | str => exact h1
     | nil => exact h1
     | hnd t q => exact h1
     | _ => exact h1.elim
  | own e =>
   cases cs with
   | nil => exact h.elim
   | cons c cs =>
    cases vs with
    | nil => cases c <;> exact h.elim
    | cons v vs =>
     cases c <;> try (exact h.elim)
     rename_i fr t xs
     have := hg fr t xs (.head _)
     subst this
     obtain ⟨m, L', h1, ⟨h2, h3, h4⟩, h5⟩ := h
     exact ⟨m, L', h1, ⟨h2, row_above h3, h4⟩, ih (hg' _ _ rfl) h5⟩
  | back o =>
   cases cs with
   | nil => exact h.elim
   | cons c cs =>
    cases c <;> try (exact h.elim)
    rename_i fr t xs
    have := hg fr t xs (.head _)
    subst this
    obtain ⟨⟨e, h1, h2⟩, h3⟩ := h
    exact ⟨⟨e, h1, row_above h2⟩, ih (hg' _ _ rfl) h3⟩
def CameRow (tm : Nat -> TypeId) (look : Nat -> Obj) (w : World) (M : Nat -> Prop) (δ : Dl) (B : Nat) (own : Bool) (o : Nat) (y : Obj) (m : Option (Nat × Nat)) : Prop :=
 ∃ e t xs fr fr', RowAt tm w M δ B m fr' e t xs /\ (fr = true -> fr' = true) /\ match own with
  | true => y = .row ((look o).stamp + 1) false fr e t xs /\ (fr = true -> ∀ b base, m = some (b, base) -> B <= b)
  | false => ∃ st hm fr0 xs0, look o = .row st hm fr0 e t xs0 /\ xs0.length = xs.length /\ y = .row st hm fr e t xs /\ (fr = true -> fr0 = true \/ hm = true)
theorem place_rep {look : Nat -> Obj} {c : zCJ} {g : Sig}
  (hpair : ∀ o oc st hm fr e t xs, pairOk c.rowsIn g.rowsIn o oc = true -> look o = .row st hm fr e t xs -> shape oc = some (e, t, xs.length)) :
  ∀ {outs : List OutC} {gouts : List OutF} {ds : List Cell} {vs : List Value} {ms : List (Option (Nat × Nat))} {cs : List Cell} {u : List (Nat × Obj)},
   outsOk c g outs gouts = true -> place look outs ds = some (cs, u) -> OutR tm w M δ B home shape gouts ds vs ms ->
   ∃ T1 T2 : TL, T1.map (·.2) = ms /\ T2.map (·.2) = (zCI gouts).map home /\ T1.filterMap (·.1) = ownC outs /\ T2.filterMap (·.1) = backC outs /\ u.map (·.1) = zB8 outs /\
    (∀ o y, (o, y) ∈ u -> ∃ m, ((some o, m) ∈ T1 /\ CameRow tm look w M δ B true o y m) \/ ((some o, m) ∈ T2 /\ CameRow tm look w M δ B false o y m)) /\
    (∀ p, p ∈ T2 -> ∃ o oc, p = (some o, home oc) /\ pairOk c.rowsIn g.rowsIn o oc = true /\ ∃ st hm fr e t xs, look o = .row st hm fr e t xs) /\
    ∀ C' : Cx, C'.w = w -> C'.B <= B -> (∀ b, C'.M b -> M b) -> Dle δ C'.dl -> (∀ o y, (o, y) ∈ u -> C'.h o = y) -> (∀ o m, (some o, m) ∈ T1 -> C'.μ o = m) -> (∀ b base, (none, some (b, base)) ∈ T1 -> b < w.heap.size /\ ¬ C'.M b) -> zi C' cs vs := by
 intro outs
 induction outs with
 | nil =>
  intro gouts ds vs ms cs u hok hp ho
  cases gouts with
  | cons k _ => cases k <;> simp [outsOk] at hok
  | nil =>
   cases ds with
   | cons _ _ => simp [place] at hp
   | nil =>
    simp only [place] at hp
    injection hp with hp; injection hp with e1 e2; subst e1; subst e2
    cases vs with
    | cons _ _ => exact ho.elim
    | nil =>
     have ho : ms = [] := ho
     subst ho
     exact ⟨[], [], rfl, rfl, rfl, rfl, rfl, (fun o y h => by cases h), (fun p h => by cases h), fun _ _ _ _ _ _ _ _ => trivial⟩
 | cons k outs ih =>
  intro gouts ds vs ms cs u hok hp ho
  cases gouts with
  | nil => cases k <;> simp [outsOk] at hok
  | cons q gouts =>
   cases ds with
   | nil => cases k <;> simp [place] at hp
   | cons d ds =>
    cases k with
    | imm =>
     simp only [place] at hp
     split at hp <;> try (cases hp; done)
     rename_i l u' hl
     injection hp with hp; injection hp with e1 e2; subst e1; subst e2
     cases q with
     | back _ => simp [outsOk] at hok
     | imm =>
      simp only [outsOk] at hok
      cases vs with
      | nil => exact ho.elim
      | cons v vs =>
       obtain ⟨T1, T2, t1, t2, t3, t4, t5, t6, t7, t8⟩ := ih hok hl ho.2
       refine ⟨T1, T2, t1, t2, t3, t4, t5, t6, t7, fun C' hw hB hM hD hh hmu hn => ⟨?_, t8 C' hw hB hM hD hh hmu hn⟩⟩
       have h1 := ho.1
       cases d with
       | sl g t xs =>
        show yk C'.w C'.M C'.dl (C'.L g) (.list t) xs [v]
        rw [hw]
        refine yk.keep (Stp.refl _ _) (fun b _ hb => hM b hb) hD ?_ (show yk w M δ (if g then B else 0) (.list t) xs [v] from h1)
        cases g <;> simp [Cx.L, hB]
       | int => exact h1
       | bool => exact h1
       | str => exact h1
       | nil => exact h1
       | hnd t q =>
        show yk C'.w C'.M C'.dl 0 (.hnd t) q [v]
        rw [hw]
        exact yk.keep (Stp.refl _ _) (fun b _ hb => hM b hb) hD (nR _) (show yk w M δ 0 (.hnd t) q [v] from h1)
       | _ => exact h1.elim
     | own e =>
      simp only [outsOk] at hok
      cases vs with
      | nil => cases d <;> exact ho.elim
      | cons v vs =>
       cases d <;> try (exact ho.elim)
       rename_i fr t xs
       obtain ⟨m, L', rfl, ⟨h2, h3, h4⟩, h5⟩ := ho
       obtain ⟨T1, T2, t1, t2, t3, t4, t5, t6, t7, t8⟩ := ih hok hl h5
       refine ⟨(none, m) :: T1, T2, by simp [t1], t2, by simpa [ownC] using t3, t4, t5, fun o y hm => ?_, t7, fun C' hw hB hM hD hh hmu hn => ⟨?_, t8 C' hw hB hM hD hh (fun o m hm => hmu o m (.tail _ hm)) (fun b base hm => hn b base (.tail _ hm))⟩⟩
       ·obtain ⟨m', h⟩ := t6 o y hm
        exact ⟨m', h.imp (fun h => ⟨.tail _ h.1, h.2⟩) id⟩
       ·-- a row of the callee's, taken as a datum
        show yk C'.w C'.M C'.dl (C'.L fr) (.list t) xs [v]
        rw [hw]
        have hLe : C'.L fr <= (if fr then B else 0) := by cases fr <;> simp [Cx.L, hB]
        rcases h2 with ⟨rfl, hl0, hv⟩ | ⟨b, base, a, cap, cur, T, rfl, hv, g1, g2, g3, g4, g5, g6, g7⟩
        ·subst hv
         have : xs = [] := List.eq_nil_of_length_eq_zero hl0
         subst this
         exact nil_den _ _ _ _ t
        ·obtain ⟨hlt, hnM⟩ := hn b base (.head _)
         rcases h3 with ⟨h3, _⟩ | ⟨b', base', cur', h3, g8, g9, g10⟩
         ·cases h3
         injection h3 with h3; injection h3 with e1 e2; subst e1; subst e2
         have hLb : C'.L fr <= b := by
          cases fr with
          | false => simp [Cx.L]
          | true => have := h4 rfl b base rfl; simp [Cx.L]; omega
         refine ⟨some a, cap, by rw [hv], g1, .inr ⟨a, rfl, by rw [g3]; exact hLb, by rw [g3]; exact hlt, by rw [g3]; exact hnM⟩, fun i x hx => ?_⟩
         have hi : i < xs.length := (List.getElem?_eq_some_iff.1 hx).1
         have hisz : i * t.sz + t.sz <= xs.length * t.sz := by
          have : (i + 1) * t.sz <= xs.length * t.sz := Nat.mul_le_mul_right _ hi
          rwa [Nat.add_mul, Nat.one_mul] at this
         refine ⟨a, _, rfl, ?_, fun j y hy => ?_, yk.keep (Stp.refl _ _) (fun b _ hb => hM b hb) hD hLe (g10 i x hx)⟩
         ·simp; omega
         ·rw [zB4 g4, g5 (by omega), g3, cell_lit w b _ _ _ _ g8]
          rw [List.getElem?_take, List.getElem?_drop] at hy
          split at hy
          ·rw [<- hy, Array.getElem?_toList]; congr 1; omega
          ·cases hy
    | own o e =>
     cases q with
     | imm => simp [outsOk] at hok
     | back _ => simp [outsOk] at hok
     | own e' =>
      simp only [outsOk, bA] at hok
      obtain ⟨he, hok⟩ := hok
      have he := eB he
      subst he
      cases d <;> simp only [place] at hp <;> try (cases hp; done)
      rename_i fr t xs
      split at hp <;> try (cases hp; done)
      rename_i l u' hl
      injection hp with hp; injection hp with e1 e2; subst e1; subst e2
      cases vs with
      | nil => exact ho.elim
      | cons v vs =>
       obtain ⟨m, L', rfl, ⟨h2, h3, h4⟩, h5⟩ := ho
       obtain ⟨T1, T2, t1, t2, t3, t4, t5, t6, t7, t8⟩ := ih hok hl h5
       refine ⟨(some o, m) :: T1, T2, by simp [t1], t2, by simpa [ownC] using t3, t4, by simp [zB8, t5], fun o' y hm => ?_, t7, fun C' hw hB hM hD hh hmu hn =>
        ⟨?_, t8 C' hw hB hM hD (fun o y hm => hh o y (.tail _ hm)) (fun o m hm => hmu o m (.tail _ hm)) (fun b base hm => hn b base (.tail _ hm))⟩⟩
       ·cases hm with
        | head => exact ⟨m, .inl ⟨.head _, e, t, xs, fr, fr, h3, id, rfl, h4⟩⟩
        | tail _ hm =>
         obtain ⟨m', h⟩ := t6 o' y hm
         exact ⟨m', h.imp (fun h => ⟨.tail _ h.1, h.2⟩) id⟩
       ·have hho := hh o _ (.head _)
        have hmo := hmu o m (.head _)
        refine ⟨?_, ?_, fun hm fr' ec t' xs' hx => ?_⟩
        ·rcases h2 with ⟨_, _, rfl⟩ | ⟨_, _, a, cap, _, _, _, rfl, _⟩
         ·exact ⟨_, _, _, rfl⟩
         ·exact ⟨_, _, _, rfl⟩
        ·rw [hho]; exact nR _
        ·rw [hho] at hx
         injection hx with _ _ _ _ hx1 hx2
         subst hx1
         have hx2 := eq_of_heq hx2
         subst hx2
         refine ⟨trivial, ?_⟩
         rw [hmo, hw]
         exact h2
    | back o =>
     cases q with
     | imm => simp [outsOk] at hok
     | own _ => simp [outsOk] at hok
     | back oc =>
      simp only [outsOk, bA] at hok
      obtain ⟨hpo, hok⟩ := hok
      cases d <;> simp only [place] at hp <;> try (cases hp; done)
      rename_i fr t xs
      split at hp <;> try (cases hp; done)
      rename_i st hm fr0 e t0 xs0 hlook
      split at hp <;> try (cases hp; done)
      rename_i l u' hl
      injection hp with hp; injection hp with e1 e2; subst e1; subst e2
      obtain ⟨⟨e', hsh, hra⟩, h5⟩ := ho
      have hsh0 := hpair o oc st hm fr0 e t0 xs0 hpo hlook
      rw [hsh] at hsh0
      injection hsh0 with hsh0; injection hsh0 with e1 e2; injection e2 with e2 e3
      subst e1; subst e2
      obtain ⟨T1, T2, t1, t2, t3, t4, t5, t6, t7, t8⟩ := ih hok hl h5
      refine ⟨T1, (some o, home oc) :: T2, t1, by simp [zCI, t2], t3, by simpa [backC] using t4, by simp [zB8, t5], fun o' y hm => ?_, fun p hp => ?_, fun C' hw hB hM hD hh hmu hn =>
        t8 C' hw hB hM hD (fun o y hm => hh o y (.tail _ hm)) hmu hn⟩
      ·cases hm with
       | head => exact ⟨home oc, .inr ⟨.head _, e', t, xs, _, fr, hra, (by intro h; simp at h; exact h.1), st, hm, fr0, xs0, hlook, e3.symm, rfl, (by intro h; simp at h; exact h.2)⟩⟩
       | tail _ hm =>
        obtain ⟨m', h⟩ := t6 o' y hm
        exact ⟨m', h.imp id (fun h => ⟨.tail _ h.1, h.2⟩)⟩
      ·cases hp with
       | head => exact ⟨o, oc, rfl, hpo, _, _, _, _, _, _, hlook⟩
       | tail _ hp => exact t7 p hp
end
end Go.Kb
/- Calls: what a caller takes back keeps its state. -/
namespace Go.Kb
def retTL : List RetC -> List Nat -> TL
 | .val _ _ :: r, bs => retTL r bs
 | .box o _ :: r, b :: bs => (some o, some (b, 0)) :: retTL r bs
 | _, _ => []
def parTL (home : Nat -> Option (Nat × Nat)) : List XPar -> List FPar -> TL
 | .box o _ :: r, .box oc _ :: q => (some o, home oc) :: parTL home r q
 | _ :: r, _ :: q => parTL home r q
 | _, _ => []
theorem parTL_spec (home : Nat -> Option (Nat × Nat)) : ∀ {ps : List XPar} {gs : List FPar}, zCP ps gs = true -> (parTL home ps gs).map (·.2) = (zBI gs).map home /\ (parTL home ps gs).filterMap (·.1) = zBJ ps := by
 intro ps
 induction ps with
 | nil => intro gs h; cases gs <;> simp [zCP] at h; exact ⟨rfl, rfl⟩
 | cons p ps ih =>
  intro gs h
  cases gs with
  | nil => cases p <;> simp [zCP] at h
  | cons q gs =>
   cases p <;> cases q <;> simp only [zCP, bA] at h <;> try (cases h; done)
   ·exact ih h.2.2.2
   ·obtain ⟨h1, h2⟩ := ih h.2
    exact ⟨by simp [parTL, zBI, h1], by simp [parTL, zBJ, h2]⟩
theorem RepG.mk {C : Cx} {g : Bool} {cs : List Cell} {v : Value} (h : RepG C g cs v) : RepV C (mkV g cs) v := by
 cases g with
 | true => exact h
 | false => obtain ⟨c, rfl, h⟩ := h; exact h
theorem retV_rep {C : Cx} {l : List (Bool × List Cell)} {vals : List Value} (h : RepGs C l vals) : RepV C (retV l) (oneOrTuple vals) := by
 match l, vals, h with
 | [], [], h => exact ⟨[], rfl, h⟩
 | [(g, cs)], [v], h => exact RepG.mk h.1
 | p :: q :: r, u :: v :: vs, h => exact ⟨u :: v :: vs, rfl, h⟩
 | [], _ :: _, h => exact h.elim
 | _ :: _, [], h => exact h.elim
 | [_], _ :: _ :: _, h => exact h.2.elim
 | _ :: _ :: _, [_], h => exact h.2.elim
section
variable {tm : Nat -> TypeId} {w : World} {C' : Cx}
theorem takeRets_rep {look : Nat -> Obj} : ∀ {rets : List RetC} {rs : List RetS} {vals rawA rawB : List Value} {bs : List Nat} {cs rest : List Cell} {l : List (Bool × List Cell)} {z : List (Nat × Obj)},
  retsOk rets rs = true -> zBl look rets cs = (l, z, rest) -> RetR w rs vals rawA bs -> C'.w = w -> zi C' cs (rawA ++ rawB) ->
  (∀ o y, (o, y) ∈ z -> C'.h o = y) -> (∀ o m, (some o, m) ∈ retTL rets bs -> C'.μ o = m) ->
  RepGs C' l vals /\ zi C' rest rawB /\ ∀ o y, (o, y) ∈ z -> ∃ m, (some o, m) ∈ retTL rets bs /\ zBU tm C' m y /\ ∃ cs', y = .box ((look o).stamp + 1) false cs' := by
 intro rets
 induction rets with
 | nil =>
  intro rs vals rawA rawB bs cs rest l z hok ht hr hw hc hh hm
  cases rs with
  | cons k _ => cases k <;> simp [retsOk] at hok
  | nil =>
   simp only [zBl] at ht
   injection ht with e1 ht; injection ht with e2 e3; subst e1; subst e2; subst e3
   cases vals with
   | cons _ _ => exact hr.elim
   | nil =>
    obtain ⟨rfl, rfl⟩ := hr
    exact ⟨trivial, hc, fun o y h => by cases h⟩
 | cons k rets ih =>
  intro rs vals rawA rawB bs cs rest l z hok ht hr hw hc hh hm
  cases rs with
  | nil => cases k <;> simp [retsOk] at hok
  | cons q rs =>
   cases k with
   | val g n =>
    cases q with
    | ptr _ => simp [retsOk] at hok
    | val g' n' =>
     simp only [retsOk, bA] at hok
     obtain ⟨h1, h2, hok⟩ := hok
     have h1 : g = g' := by simpa using h1
     have h2 := eB h2
     subst h1; subst h2
     simp only [zBl] at ht
     obtain ⟨l', z', rest', hl⟩ : ∃ l' z' rest', zBl look rets (cs.drop n) = (l', z', rest') := ⟨_, _, _, rfl⟩
     rw [hl] at ht
     injection ht with e1 ht; injection ht with e2 e3; subst e1; subst e2; subst e3
     cases vals with
     | nil => cases g <;> exact hr.elim
     | cons v vals =>
      cases g with
      | true =>
       obtain ⟨us, rest0, rfl, rfl, rfl, hr⟩ := hr
       have hd := zi.drop us.length hc
       rw [List.append_assoc, List.drop_left' rfl] at hd
       have htk := zi.take us.length hc
       rw [List.append_assoc, List.take_left' rfl] at htk
       obtain ⟨h3, h4, h5⟩ := ih hok hl hr hw hd hh hm
       exact ⟨⟨⟨us, rfl, htk⟩, h3⟩, h4, h5⟩
      | false =>
       obtain ⟨rest0, rfl, rfl, hr⟩ := hr
       cases cs with
       | nil => exact hc.elim
       | cons c cs =>
        obtain ⟨h3, h4, h5⟩ := ih hok hl hr hw hc.2 hh hm
        exact ⟨⟨⟨c, rfl, hc.1⟩, h3⟩, h4, h5⟩
   | box o n =>
    cases q with
    | val _ _ => simp [retsOk] at hok
    | ptr n' =>
     simp only [retsOk, bA] at hok
     have h2 := eB hok.1
     subst h2
     simp only [zBl] at ht
     obtain ⟨l', z', rest', hl⟩ : ∃ l' z' rest', zBl look rets (cs.drop n) = (l', z', rest') := ⟨_, _, _, rfl⟩
     rw [hl] at ht
     injection ht with e1 ht; injection ht with e2 e3; subst e1; subst e2; subst e3
     cases vals with
     | nil => exact hr.elim
     | cons v vals =>
      obtain ⟨b, us, T, rest0, bs', rfl, hheap, rfl, rfl, rfl, hr⟩ := hr
      have hd := zi.drop us.length hc
      rw [List.append_assoc, List.drop_left' rfl] at hd
      have htk := zi.take us.length hc
      rw [List.append_assoc, List.take_left' rfl] at htk
      obtain ⟨h3, h4, h5⟩ := ih hok.2 hl hr hw hd (fun o y h => hh o y (.tail _ h)) (fun o m h => hm o m (.tail _ h))
      have hho := hh o _ (.head _)
      have hmo := hm o _ (.head _)
      refine ⟨⟨⟨_, rfl, ⟨_, rfl⟩, by rw [hho]; exact nR _, fun hm cs hx => ⟨b, hmo, rfl⟩⟩, h3⟩, h4, fun o' y hy => ?_⟩
      cases hy with
      | head => exact ⟨_, .head _, ⟨b, us.toArray, T, rfl, by rw [hw]; exact hheap, by simpa using htk⟩, _, rfl⟩
      | tail _ hy =>
       obtain ⟨m, g1, g2⟩ := h5 o' y hy
       exact ⟨m, .tail _ g1, g2⟩
theorem retTL_spec : ∀ {rets : List RetC} {rs : List RetS} {vals rawA : List Value} {bs : List Nat}, retsOk rets rs = true -> RetR w rs vals rawA bs ->
  (retTL rets bs).map (·.2) = bs.map (fun b => some (b, 0)) /\ (retTL rets bs).filterMap (·.1) = boxC rets := by
 intro rets
 induction rets with
 | nil =>
  intro rs vals rawA bs hok hr
  cases rs with
  | cons k _ => cases k <;> simp [retsOk] at hok
  | nil =>
   cases vals with
   | cons _ _ => exact hr.elim
   | nil => obtain ⟨rfl, rfl⟩ := hr; exact ⟨rfl, rfl⟩
 | cons k rets ih =>
  intro rs vals rawA bs hok hr
  cases rs with
  | nil => cases k <;> simp [retsOk] at hok
  | cons q rs =>
   cases k with
   | val g n =>
    cases q with
    | ptr _ => simp [retsOk] at hok
    | val g' n' =>
     simp only [retsOk, bA] at hok
     have h1 : g = g' := by simpa using hok.1
     subst h1
     cases vals with
     | nil => cases g <;> exact hr.elim
     | cons v vals =>
      cases g with
      | true => obtain ⟨_, _, _, _, _, hr⟩ := hr; exact ih hok.2.2 hr
      | false => obtain ⟨_, _, _, hr⟩ := hr; exact ih hok.2.2 hr
   | box o n =>
    cases q with
    | val _ _ => simp [retsOk] at hok
    | ptr n' =>
     simp only [retsOk, bA] at hok
     cases vals with
     | nil => exact hr.elim
     | cons v vals =>
      obtain ⟨b, us, T, rest0, bs', _, _, _, _, rfl, hr⟩ := hr
      obtain ⟨h1, h2⟩ := ih hok.2 hr
      exact ⟨by simp [retTL, h1], by simp [retTL, boxC, h2]⟩
theorem takeRets_keys {look : Nat -> Obj} : ∀ {rets : List RetC} {cs rest : List Cell} {l : List (Bool × List Cell)} {z : List (Nat × Obj)}, zBl look rets cs = (l, z, rest) -> z.map (·.1) = boxC rets := by
 intro rets
 induction rets with
 | nil => intro cs rest l z h; simp only [zBl] at h; injection h with _ h; injection h with h _; subst h; rfl
 | cons k rets ih =>
  intro cs rest l z h
  cases k with
  | val g n =>
   simp only [zBl] at h
   obtain ⟨l', z', rest', hl⟩ : ∃ l' z' rest', zBl look rets (cs.drop n) = (l', z', rest') := ⟨_, _, _, rfl⟩
   rw [hl] at h
   injection h with _ h; injection h with h _; subst h
   exact ih hl
  | box o n =>
   simp only [zBl] at h
   obtain ⟨l', z', rest', hl⟩ : ∃ l' z' rest', zBl look rets (cs.drop n) = (l', z', rest') := ⟨_, _, _, rfl⟩
   rw [hl] at h
   injection h with _ h; injection h with h _; subst h
   simp [boxC, ih hl]
theorem boxUps_rep {look : Nat -> Obj} {home : Nat -> Option (Nat × Nat)} : ∀ {ps : List XPar} {gs : List FPar} {rest : List Cell} {raw : List Value} {u : List (Nat × Obj)},
  zCP ps gs = true -> boxUps look ps rest = some u -> BoxR w home gs raw -> C'.w = w -> zi C' rest raw ->
  u.map (·.1) = zBJ ps /\ ∀ o y, (o, y) ∈ u -> ∃ m, (some o, m) ∈ parTL home ps gs /\ zBU tm C' m y /\ ∃ st hm cs cs', look o = .box st hm cs /\ y = .box st hm cs' := by
 intro ps
 induction ps with
 | nil =>
  intro gs rest raw u hok hb hr hw hc
  cases rest with
  | cons _ _ => simp [boxUps] at hb
  | nil => simp only [boxUps] at hb; injection hb with hb; subst hb; exact ⟨rfl, fun o y h => by cases h⟩
 | cons p ps ih =>
  intro gs rest raw u hok hb hr hw hc
  cases gs with
  | nil => cases p <;> simp [zCP] at hok
  | cons q gs =>
   cases p with
   | val g n =>
    cases q with
    | box _ _ => simp [zCP] at hok
    | val g' n' =>
     simp only [zCP, bA] at hok
     simp only [boxUps] at hb
     exact ih hok.2.2.2 hb hr hw hc
   | box o n =>
    cases q with
    | val _ _ => simp [zCP] at hok
    | box oc n' =>
     simp only [zCP, bA] at hok
     have h2 := eB hok.1
     subst h2
     simp only [boxUps] at hb
     split at hb <;> try (cases hb; done)
     rename_i st hm cs0 hlook
     split at hb <;> try (cases hb; done)
     rename_i u' hu
     injection hb with hb; subst hb
     obtain ⟨b, us, T, rest0, hhome, hheap, rfl, rfl, hr⟩ := hr
     have hd := zi.drop us.length hc
     rw [List.drop_left' rfl] at hd
     have htk := zi.take us.length hc
     rw [List.take_left' rfl] at htk
     obtain ⟨h1, h2⟩ := ih hok.2 hu hr hw hd
     refine ⟨by simp [zBJ, h1], fun o' y hy => ?_⟩
     cases hy with
     | head => exact ⟨home oc, .head _, ⟨b, us.toArray, T, hhome, by rw [hw]; exact hheap, by simpa using htk⟩, st, hm, cs0, _, hlook, rfl⟩
     | tail _ hy =>
      obtain ⟨m, g1, g2⟩ := h2 o' y hy
      exact ⟨m, .tail _ g1, g2⟩
theorem gone_spec (look : Nat -> Obj) : ∀ (rows : List (Option (Nat × Nat))), (gone look rows).map (·.1) = zAb rows /\ ∀ o y, (o, y) ∈ gone look rows -> y = .absent ((look o).stamp + 1)
 | [] => ⟨rfl, fun o y h => by cases h⟩
 | none :: r => gone_spec look r
 | some (o, e) :: r => by
  obtain ⟨h1, h2⟩ := gone_spec look r
  refine ⟨by simp [gone, zAb, h1], fun o' y h => ?_⟩
  cases h with
  | head => rfl
  | tail _ h => exact h2 o' y h
theorem ups_append : ∀ (a b : List (Nat × Obj)) (s : S), s.ups (a ++ b) = (s.ups a).ups b := ups_app
theorem zBO : ∀ {outs : List OutC} {o : Nat}, o ∈ zB8 outs ↔ o ∈ ownC outs \/ o ∈ backC outs
 | [], o => by simp [zB8, ownC, backC]
 | .imm :: r, o => zBO (outs := r)
 | .own a e :: r, o => by simp [zB8, ownC, backC, zBO (outs := r), or_assoc]
 | .back a :: r, o => by
  simp only [zB8, ownC, backC, List.mem_cons, zBO (outs := r)]
  constructor
  ·rintro (h | h | h)
   ·exact .inr (.inl h)
   ·exact .inl h
   ·exact .inr (.inr h)
  ·rintro (h | h | h)
   ·exact .inr (.inl h)
   ·exact .inl h
   ·exact .inr (.inr h)
theorem own_not_back : ∀ {outs : List OutC} {o : Nat}, (zB8 outs).Nodup -> o ∈ ownC outs -> o ∉ backC outs
 | [], o, _, h => by cases h
 | .imm :: r, o, hn, h => own_not_back (outs := r) hn h
 | .own a e :: r, o, hn, h => by
  obtain ⟨h1, h2⟩ := List.nodup_cons.1 hn
  intro hb
  cases h with
  | head => exact h1 (zBO.2 (.inr hb))
  | tail _ h => exact own_not_back (outs := r) h2 h hb
 | .back a :: r, o, hn, h => by
  obtain ⟨h1, h2⟩ := List.nodup_cons.1 hn
  intro hb
  cases hb with
  | head => exact h1 (zBO.2 (.inl h))
  | tail _ hb => exact own_not_back (outs := r) h2 h hb
theorem ownC_nodup : ∀ {outs : List OutC}, (zB8 outs).Nodup -> (ownC outs).Nodup
 | [], _ => List.nodup_nil
 | .imm :: r, hn => ownC_nodup (outs := r) hn
 | .own a e :: r, hn => by
  obtain ⟨h1, h2⟩ := List.nodup_cons.1 hn
  exact List.nodup_cons.2 ⟨fun h => h1 (zBO.2 (.inl h)), ownC_nodup h2⟩
 | .back a :: r, hn => ownC_nodup (outs := r) (List.nodup_cons.1 hn).2
theorem handIn_pair {look : Nat -> Obj} {μ : Nat -> Option (Nat × Nat)} : ∀ {rows gr : List (Option (Nat × Nat))} {raw inp ds : List Cell} {un : Bool} {D : List HRow} {qs : List Bool} {o oc st e : Nat} {hm fr : Bool} {t : Ty} {xs : List t.den}, zAq un D look rows raw = some (qs, inp) -> zB6 rows gr = true -> Sames false inp ds -> rowsK gr (ds.map Cell.isSl) = true ->
  pairOk rows gr o oc = true -> look o = .row st hm fr e t xs -> (oc, o, μ o) ∈ rowAL μ rows gr raw /\ (oc, some (e, t, xs.length)) ∈ zB7 gr ds := by
 intro rows
 induction rows with
 | nil => intro gr raw inp ds un D qs o oc st e hm fr t xs _ _ _ _ h; cases gr <;> simp [pairOk] at h
 | cons k rows ih =>
  intro gr raw inp ds un D qs o oc st e hm fr t xs hh hok hs hK hp hl
  cases gr with
  | nil => cases k <;> simp [zB6] at hok
  | cons q gr =>
   cases raw with
   | nil => cases k <;> simp [zAq] at hh
   | cons c raw =>
    cases k with
    | none =>
     cases q with
     | some _ => simp [zB6] at hok
     | none =>
      simp only [zB6] at hok
      simp only [pairOk] at hp
      simp only [zAq] at hh
      split at hh <;> try (cases hh; done)
      split at hh <;> try (cases hh; done)
      rename_i qr r hr
      injection hh with hh; injection hh with _ hh; subst hh
      cases ds with
      | nil => exact hs.elim
      | cons d ds =>
       obtain ⟨h1, h2⟩ := ih hr hok hs.2 (by simpa [rowsK] using hK) hp hl
       exact ⟨by simpa [rowAL] using h1, by simpa [zB7] using h2⟩
    | some p =>
     obtain ⟨a, e1⟩ := p
     cases q with
     | none => simp [zB6] at hok
     | some p' =>
      obtain ⟨a', e2⟩ := p'
      simp only [zB6, bA] at hok
      have hee := eB hok.1
      subst hee
      simp only [pairOk, Bool.or_eq_true, bA] at hp
      cases c with
      | nil =>
       simp only [zAq] at hh
       split at hh <;> try (cases hh; done)
       rename_i st2 hab
       split at hh <;> try (cases hh; done)
       rename_i qr r hr
       injection hh with hh; injection hh with _ hh; subst hh
       cases ds with
       | nil => exact hs.elim
       | cons d ds =>
        simp only [List.map_cons, rowsK, bA] at hK
        rcases hs.1 with ⟨u, hd⟩ | ⟨u, hd⟩
        case inr => rw [hd] at hK; cases hK.1
        subst hd
        rcases hp with ⟨h1, h2⟩ | hp
        ·have h1 := eB h1
         subst h1
         rw [hl] at hab; cases hab
        ·obtain ⟨h1, h2⟩ := ih hr hok.2 hs.2 hK.2 hp hl
         exact ⟨.tail _ h1, .tail _ h2⟩
      | ref o' st' ex =>
       cases ex with
       | all =>
        simp only [zAq] at hh
        split at hh <;> try (cases hh; done)
        rename_i st2 hm2 fr2 e2 t2 xs2 hx
        split at hh <;> try (cases hh; done)
        rename_i hb
        split at hh <;> try (cases hh; done)
        rename_i qr r hr
        injection hh with hh; injection hh with _ hh; subst hh
        simp only [bA] at hb
        have b3 := eB hb.2.2.1
        subst b3
        cases ds with
        | nil => exact hs.elim
        | cons d ds =>
         simp only [List.map_cons, rowsK, bA] at hK
         obtain ⟨hd, _⟩ := hs.1
         subst hd
         rcases hp with ⟨h1, h2⟩ | hp
         ·have h1 := eB h1
          have h2 := eB h2
          subst h1; subst h2
          rw [hl] at hx
          injection hx with _ _ _ x1 x2 x3
          subst x1; subst x2
          have x3 := eq_of_heq x3
          subst x3
          exact ⟨.head _, .head _⟩
         ·obtain ⟨h1, h2⟩ := ih hr hok.2 hs.2 hK.2 hp hl
          exact ⟨.tail _ h1, .tail _ h2⟩
       | tail _ => simp [zAq] at hh
       | part _ _ => simp [zAq] at hh
      | int _ _ => simp [zAq] at hh
      | bool _ => simp [zAq] at hh
      | str _ => simp [zAq] at hh
      | sl _ _ _ => simp [zAq] at hh
      | hnd _ _ => simp [zAq] at hh
      | ptr _ _ _ => simp [zAq] at hh
      | dptr _ _ _ _ => simp [zAq] at hh
      | eptr _ _ _ _ => simp [zAq] at hh
      | junk => simp [zAq] at hh
theorem shapeAL_unfl : ∀ (gr : List (Option (Nat × Nat))) (cs : List Cell), zB7 gr (cs.map unfl) = zB7 gr cs := by
 intro gr
 induction gr with
 | nil => intro cs; cases cs <;> rfl
 | cons q gr ih =>
  intro cs
  cases cs with
  | nil => cases q <;> rfl
  | cons c cs =>
   cases q with
   | none => simp only [List.map_cons, zB7]; exact ih cs
   | some p =>
    obtain ⟨a, e⟩ := p
    cases c <;> simp only [List.map_cons, unfl, zB7] <;> rw [ih cs]
theorem handIn_fresh {look : Nat -> Obj} {μ : Nat -> Option (Nat × Nat)} : ∀ {rows gr : List (Option (Nat × Nat))} {raw inp ds : List Cell} {un : Bool} {D : List HRow} {qs : List Bool}, zAq un D look rows raw = some (qs, inp) -> zB6 rows gr = true -> Sames true inp ds ->
  ∀ p ∈ rowAL μ rows gr raw, ∀ b base, p.2.2 = some (b, base) -> μ p.2.1 = some (b, base) /\ ∃ st e t xs, look p.2.1 = .row st false true e t xs := by
 intro rows
 induction rows with
 | nil => intro gr raw inp ds un D qs _ _ _ p hp; cases gr <;> simp [rowAL] at hp
 | cons k rows ih =>
  intro gr raw inp ds un D qs hh hok hs p hp b base hpb
  cases gr with
  | nil => cases k <;> simp [zB6] at hok
  | cons q gr =>
   cases raw with
   | nil => cases k <;> simp [zAq] at hh
   | cons c raw =>
    cases k with
    | none =>
     cases q with
     | some _ => simp [zB6] at hok
     | none =>
      simp only [zB6] at hok
      simp only [zAq] at hh
      split at hh <;> try (cases hh; done)
      split at hh <;> try (cases hh; done)
      rename_i qr r hr
      injection hh with hh; injection hh with _ hh; subst hh
      cases ds with
      | nil => exact hs.elim
      | cons d ds =>
       simp only [rowAL] at hp
       exact ih hr hok hs.2 p hp b base hpb
    | some x =>
     obtain ⟨o, e1⟩ := x
     cases q with
     | none => simp [zB6] at hok
     | some y =>
      obtain ⟨oc, e2⟩ := y
      simp only [zB6, bA] at hok
      cases c with
      | nil =>
       simp only [zAq] at hh
       split at hh <;> try (cases hh; done)
       split at hh <;> try (cases hh; done)
       rename_i qr r hr
       injection hh with hh; injection hh with _ hh; subst hh
       cases ds with
       | nil => exact hs.elim
       | cons d ds =>
        simp only [rowAL] at hp
        rcases List.mem_cons.1 hp with rfl | hp
        ·cases hpb
        ·exact ih hr hok.2 hs.2 p hp b base hpb
      | ref o' st ex =>
       cases ex with
       | all =>
        simp only [zAq] at hh
        split at hh <;> try (cases hh; done)
        rename_i st' hm fr e3 t xs hx
        split at hh <;> try (cases hh; done)
        split at hh <;> try (cases hh; done)
        rename_i qr r hr
        injection hh with hh; injection hh with _ hh; subst hh
        cases ds with
        | nil => exact hs.elim
        | cons d ds =>
         simp only [rowAL] at hp
         rcases List.mem_cons.1 hp with rfl | hp
         ·have hf := hs.1.2 rfl
          simp at hf
          refine ⟨hpb, st', e3, t, xs, ?_⟩
          rw [hx, hf.1, hf.2]
         ·exact ih hr hok.2 hs.2 p hp b base hpb
       | _ => simp [zAq] at hh
      | _ => simp [zAq] at hh
theorem lent_present {look h : Nat -> Obj} (hs : Sees look h) : ∀ {rows : List (Option (Nat × Nat))} {raw inp : List Cell} {un : Bool} {D : List HRow} {qs : List Bool} {o : Nat}, zAq un D look rows raw = some (qs, inp) -> o ∈ zBF rows raw -> yv (h o) := by
 intro rows
 induction rows with
 | nil => intro raw inp un D qs o _ h; cases raw <;> simp [zBF] at h
 | cons k rows ih =>
  intro raw inp un D qs o hh hl
  cases raw with
  | nil => cases k <;> simp [zBF] at hl
  | cons c raw =>
   cases k with
   | none =>
    simp only [zAq] at hh
    split at hh <;> try (cases hh; done)
    rename_i qb c' hf
    split at hh <;> try (cases hh; done)
    rename_i qr r hr
    cases c <;> simp only [zBF] at hl <;> try (exact ih hr hl)
    rename_i o' st e
    cases hl with
    | head =>
     simp only [flat] at hf
     split at hf <;> try (cases hf; done)
     rename_i hx
     rw [hs.row hx trivial]; trivial
    | tail _ hl => exact ih hr hl
   | some p =>
    obtain ⟨a, e1⟩ := p
    simp only [zBF] at hl
    cases c with
    | nil =>
     simp only [zAq] at hh
     split at hh <;> try (cases hh; done)
     split at hh <;> try (cases hh; done)
     rename_i qr r hr
     exact ih hr hl
    | ref o' st' ex =>
     cases ex with
     | all =>
      simp only [zAq] at hh
      split at hh <;> try (cases hh; done)
      split at hh <;> try (cases hh; done)
      split at hh <;> try (cases hh; done)
      rename_i qr r hr
      exact ih hr hl
     | tail _ => simp [zAq] at hh
     | part _ _ => simp [zAq] at hh
    | int _ _ => simp [zAq] at hh
    | bool _ => simp [zAq] at hh
    | str _ => simp [zAq] at hh
    | sl _ _ _ => simp [zAq] at hh
    | hnd _ _ => simp [zAq] at hh
    | ptr _ _ _ => simp [zAq] at hh
    | dptr _ _ _ _ => simp [zAq] at hh
    | eptr _ _ _ _ => simp [zAq] at hh
    | junk => simp [zAq] at hh
end
end Go.Kb
/- Calls: a call does what its function's contract says. -/
namespace Go.Kb
theorem pairwise_ne {α : Type} {R : α -> α -> Prop} (hs : ∀ a b, R a b -> R b a) : ∀ {l : List α} {a b : α}, l.Pairwise R -> a ∈ l -> b ∈ l -> a ≠ b -> R a b
 | x :: l, a, b, hp, ha, hb, hne => by
  obtain ⟨h1, h2⟩ := List.pairwise_cons.1 hp
  cases ha with
  | head =>
   cases hb with
   | head => exact absurd rfl hne
   | tail _ hb => exact h1 b hb
  | tail _ ha =>
   cases hb with
   | head => exact hs _ _ (h1 a ha)
   | tail _ hb => exact pairwise_ne hs h2 ha hb hne
theorem alook_none {α : Type} (d : α) : ∀ {l : List (Nat × α)} {k : Nat}, k ∉ l.map (·.1) -> alook d l k = d
 | [], _, _ => rfl
 | (m, y) :: r, k, h => by
  have h1 : k ≠ m := fun e => h (by simp [e])
  simp only [alook, if_neg h1]
  exact alook_none d fun hm => h (List.mem_cons_of_mem _ hm)
def tlKeys : TL -> List (Nat × Option (Nat × Nat))
 | [] => []
 | (some o, m) :: r => (o, m) :: tlKeys r
 | (none, _) :: r => tlKeys r
theorem tlKeys_fst : ∀ (T : TL), (tlKeys T).map (·.1) = T.filterMap (·.1)
 | [] => rfl
 | (some o, m) :: r => by simp [tlKeys, tlKeys_fst r]
 | (none, _) :: r => by simp [tlKeys, tlKeys_fst r]
theorem tlKeys_mem : ∀ {T : TL} {o : Nat} {m : Option (Nat × Nat)}, (some o, m) ∈ T -> (o, m) ∈ tlKeys T
 | (some a, b) :: r, o, m, h => by
  cases h with
  | head => exact .head _
  | tail _ h => exact .tail _ (tlKeys_mem h)
 | (none, b) :: r, o, m, h => by
  cases h with
  | tail _ h => exact tlKeys_mem (T := r) h
theorem tl_key {T : TL} {o : Nat} {m : Option (Nat × Nat)} (h : (some o, m) ∈ T) : o ∈ T.filterMap (·.1) := List.mem_filterMap.2 ⟨_, h, rfl⟩
theorem allIn_mem : ∀ {l r : List Nat} {n : Nat}, allIn l r = true -> n ∈ l -> memb n r = true
 | k :: l, r, n, h, hm => by
  simp only [allIn, bA] at h
  cases hm with
  | head => exact h.1
  | tail _ hm => exact allIn_mem h.2 hm
theorem isNil_eq : ∀ {l : List Nat}, isNil l = true -> l = []
 | [], _ => rfl
 | _ :: _, h => by cases h
theorem apartL_mem : ∀ {l r : List Nat} {n : Nat}, apartL l r = true -> n ∈ l -> n ∉ r
 | k :: l, r, n, h, hm => by
  simp only [apartL, bA, Bool.not_eq_true'] at h
  cases hm with
  | head => intro hr; rw [zBd.2 hr] at h; cases h.1
  | tail _ hm => exact apartL_mem h.2 hm
theorem Apart.symm {m m' : Option (Nat × Nat)} (h : Apart m m') : Apart m' m := fun b base base' h1 h2 => h b base' base h2 h1
theorem parTL_mem {μ home : Nat -> Option (Nat × Nat)} : ∀ {ps : List XPar} {gs : List FPar} {o : Nat} {m : Option (Nat × Nat)}, (some o, m) ∈ parTL home ps gs -> ∃ oc, (oc, o, μ o) ∈ parAL μ ps gs /\ m = home oc
 | [], _, o, m, h => by cases h
 | .val _ _ :: _, [], o, m, h => by cases h
 | .box _ _ :: _, [], o, m, h => by cases h
 | .val _ _ :: r, .val _ _ :: q, o, m, h => parTL_mem (ps := r) (gs := q) h
 | .val _ _ :: r, .box _ _ :: q, o, m, h => parTL_mem (ps := r) (gs := q) h
 | .box _ _ :: r, .val _ _ :: q, o, m, h => parTL_mem (ps := r) (gs := q) h
 | .box a _ :: r, .box ac _ :: q, o, m, h => by
  cases h with
  | head => exact ⟨ac, .head _, rfl⟩
  | tail _ h =>
   obtain ⟨oc, h1, h2⟩ := parTL_mem (ps := r) (gs := q) h
   exact ⟨oc, .tail _ h1, h2⟩
theorem boxUps_keys {look : Nat -> Obj} : ∀ {ps : List XPar} {cs : List Cell} {u : List (Nat × Obj)}, boxUps look ps cs = some u -> u.map (·.1) = zBJ ps
 | [], [], u, h => by simp only [boxUps] at h; injection h with h; subst h; rfl
 | [], _ :: _, u, h => by simp [boxUps] at h
 | .val _ _ :: r, cs, u, h => by simp only [boxUps] at h; exact boxUps_keys (ps := r) h
 | .box o n :: r, cs, u, h => by
  simp only [boxUps] at h
  split at h <;> try (cases h; done)
  split at h <;> try (cases h; done)
  rename_i u' hu
  injection h with h; subst h
  simp [zBJ, boxUps_keys hu]
theorem nodup_map_inj {α β : Type} {f : α -> β} : ∀ {l : List α} {a b : α}, (l.map f).Nodup -> a ∈ l -> b ∈ l -> f a = f b -> a = b
 | x :: l, a, b, hn, ha, hb, he => by
  obtain ⟨h1, h2⟩ := List.nodup_cons.1 hn
  cases ha with
  | head =>
   cases hb with
   | head => rfl
   | tail _ hb => exact absurd (List.mem_map.2 ⟨b, hb, he.symm⟩) h1
  | tail _ ha =>
   cases hb with
   | head => exact absurd (List.mem_map.2 ⟨a, ha, he⟩) h1
   | tail _ hb => exact nodup_map_inj h2 ha hb he
def mdKind : Option Bool -> zCJ -> XK
 | none, c => .call c
 | some f, c => .callH f c
def mdUn : Option Bool -> Bool
 | none => true
 | some f => !f
def mdIn (look : Nat -> Obj) : Option Bool -> List HRow
 | none => []
 | some true => hrows (look HP)
 | some false => hhide (hrows (look HP))
def mdUps (look : Nat -> Obj) (D' : List HRow) : Option Bool -> List (Nat × Obj)
 | none => []
 | some true => [(HP, .heap D' (htaken (look HP)))]
 | some false => [(HP, .heap (yw (hrows (look HP)) D') (htaken (look HP)))]
theorem md_res {look : Nat -> Obj} {md : Option Bool} {c : zCJ} {vs : List V} {r : Res} (h : (mdKind md c).eval look vs = r) (hr : ∀ cc g inp D fin, r ≠ .call cc g inp D fin -> True) :
  (∃ raw b inp, zBj look c.pars vs = some raw /\ zAq (mdUn md) (hrows (look HP)) look c.rowsIn raw = some (b, inp) /\ lentOk (mdUn md) look c raw = true /\
   ∃ fin, r = .call (conj b) c.fn inp (mdIn look md) fin /\ ∀ out D' p, fin out D' = some p -> ∃ v u, callFin look c out = some (v, u) /\ p = (v, mdUps look D' md ++ u)) \/ r = .bad := by
 subst h
 cases md with
 | none =>
  simp only [mdKind, XK.eval, E.call]
  cases h1 : zBj look c.pars vs with
  | none => exact .inr rfl
  | some raw =>
   simp only []
   cases h2 : zAq true (hrows (look HP)) look c.rowsIn raw with
   | none => right; cases lentOk true look c raw <;> rfl
   | some q =>
    obtain ⟨b, inp⟩ := q
    cases h3 : lentOk true look c raw with
    | false => exact .inr rfl
    | true =>
     left
     refine ⟨raw, b, inp, rfl, h2, h3, _, rfl, fun out D' p hp => ?_⟩
     obtain ⟨v, u⟩ := p
     exact ⟨v, u, hp, rfl⟩
 | some full =>
  simp only [mdKind, XK.eval, E.callH]
  cases h1 : zBj look c.pars vs with
  | none => exact .inr rfl
  | some raw =>
   simp only []
   cases h2 : zAq (!full) (hrows (look HP)) look c.rowsIn raw with
   | none => right; cases lentOk (!full) look c raw <;> rfl
   | some q =>
    obtain ⟨b, inp⟩ := q
    cases h3 : lentOk (!full) look c raw with
    | false => exact .inr rfl
    | true =>
     left
     refine ⟨raw, b, inp, rfl, h2, h3, (fun out D' => match callFin look c out with
       | some (v, u) => some (v, (HP, .heap (match full with | true => D' | false => yw (hrows (look HP)) D') (htaken (look HP))) :: u)
       | none => none), ?_, fun out D' p hp => ?_⟩
     ·cases full <;> rfl
     ·cases full with
      | true =>
       simp only [] at hp
       cases hv : callFin look c out with
       | none => rw [hv] at hp; cases hp
       | some vu =>
        obtain ⟨v, u⟩ := vu
        rw [hv] at hp
        injection hp with hp
        exact ⟨v, u, rfl, hp.symm⟩
      | false =>
       simp only [] at hp
       cases hv : callFin look c out with
       | none => rw [hv] at hp; cases hp
       | some vu =>
        obtain ⟨v, u⟩ := vu
        rw [hv] at hp
        injection hp with hp
        exact ⟨v, u, rfl, hp.symm⟩
def mdHeap (D D' : List HRow) : Option Bool -> List HRow
 | none => D
 | some true => D'
 | some false => yw D D'
theorem heapKs_hide (D : List HRow) : zBZ (hhide D) = [] := by
 apply List.eq_nil_iff_forall_not_mem.2
 intro k hk
 obtain ⟨e, t, xs, h⟩ := zB3.1 hk
 unfold hhide at h
 rw [List.getElem?_replicate] at h
 split at h <;> cases h
def dynTL (D : List HRow) (hd : Nat -> Option (Nat × Nat)) : TL := (zBZ D).map fun k => (some (HP + 1 + k), hd (HP + 1 + k))
def Known (E : Env1) (fs : Nat -> FS) : Prop := ∀ n g fresh, E.sg n = some (g, fresh) -> Sound E.P E.tm E.G E.Q (E.fm n) g (fs n) /\ ((fs n).fresh && !(fs n).keep) = fresh
theorem lent_lt {s : S} {look : Nat -> Obj} (hs : Sees look s.obj) (hl : s.h.length <= HP) : ∀ {rows : List (Option (Nat × Nat))} {raw inp : List Cell} {un : Bool} {D : List HRow} {qs : List Bool} {o : Nat}, zAq un D look rows raw = some (qs, inp) -> o ∈ zBF rows raw -> o < HP := by
 intro rows
 induction rows with
 | nil => intro raw inp un D qs o _ h; cases raw <;> simp [zBF] at h
 | cons k rows ih =>
  intro raw inp un D qs o hh hm
  cases raw with
  | nil => cases k <;> simp [zBF] at hm
  | cons c raw =>
   cases k with
   | none =>
    simp only [zAq] at hh
    split at hh <;> try (cases hh; done)
    rename_i qb c' hf
    split at hh <;> try (cases hh; done)
    rename_i qr r hr
    cases c <;> simp only [zBF] at hm <;> try (exact ih hr hm)
    rename_i o' st e
    cases hm with
    | head =>
     simp only [flat] at hf
     split at hf <;> try (cases hf; done)
     rename_i hx
     exact Nat.lt_of_lt_of_le (row_lt (hs.row hx trivial)) hl
    | tail _ hm => exact ih hr hm
   | some p =>
    obtain ⟨a, e1⟩ := p
    simp only [zBF] at hm
    cases c with
    | nil =>
     simp only [zAq] at hh
     split at hh <;> try (cases hh; done)
     split at hh <;> try (cases hh; done)
     rename_i qr r hr
     exact ih hr hm
    | ref o' st' ex =>
     cases ex with
     | all =>
      simp only [zAq] at hh
      split at hh <;> try (cases hh; done)
      split at hh <;> try (cases hh; done)
      split at hh <;> try (cases hh; done)
      rename_i qr r hr
      exact ih hr hm
     | tail _ => simp [zAq] at hh
     | part _ _ => simp [zAq] at hh
    | _ => simp [zAq] at hh
set_option maxHeartbeats 4000000 in
theorem call_does {E : Env1} {F : Fx} {fs : Nat -> FS} {nobj : Nat} (hK : Known E fs) (hQs : ∀ w w' : World, (∀ b, E.G b -> w'.heap[b]? = w.heap[b]?) -> E.Q w -> E.Q w') (hG0 : ∀ b, E.G b -> b < F.w0.heap.size /\ ¬ F.M0 b) (hQ0 : E.Q F.w0) : CallOk E F fs nobj := by
 intro o x hkc hpost hok s p hn hbody
 obtain ⟨c, md, hkind⟩ : ∃ c md, x.kind = mdKind md c := by
  cases hx : x.kind <;> rw [hx] at hkc <;> try (cases hkc; done)
  ·exact ⟨_, none, rfl⟩
  ·exact ⟨_, some _, rfl⟩
 unfold opOk at hok
 simp only [bA] at hok
 obtain ⟨hdst, _, hwo, hok⟩ := hok
 have hdst : o.dst = x.dst := by simpa using hdst
 have hwo' : ∀ i, memb i x.wo = true -> i < nobj \/ i = HP := by
  intro i hi
  rw [Bool.or_eq_true] at hwo
  rcases hwo with h | h
  ·exact .inl (allLt_memb h hi)
  ·rw [bA] at h
   have key : ∀ l : List Nat, allLtH nobj l = true -> memb i l = true -> i < nobj \/ i = HP := by
    intro l
    induction l with
    | nil => intro _ h; simp [memb] at h
    | cons m r ih =>
     intro h1 h2
     simp only [allLtH, bA, Bool.or_eq_true] at h1
     simp only [memb, Bool.or_eq_true] at h2
     rcases h2 with h2 | h2
     ·have h2 := eB h2
      subst h2
      exact h1.1.imp (fun h => by simpa using h) (fun h => eB h)
     ·exact ih h1.2 h2
   exact key _ h.2 hi
 rw [hkind] at hok
 have hq : quietOk E.P E.eqT (mdKind md c) o.op = none := by
  cases md <;> cases o.op <;> rfl
 rw [hq] at hok
 obtain ⟨hok, hroH⟩ : callOk E x md.isSome c o.op = true /\ (md.isSome = true -> memb HP x.ro = true) := by
  simp only [effOk, hkind] at hok
  cases md with
  | none => exact ⟨hok, fun h => by cases h⟩
  | some f =>
   simp only [mdKind, bA] at hok
   exact ⟨hok.1, fun _ => hok.2.1⟩
 unfold callOk at hok
 split at hok <;> try (cases hok; done)
 rename_i cl hop
 split at hok <;> try (cases hok; done)
 rename_i fid hcallee
 split at hok <;> try (cases hok; done)
 rename_i fn g fresh hfn hsg
 simp only [bA, Bool.not_eq_true'] at hok
 obtain ⟨hname, hbd, hfid, hfresh, hghp, hargs, hsig⟩ := hok
 have hghp : g.hp = md.isSome := by simpa using hghp
 have hfid : fid = E.fm c.fn := by simpa using hfid
 have hfresh : c.fresh = fresh := by simpa using hfresh
 subst hfid; subst hfresh
 unfold sigOk at hsig
 simp only [bA] at hsig
 obtain ⟨s1, s2, s3, s4, s5, s6, s7, s8, s9, s10, s11, s12⟩ := hsig
 have s5 := nodup_spec s5
 have s6 := nodup_spec s6
 have s7 := nodup_spec s7
 obtain ⟨hsound, hfr⟩ := hK _ _ _ hsg
 obtain ⟨⟨hRK, hfhp⟩, hsound⟩ := hsound
 have hfhp : (fs c.fn).hp = md.isSome := hfhp.trans hghp
 -- what the abstract call does
 unfold XOp.bodyO XOp.res at hbody
 rw [hkind] at hbody
 obtain ⟨look, hlook⟩ : ∃ look, look = x.look s := ⟨_, rfl⟩
 rw [<- hlook] at hbody
 have hsees : Sees look s.obj := by rw [hlook]; exact sees_look x s
 have hro : ∀ i, memb i x.ro = true -> look i = s.obj i := fun i hi => by rw [hlook]; simp [XOp.look, hi]
 obtain ⟨res, hres⟩ : ∃ res, res = (mdKind md c).eval look (zCG s x.args) := ⟨_, rfl⟩
 rw [<- hres] at hbody
 rcases md_res hres.symm (fun _ _ _ _ _ _ => trivial) with ⟨raw, qb, inp, hcol, hin, hlent, fin, rfl, hfin⟩ | rfl
 case inr => cases hbody
 simp only [] at hbody
 cases hqb : conj qb with
 | false => rw [hqb] at hbody; cases hbody
 | true =>
 rw [hqb] at hbody
 simp only [cond_true] at hbody
 obtain ⟨outD, hout, hbody⟩ := zBL hbody
 obtain ⟨out, D'⟩ := outD
 obtain ⟨p0, hp00, hchk0⟩ := zBL hbody
 unfold chk2 at hchk0
 obtain ⟨p1, hchk, hpo⟩ := zBL hchk0
 clear hchk0
 unfold postO at hpo
 rw [hpost] at hpo
 injection hpo with hpo
 subst hpo
 obtain ⟨rfl, hups⟩ := chk_some hchk
 obtain ⟨pv, pu, hcf, rfl⟩ := hfin _ _ _ hp00
 clear hp00
 have hp0 : callFin look c out = some (pv, pu) := hcf
 clear hcf
 obtain ⟨Dc, hDc⟩ : ∃ Dc, Dc = mdIn look md := ⟨_, rfl⟩
 rw [<- hDc] at hout
 unfold FS.callO at hout
 split at hout <;> try (cases hout; done)
 rename_i ff y hof
 obtain ⟨r, hF, hout⟩ : ∃ r, (fs c.fn).runs y Dc r D' /\ out = (fs c.fn).ret.cells (((fs c.fn).fresh && !(fs c.fn).keep) || ((fs c.fn).keep && ff)) r := by
  unfold FS.runs
  cases hh : (fs c.fn).hp with
  | false =>
   rw [hh] at hout
   obtain ⟨r, h1, h2⟩ := zBL hout
   injection h2 with h2; injection h2 with h2 h3
   exact ⟨r, ⟨h1, h3.symm⟩, h2.symm⟩
  | true =>
   rw [hh] at hout
   obtain ⟨r, h1, h2⟩ := zBL hout
   obtain ⟨r, D2⟩ := r
   injection h2 with h2; injection h2 with h2 h3
   have h3 : D2 = D' := h3
   subst h3
   exact ⟨r, h1, h2.symm⟩
 obtain ⟨pre, hpre, hsames⟩ := ofCells_sames false hof (by intro h; cases h)
 rw [List.append_nil] at hpre
 subst hpre
 have hRKc : ∀ fr, rowsK g.rowsIn (((fs c.fn).arg.cells fr y).map Cell.isSl) = true := fun fr => by rw [cells_kinds]; exact hRK
 unfold callFin at hp0
 cases hplace : place look c.outs out with
 | none => rw [hplace] at hp0; cases hp0
 | some pu =>
 obtain ⟨cs, u⟩ := pu
 rw [hplace] at hp0
 simp only [] at hp0
 obtain ⟨l, z, rest, htake⟩ : ∃ l z rest, zBl look c.rets cs = (l, z, rest) := ⟨_, _, _, rfl⟩
 rw [htake] at hp0
 simp only [] at hp0
 cases hbox : boxUps look c.pars rest with
 | none => rw [hbox] at hp0; cases hp0
 | some wl =>
 rw [hbox] at hp0
 simp only [] at hp0
 injection hp0 with hp0
 injection hp0 with hp1 hp0
 subst hp1; subst hp0
 have hups' : ∀ o y, (o, y) ∈ gone look c.rowsIn ++ (u ++ (z ++ wl)) -> o ∈ x.wo := fun o y h => upsIn_mem hups (List.mem_append.2 (.inr h))
 -- the model's side
 rintro a w Q ⟨μ, hr⟩
 have hHP : s.h.length <= HP := hr.hl
 have hlookHP : md.isSome = true -> look HP = .heap s.d s.k := fun h => by rw [hro HP (hroH h), zBs hHP]
 have hDs : ∀ (k : Nat) (r : HRow), (hrows (look HP))[k]? = some r -> s.d[k]? = some r := by
  intro k r h
  by_cases hm : memb HP x.ro = true
  ·rw [hro HP hm, zBs hHP] at h; exact h
  ·have : look HP = .absent 0 := by rw [hlook]; simp [XOp.look, hm]
   rw [this] at h
   simp [hrows] at h
 have hDcF : md = some true -> Dc = s.d := fun h => by subst h; rw [hDc]; simp only [mdIn]; rw [hlookHP rfl]; rfl
 have hDcN : md ≠ some true -> zBZ Dc = [] := fun h => by
  rw [hDc]
  match md, h with
  | none, _ => rfl
  | some false, _ => exact heapKs_hide _
  | some true, h => exact absurd rfl h
 have hDcL : ∀ k, k < Dc.length -> k < s.d.length := by
  intro k hk
  rw [hDc] at hk
  match hmd : md, hk with
  | none, hk => simp [mdIn] at hk
  | some false, hk =>
   simp only [mdIn] at hk
   rw [hlookHP rfl] at hk
   simpa [hhide, hrows] using hk
  | some true, hk =>
   simp only [mdIn] at hk
   rw [hlookHP rfl] at hk
   exact hk
 have hun : ∀ {P : Prop}, (mdUn md = false -> md = some true) := by
  intro _ h
  match md, h with
  | some true, _ => rfl
  | some false, h => cases h
  | none, h => cases h
 have hpb := fun i (hi : i ∈ zBJ c.pars ++ zAb c.rowsIn) => zB0 s10 hi
 have hv := args_rep hr hargs
 obtain ⟨rawv, e1, e2, e3, e4, e5⟩ := collect_rep hr hsees s1 hcol hv
 -- where the function's objects lie
 obtain ⟨AL1, hAL1⟩ : ∃ z, z = parAL μ c.pars g.pars := ⟨_, rfl⟩
 obtain ⟨AL2, hAL2⟩ : ∃ z, z = rowAL μ c.rowsIn g.rowsIn raw := ⟨_, rfl⟩
 let IN : Nat -> Prop := fun b => ∃ o base, (o ∈ zBJ c.pars \/ o ∈ zAb c.rowsIn \/ ∃ k, md = some true /\ k ∈ zBZ s.d /\ o = HP + 1 + k) /\ yv (s.obj o) /\ μ o = some (b, base)
 let LENT : Nat -> Prop := fun b => ∃ o base, (o ∈ zBF c.rowsIn raw \/ ∃ k, mdUn md = true /\ noHs look raw = false /\ k ∈ zBZ s.d /\ o = HP + 1 + k) /\ μ o = some (b, base)
 let X : Nat -> Prop := fun b => (s.cx μ w F).M b /\ ¬ IN b /\ ¬ LENT b
 let home : Nat -> Option (Nat × Nat) := fun i => if HP < i then μ i else alook none ((AL1 ++ AL2).map fun p => (p.1, p.2.2)) i
 have hhomeD : ∀ k, home (HP + 1 + k) = μ (HP + 1 + k) := fun k => if_pos (by omega)
 let shape : Nat -> Option (Nat × Ty × Nat) := alook none (zB7 g.rowsIn ((fs c.fn).arg.cells false y))
 have hlentA : ∀ i, i ∈ zBF c.rowsIn raw -> i ∉ zBJ c.pars /\ i ∉ zAb c.rowsIn := by
  intro i hi
  unfold lentOk at hlent
  simp only [bA] at hlent
  have := apartL_mem hlent.2 hi
  simpa using this
 have hMin : ∀ b, IN b -> (s.cx μ w F).M b := by
  rintro b ⟨o, base, _, h1, h2⟩
  exact .inr ⟨o, base, h1, h2⟩
 have hX : ∀ b, (X b \/ IN b) -> (s.cx μ w F).M b := fun b h => h.elim (·.1) (hMin b)
 have hlow : ∀ b, (s.cx μ w F).M b -> b < w.heap.size := by
  rintro b (hb | ⟨o, base, h1, h2⟩)
  ·exact Nat.lt_of_lt_of_le (F.hX b hb).1 hr.frame.size
  ·exact hr.lt o b base h1 h2
 have hdynP : ∀ k, k ∈ zBZ s.d -> yv (s.obj (HP + 1 + k)) := by
  intro k hk
  obtain ⟨e, t, xs, h⟩ := zB3.1 hk
  rw [zBQ hHP, h]; trivial
 obtain ⟨f1, f2, f3, f4, _⟩ := handIn_rep (B := w.heap.size) hr hsees (M' := fun _ => False) (δ := s.dl μ) hDs (fun _ => Dle.refl _) (fun b h => h.elim) (kp := false) (fun h => by cases h) hin hqb s2 e1 hsames (hRKc false) (fun _ _ _ _ _ _ _ h => h) (fun o _ b base _ h => h) (fun h => by cases h)
 have hk1 : ((AL1 ++ AL2).map fun p => (p.1, p.2.2)).map (·.1) = zBI g.pars ++ zAb g.rowsIn := by
  rw [List.map_map, List.map_append]
  show AL1.map (fun p => p.1) ++ AL2.map (fun p => p.1) = _
  rw [hAL1, hAL2, e3, f2]
 have hk2 : (AL1 ++ AL2).map (·.2.1) = zBJ c.pars ++ zAb c.rowsIn := by
  rw [List.map_append, hAL1, hAL2, e4, f3]
 have hhome : ∀ q ∈ AL1 ++ AL2, home q.1 = q.2.2 := by
  intro q hq
  have hq1 : q.1 ∈ zBI g.pars ++ zAb g.rowsIn := by
   rw [<- hk1]; exact List.mem_map.2 ⟨_, List.mem_map.2 ⟨q, hq, rfl⟩, rfl⟩
  have := zB0 s12 hq1
  show (if HP < q.1 then _ else _) = _
  rw [if_neg (by omega)]
  exact alook_get none (by rw [hk1]; exact s6) (List.mem_map.2 ⟨q, hq, rfl⟩)
 have hshape : ∀ q ∈ zB7 g.rowsIn ((fs c.fn).arg.cells false y), shape q.1 = q.2 := by
  intro q hq
  exact alook_get none (by rw [f4]; exact (List.nodup_append.1 s6).2.1) hq
 have hblk : ∀ oc b base, oc ∈ g.inObjs -> home oc = some (b, base) -> ∃ i, (i ∈ zBJ c.pars \/ i ∈ zAb c.rowsIn) /\ yv (s.obj i) /\ μ i = some (b, base) /\ ∃ m, (oc, i, m) ∈ AL1 ++ AL2 := by
  intro oc b base hoc hh
  have hoc' : oc ∈ ((AL1 ++ AL2).map fun p => (p.1, p.2.2)).map (·.1) := by rw [hk1]; exact hoc
  obtain ⟨q0, hq0, hqe⟩ := List.mem_map.1 hoc'
  obtain ⟨q, hq, rfl⟩ := List.mem_map.1 hq0
  have hqe : q.1 = oc := hqe
  subst hqe
  rw [hhome q hq] at hh
  rcases List.mem_append.1 hq with h1 | h1
  ·rw [hAL1] at h1
   obtain ⟨h2, h3⟩ := e2 q h1
   refine ⟨q.2.1, .inl ?_, h2, by rw [<- h3]; exact hh, q.2.2, hq⟩
   rw [<- e4]; exact List.mem_map.2 ⟨q, h1, rfl⟩
  ·rw [hAL2] at h1
   obtain ⟨h2, h3⟩ := f1 q h1 b base hh
   refine ⟨q.2.1, .inr ?_, h2, h3, q.2.2, hq⟩
   rw [<- f3]; exact List.mem_map.2 ⟨q, h1, rfl⟩
 have hinB : ∀ b, g.inBlocks home b -> IN b := by
  rintro b ⟨oc, base, h1, h2⟩
  obtain ⟨i, h3, h4, h5, _⟩ := hblk oc b base h1 h2
  exact ⟨i, base, h3.imp id .inl, h4, h5⟩
 have hheapB : ∀ b, heapB Dc home b -> md = some true /\ ∃ k base, k ∈ zBZ s.d /\ μ (HP + 1 + k) = some (b, base) := by
  rintro b ⟨k, base, h1, h2⟩
  have hmt : md = some true := by
   apply Classical.byContradiction
   intro hne
   rw [hDcN hne] at h1; cases h1
  rw [hDcF hmt] at h1
  rw [hhomeD] at h2
  exact ⟨hmt, k, base, h1, h2⟩
 have hmayB : ∀ b, g.mayW home Dc b -> IN b := by
  rintro b (h | h)
  ·exact hinB b h
  ·obtain ⟨hmt, k, base, h1, h2⟩ := hheapB b h
   exact ⟨HP + 1 + k, base, .inr (.inr ⟨k, hmt, h1, rfl⟩), hdynP k h1, h2⟩
 have hINst : ∀ o, yv (s.obj o) -> o < HP -> o ∉ zBJ c.pars -> o ∉ zAb c.rowsIn -> ∀ b base, μ o = some (b, base) -> ¬ IN b := by
  rintro o hp hlt h1 h2 b base hm ⟨o', base', h3, hp', hm'⟩
  have := hr.inj o o' b base base' hp hp' hm hm'
  subst this
  rcases h3 with h3 | h3 | ⟨k, _, _, h3⟩
  ·exact h1 h3
  ·exact h2 h3
  ·omega
 have hINdyn : ∀ k, k ∈ zBZ s.d -> md ≠ some true -> ∀ b base, μ (HP + 1 + k) = some (b, base) -> ¬ IN b := by
  rintro k hk hne b base hm ⟨o', base', h3, hp', hm'⟩
  have := hr.inj _ o' b base base' (hdynP k hk) hp' hm hm'
  subst this
  rcases h3 with h3 | h3 | ⟨_, h3, _⟩
  ·have := hpb _ (List.mem_append.2 (.inl h3)); omega
  ·have := hpb _ (List.mem_append.2 (.inr h3)); omega
  ·exact hne h3
 have hrefLt : ∀ o, o ∈ zBF c.rowsIn raw -> o < HP := by
  intro o ho
  exact lent_lt hsees hHP hin ho
 have hnl : ∀ o, o ∈ zBF c.rowsIn raw -> ∀ b base, μ o = some (b, base) -> ¬ (X b \/ g.mayW home Dc b) := by
  intro o ho b base hmu hb
  rcases hb with hb | hb
  ·exact hb.2.2 ⟨o, base, .inl ho, hmu⟩
  ·exact hINst o (lent_present hsees hin ho) (hrefLt o ho) (hlentA o ho).1 (hlentA o ho).2 b base hmu (hmayB b hb)
 have hnD : mdUn md = true -> noHs look raw = false -> ∀ k, k ∈ zBZ s.d -> ∀ b base, μ (HP + 1 + k) = some (b, base) -> ¬ (X b \/ g.mayW home Dc b) := by
  intro hu hnh k hk b base hmu hb
  rcases hb with hb | hb
  ·exact hb.2.2 ⟨HP + 1 + k, base, .inr ⟨k, hu, hnh, hk, rfl⟩, hmu⟩
  ·refine hINdyn k hk ?_ b base hmu (hmayB b hb)
   rintro rfl
   cases hu
 have hδ : mdUn md = false -> Dle (s.dl μ) (dlOf Dc.length home) := by
  intro h
  have hmt := hun (P := True) h
  rw [hDcF hmt]
  intro k m hk
  simp only [dlOf]
  rw [hhomeD]
  exact hk
 have hFw : F.B <= w.heap.size := Nat.le_trans F.hB hr.frame.size
 have hMX : ∀ b, (X b \/ g.mayW home Dc b) -> (s.cx μ w F).M b := fun b h => h.elim (·.1) fun h => hMin b (hmayB b h)
 have hHh : ∀ p ∈ rowAL μ c.rowsIn g.rowsIn raw, home p.1 = p.2.2 := fun q hq => hhome q (List.mem_append.2 (.inr (hAL2 ▸ hq)))
 -- the level that the function runs at, and what it means for what comes back
 obtain ⟨B, Bx, hB0, hB1, hB2, hIn, hBx, hOutB⟩ : ∃ B Bx, B <= w.heap.size /\ ((fs c.fn).keep = false -> B = w.heap.size) /\ ((fs c.fn).keep = true -> ∀ o b base, o ∈ zAb g.rowsIn -> home o = some (b, base) -> B <= b) /\
   InR E.tm w (fun b => X b \/ g.mayW home Dc b) (dlOf Dc.length home) B home shape g.rowsIn ((fs c.fn).arg.cells (fs c.fn).keep y) rawv /\ (F.B <= Bx /\ Bx <= w.heap.size /\ (c.fresh = true -> Bx = w.heap.size)) /\
   ∀ (w' : World) (M : Nat -> Prop) (δ : Dl) (vs : List Value) (L : List (Option (Nat × Nat))), OutR E.tm w' M δ B home shape g.outs ((fs c.fn).ret.cells ((fs c.fn).fresh || (fs c.fn).keep) r) vs L -> OutR E.tm w' M δ Bx home shape g.outs ((fs c.fn).ret.cells (((fs c.fn).fresh && !(fs c.fn).keep) || ((fs c.fn).keep && ff)) r) vs L := by
  cases hkp : (fs c.fn).keep with
  | false =>
   obtain ⟨_, _, _, _, f5⟩ := handIn_rep (B := w.heap.size) hr hsees (M' := fun b => X b \/ g.mayW home Dc b) (δ := dlOf Dc.length home) hDs hδ hMX (kp := false) (fun h => by cases h) hin hqb s2 e1 hsames (hRKc false) hnD hnl (fun h => by cases h)
   exact ⟨w.heap.size, w.heap.size, nR _, fun _ => rfl, fun h => (by cases h), f5 home shape hHh hshape, ⟨hFw, nR _, fun _ => rfl⟩, fun w' M δ vs L h => by simpa using h⟩
  | true =>
   have hcf : c.fresh = false := by rw [<- hfr, hkp]; simp
   have hnolent : zBF c.rowsIn raw = [] := by
    unfold lentOk at hlent
    rw [hcf] at hlent
    simp only [Bool.false_or, bA] at hlent
    exact isNil_eq hlent.1.1
   cases hff : ff with
   | true =>
    subst hff
    obtain ⟨pre, hpre, hsT⟩ := ofCells_sames true hof (fun _ => rfl)
    rw [List.append_nil] at hpre
    subst hpre
    obtain ⟨_, _, _, _, f5⟩ := handIn_rep (B := F.B) hr hsees (M' := fun b => X b \/ g.mayW home Dc b) (δ := dlOf Dc.length home) hDs hδ hMX (kp := true) (fun _ => nR _) hin hqb s2 e1 hsT (hRKc true) hnD hnl (fun _ => hnolent)
    refine ⟨F.B, F.B, hFw, fun h => (by cases h), fun _ o b base ho hh => ?_, f5 home shape hHh (by rw [<- shapeAL_unfl, cells_unfl]; exact hshape), ⟨nR _, hFw, fun h => by rw [hcf] at h; cases h⟩, fun w' M δ vs L h => by simpa using h⟩
    rw [<- f2] at ho
    obtain ⟨q, hq, rfl⟩ := List.mem_map.1 ho
    rw [hHh q hq] at hh
    obtain ⟨h1, st, e, t, xs, h2⟩ := handIn_fresh (μ := μ) hin s2 hsT q hq b base hh
    have hob := hsees.row h2 trivial
    rcases hr.own q.2.1 b base (by rw [hob]; trivial) h1 with h3 | ⟨_, h3 | h3⟩
    ·exact Nat.le_trans F.hB h3
    ·rw [hob] at h3; cases h3 rfl
    ·exact h3
   | false =>
    obtain ⟨_, _, _, _, f5⟩ := handIn_rep (B := w.heap.size) hr hsees (M' := fun b => X b \/ g.mayW home Dc b) (δ := dlOf Dc.length home) hDs hδ hMX (kp := false) (fun h => by cases h) hin hqb s2 e1 hsames (hRKc false) hnD hnl (fun h => by cases h)
    refine ⟨0, F.B, Nat.zero_le _, fun h => (by cases h), fun _ _ _ _ _ _ => Nat.zero_le _, InR.up (B := w.heap.size) (by rw [cells_unfl]; exact f5 home shape hHh hshape), ⟨nR _, hFw, fun h => by rw [hcf] at h; cases h⟩, fun w' M δ vs L h => ?_⟩
    have := OutR.down (B := F.B) h
    rw [cells_unfl] at this
    simpa using this
 have hGnot : ∀ b, E.G b -> ¬ IN b := by
  rintro b hb ⟨i, base, _, hp, hm⟩
  have h1 := hG0 b hb
  rcases hr.own i b base hp hm with h2 | h2
  ·omega
  ·exact h1.2 h2.1
 have hGw : ∀ b, E.G b -> b < w.heap.size /\ ¬ g.mayW home Dc b := fun b hb => ⟨Nat.lt_of_lt_of_le (hG0 b hb).1 hr.frame.size, fun hi => hGnot b hb (hmayB b hi)⟩
 have hQw : E.Q w := hQs F.w0 w (fun b hb => hr.frame.block b (hG0 b hb).1 (hG0 b hb).2) hQ0
 have hcalls := hsound w B X home shape (cl.args.toList.map a.eval) rawv Dc y r D' hGw hQw hB0 hB1 hB2
  (fun b hb => ⟨hlow b hb.1, fun h => hb.2.1 (hmayB b h)⟩)
  (by
   intro o o' b base base' ho ho' h1 h2
   obtain ⟨i, _, i2, i3, m, i4⟩ := hblk o b base ho h1
   obtain ⟨j, _, j2, j3, m', j4⟩ := hblk o' b base' ho' h2
   have := hr.inj i j b base base' i2 j2 i3 j3
   subst this
   have := nodup_map_inj (f := fun q : Nat × Nat × Option (Nat × Nat) => q.2.1) (by rw [hk2]; exact s5) i4 j4 rfl
   injection this)
  (by
   intro o b base ho h1
   obtain ⟨i, _, i2, i3, _⟩ := hblk o b base ho h1
   exact hr.lt i b base i2 i3)
  (by
   refine ⟨fun h => ?_, ?_, ?_, ?_⟩
   ·rw [hfhp] at h
    rw [hDc]
    match md, h with
    | none, _ => rfl
    | some _, h => cases h
   ·intro k e t xs hk
    have hk1 : k ∈ zBZ Dc := zB3.2 ⟨e, t, xs, hk⟩
    have hmt : md = some true := by
     apply Classical.byContradiction
     intro hne
     rw [hDcN hne] at hk1; cases hk1
    rw [hDcF hmt] at hk
    have := hr.objs (HP + 1 + k)
    rw [zBQ hHP, hk] at this
    show HRowAt E.tm w (home (HP + 1 + k)) e t xs
    rw [hhomeD]
    exact hrow_at.1 this
   ·intro b hb
    obtain ⟨hmt, k, base, h1, h2⟩ := hheapB b hb
    refine ⟨hr.lt _ b base (hdynP k h1) h2, ?_⟩
    rintro ⟨oc, base', h3, h4⟩
    obtain ⟨i, i1, i2, i3, _⟩ := hblk oc b base' h3 h4
    have := hr.inj _ i b base base' (hdynP k h1) i2 h2 i3
    subst this
    rcases i1 with i1 | i1
    ·have := hpb _ (List.mem_append.2 (.inl i1)); omega
    ·have := hpb _ (List.mem_append.2 (.inr i1)); omega
   ·intro k k' b base base' h1 h2 h3 h4
    have hmt : md = some true := by
     apply Classical.byContradiction
     intro hne
     rw [hDcN hne] at h1; cases h1
    rw [hDcF hmt] at h1 h2
    rw [hhomeD] at h3 h4
    have := hr.inj _ _ b base base' (hdynP k h1) (hdynP k' h2) h3 h4
    omega)
  (e5 home fun q hq => hhome q (List.mem_append.2 (.inl (hAL1 ▸ hq))))
  hIn hF
 have hrun : (execOp a.eval o).run E.P w = .ok (.enter (E.fm c.fn) (cl.args.toList.map a.eval).toArray) w := by
  obtain ⟨bd, hbd⟩ := Option.isSome_iff_exists.1 hbd
  have hae : a.eval (.func (E.fm c.fn)) = .func (.func (E.fm c.fn)) #[] #[] := rfl
  have hnm : ¬ fn.name = "runtime.NumGoroutine" := by simpa using hname
  simp [execOp, hop, resolve, hcallee, Deferred.ofValue, hae, invoke, callFunc, hfn, hnm, hbd]
  apply Array.ext'
  simp
 show o.upon _ _ _ _ _
 rw [hrun, Oper.upon_enter]
 refine hcalls.mono ?_
 rintro e w' ⟨v, rfl, hstep, vals, rawA, rawB, bs, ms, hd, rfl, hret, hboxr, ⟨hlenD, hdEq, hheapR⟩, houtr, hapart, hwhere⟩
 have hDcLen : md.isSome = true -> Dc.length = s.d.length := by
  intro h
  have hl := hlookHP h
  rw [hDc]
  match md, h with
  | some true, _ => simp only [mdIn]; rw [hl]; rfl
  | some false, _ => simp only [mdIn]; rw [hl]; simp [hhide, hrows]
 have hD'N : md = none -> D' = [] := by
  intro h
  unfold FS.runs at hF
  rw [hfhp, h] at hF
  exact hF.2
 subst hout
 -- what comes back
 obtain ⟨M2, hM2, hout2⟩ : ∃ M2 : Nat -> Prop, (∀ b, ((X b \/ ∃ base, some (b, base) ∈ g.outMs home bs ms ++ heapMs D' (fun k => hd (HP + 1 + k))) \/ (c.fresh = true /\ b < w.heap.size)) -> M2 b) /\
   OutR E.tm w' M2 (dlOf D'.length hd) Bx home shape g.outs ((fs c.fn).ret.cells (((fs c.fn).fresh && !(fs c.fn).keep) || ((fs c.fn).keep && ff)) r) (rawA ++ rawB) ms := by
  have houtr := hOutB _ _ _ _ _ houtr
  cases hcf : c.fresh with
  | false => exact ⟨_, fun b hb => hb.elim id (fun h => by cases h.1), houtr⟩
  | true =>
   have hbx := hBx.2.2 hcf
   refine ⟨_, fun b hb => hb.elim .inl (fun h => .inr (by rw [hbx]; exact h.2)), OutR.above ?_ houtr⟩
   intro gg uu xs hm
   have := cells_flag hm
   rw [this, hfr, hcf]; rfl
 have hpairS : ∀ o oc st hm fr e t xs, pairOk c.rowsIn g.rowsIn o oc = true -> look o = .row st hm fr e t xs -> shape oc = some (e, t, xs.length) := by
  intro o oc st hm fr e t xs h1 h2
  exact hshape _ (handIn_pair (μ := μ) hin s2 hsames (hRKc false) h1 h2).2
 have hpairH : ∀ o oc st hm fr e t xs, pairOk c.rowsIn g.rowsIn o oc = true -> look o = .row st hm fr e t xs -> home oc = μ o := by
  intro o oc st hm fr e t xs h1 h2
  exact hhome _ (List.mem_append.2 (.inr (hAL2 ▸ (handIn_pair (μ := μ) hin s2 hsames (hRKc false) h1 h2).1)))
 obtain ⟨T1, T2, t1, t2, t3, t4, t5, t6, t7, t8⟩ := place_rep hpairS s4 hplace hout2
 obtain ⟨T0, hT0⟩ : ∃ T, T = retTL c.rets bs := ⟨_, rfl⟩
 obtain ⟨T3, hT3⟩ : ∃ T, T = parTL home c.pars g.pars := ⟨_, rfl⟩
 obtain ⟨r1, r2⟩ := retTL_spec s3 hret
 obtain ⟨q1, q2⟩ := parTL_spec home s1
 rw [<- hT0] at r1 r2
 rw [<- hT3] at q1 q2
 obtain ⟨TH, hTH⟩ : ∃ T, T = dynTL D' hd := ⟨_, rfl⟩
 have hTHm : ∀ q, q ∈ TH -> ∃ k, k ∈ zBZ D' /\ q = (some (HP + 1 + k), hd (HP + 1 + k)) := by
  intro q hq
  rw [hTH] at hq
  obtain ⟨k, h1, rfl⟩ := List.mem_map.1 hq
  exact ⟨k, h1, rfl⟩
 have hTL : ((T0 ++ (T1 ++ (T3 ++ T2))) ++ TH).map (·.2) = g.outMs home bs ms ++ heapMs D' (fun k => hd (HP + 1 + k)) := by
  rw [List.map_append]
  congr 1
  ·simp only [List.map_append, r1, t1, q1, t2, Sig.outMs]
  ·rw [hTH]; simp [dynTL, heapMs]
 obtain ⟨TT, hTT⟩ : ∃ T, T = (T0 ++ (T1 ++ (T3 ++ T2))) ++ TH := ⟨_, rfl⟩
 rw [<- hTT] at hTL
 have hTA : TT.Pairwise fun p q => Apart p.2 q.2 := by
  rw [<- hTL, List.pairwise_map] at hapart; exact hapart
 have hTmem : ∀ q, q ∈ TT ↔ q ∈ T0 \/ q ∈ T1 \/ q ∈ T3 \/ q ∈ T2 \/ q ∈ TH := by intro q; rw [hTT]; simp
 have hTout : ∀ q b base, q ∈ TT -> q.2 = some (b, base) -> some (b, base) ∈ g.outMs home bs ms ++ heapMs D' (fun k => hd (HP + 1 + k)) := by
  intro q b base hq he; rw [<- hTL, <- he]; exact List.mem_map.2 ⟨q, hq, rfl⟩
 have hTap : ∀ q q' b base base', q ∈ TT -> q' ∈ TT -> q ≠ q' -> q.2 = some (b, base) -> q'.2 = some (b, base') -> False := by
  intro q q' b base base' hq hq' hne h1 h2
  exact pairwise_ne (fun _ _ h => Apart.symm h) hTA hq hq' hne b base base' h1 h2
 -- keys
 obtain ⟨n1, n2, n3⟩ := List.nodup_append.1 s7
 obtain ⟨n4, n5, n6⟩ := List.nodup_append.1 n2
 have nOB : ∀ o, o ∈ ownC c.outs -> o ∉ boxC c.rets := fun o h1 h2 => n3 o (zBO.2 (.inl h1)) o (List.mem_append.2 (.inl h2)) rfl
 have nOP : ∀ o, o ∈ ownC c.outs -> o ∉ zBJ c.pars := fun o h1 h2 => n3 o (zBO.2 (.inl h1)) o (List.mem_append.2 (.inr h2)) rfl
 have nKB : ∀ o, o ∈ backC c.outs -> o ∉ boxC c.rets := fun o h1 h2 => n3 o (zBO.2 (.inr h1)) o (List.mem_append.2 (.inl h2)) rfl
 have nBP : ∀ o, o ∈ boxC c.rets -> o ∉ zBJ c.pars := fun o h1 h2 => n6 o h1 o h2 rfl
 have nLt : ∀ o, o ∈ zB8 c.outs \/ o ∈ boxC c.rets \/ o ∈ zBJ c.pars -> o < HP := by
  intro o ho
  refine zB0 s11 ?_
  rcases ho with h | h | h
  ·exact List.mem_append.2 (.inl h)
  ·exact List.mem_append.2 (.inr (List.mem_append.2 (.inl h)))
  ·exact List.mem_append.2 (.inr (List.mem_append.2 (.inr h)))
 let μ' : Nat -> Option (Nat × Nat) := fun o => if HP < o then (if md.isSome = true then hd o else μ o) else alook (μ o) (tlKeys (T0 ++ T1)) o
 have hmuD : md.isSome = true -> ∀ k, μ' (HP + 1 + k) = hd (HP + 1 + k) := by
  intro h k
  show (if HP < HP + 1 + k then _ else _) = _
  rw [if_pos (by omega), if_pos h]
 have hmuK : ∀ k, k < s.d.length -> μ' (HP + 1 + k) = μ (HP + 1 + k) := by
  intro k hk
  cases hms : md.isSome with
  | true => rw [hmuD hms, hdEq k (by rw [hDcLen hms]; exact hk), hhomeD]
  | false =>
   show (if HP < HP + 1 + k then _ else _) = _
   rw [if_pos (by omega), if_neg (by rw [hms]; decide)]
 have hTK : (tlKeys (T0 ++ T1)).map (·.1) = boxC c.rets ++ ownC c.outs := by rw [tlKeys_fst, List.filterMap_append, r2, t3]
 have hTKn : ((tlKeys (T0 ++ T1)).map (·.1)).Nodup := by
  rw [hTK]; exact List.nodup_append.2 ⟨n4, ownC_nodup n1, fun o h1 o' h2 he => nOB o' h2 (he ▸ h1)⟩
 have hmuOld : ∀ o, o <= HP -> o ∉ boxC c.rets -> o ∉ ownC c.outs -> μ' o = μ o := by
  intro o hlt h1 h2
  show (if HP < o then _ else _) = _
  rw [if_neg (by omega)]
  exact alook_none _ (by rw [hTK]; simp [h1, h2])
 have hmu0 : ∀ o m, (some o, m) ∈ T0 -> μ' o = m := fun o m h => by
  have := nLt o (.inr (.inl (by have := tl_key h; rwa [r2] at this)))
  show (if HP < o then _ else _) = _
  rw [if_neg (by omega)]
  exact alook_get _ hTKn (tlKeys_mem (List.mem_append.2 (.inl h)))
 have hmu1 : ∀ o m, (some o, m) ∈ T1 -> μ' o = m := fun o m h => by
  have := nLt o (.inl (zBO.2 (.inl (by have := tl_key h; rwa [t3] at this))))
  show (if HP < o then _ else _) = _
  rw [if_neg (by omega)]
  exact alook_get _ hTKn (tlKeys_mem (List.mem_append.2 (.inr h)))
 have hk0 : ∀ o m, (some o, m) ∈ T0 -> o ∈ boxC c.rets := fun o m h => by have := tl_key h; rwa [r2] at this
 have hkk1 : ∀ o m, (some o, m) ∈ T1 -> o ∈ ownC c.outs := fun o m h => by have := tl_key h; rwa [t3] at this
 have hkk2 : ∀ o m, (some o, m) ∈ T2 -> o ∈ backC c.outs := fun o m h => by have := tl_key h; rwa [t4] at this
 have hkk3 : ∀ o m, (some o, m) ∈ T3 -> o ∈ zBJ c.pars := fun o m h => by have := tl_key h; rwa [q2] at this
 have hmu3 : ∀ o m, (some o, m) ∈ T3 -> μ' o = m /\ μ' o = μ o := by
  intro o m h
  have ho := hkk3 o m h
  have h1 := hmuOld o (Nat.le_of_lt (nLt o (.inr (.inr ho)))) (fun hb => nBP o hb ho) (fun hb => nOP o hb ho)
  obtain ⟨oc, h2, rfl⟩ := parTL_mem (μ := μ) (hT3 ▸ h)
  have h3 := hhome _ (List.mem_append.2 (.inl (hAL1 ▸ h2)))
  exact ⟨h1.trans h3.symm, h1⟩
 have hmu2 : ∀ o m, (some o, m) ∈ T2 -> μ' o = m /\ μ' o = μ o := by
  intro o m h
  have ho := hkk2 o m h
  have h1 := hmuOld o (Nat.le_of_lt (nLt o (.inl (zBO.2 (.inr ho))))) (nKB o ho) (fun hb => own_not_back n1 hb ho)
  obtain ⟨o', oc, h2, h3, st, hm, fr, e, t, xs, h4⟩ := t7 _ h
  injection h2 with h2 h5
  injection h2 with h2
  subst h2; subst h5
  exact ⟨h1.trans (hpairH o oc st hm fr e t xs h3 h4).symm, h1⟩
 have hmuT : ∀ o m, (some o, m) ∈ TT -> μ' o = m := by
  intro o m h
  rcases (hTmem _).1 h with h | h | h | h | h
  ·exact hmu0 o m h
  ·exact hmu1 o m h
  ·exact (hmu3 o m h).1
  ·exact (hmu2 o m h).1
  ·obtain ⟨k, h1, h2⟩ := hTHm _ h
   injection h2 with h2 h3
   injection h2 with h2
   subst h2; subst h3
   refine hmuD ?_ k
   cases hm2 : md with
   | some _ => rfl
   | none => rw [hD'N hm2] at h1; cases h1
 have hzk := takeRets_keys htake
 have hwk := boxUps_keys hbox
 have hkeys : (u ++ (z ++ wl)).map (·.1) = zB8 c.outs ++ (boxC c.rets ++ zBJ c.pars) := by simp only [List.map_append, t5, hzk, hwk]
 have hkeyT : ∀ o, o ∈ (u ++ (z ++ wl)).map (·.1) -> ∃ m, (some o, m) ∈ TT := by
  intro o ho
  rw [hkeys] at ho
  have conv : ∀ (T : TL), o ∈ T.filterMap (·.1) -> ∃ m, (some o, m) ∈ T := by
   intro T h
   obtain ⟨⟨a, m⟩, h1, h2⟩ := List.mem_filterMap.1 h
   have h2 : a = some o := h2
   subst h2
   exact ⟨m, h1⟩
  rcases List.mem_append.1 ho with h | h
  ·rcases zBO.1 h with h | h
   ·obtain ⟨m, h⟩ := conv T1 (by rw [t3]; exact h); exact ⟨m, (hTmem _).2 (.inr (.inl h))⟩
   ·obtain ⟨m, h⟩ := conv T2 (by rw [t4]; exact h); exact ⟨m, (hTmem _).2 (.inr (.inr (.inr (.inl h))))⟩
  ·rcases List.mem_append.1 h with h | h
   ·obtain ⟨m, h⟩ := conv T0 (by rw [r2]; exact h); exact ⟨m, (hTmem _).2 (.inl h)⟩
   ·obtain ⟨m, h⟩ := conv T3 (by rw [q2]; exact h); exact ⟨m, (hTmem _).2 (.inr (.inr (.inl h)))⟩
 -- the new state
 obtain ⟨s', hs'⟩ : ∃ s', s' = s.eff x (retV l, mdUps look D' md ++ (gone look c.rowsIn ++ (u ++ (z ++ wl)))) := ⟨_, rfl⟩
 rw [<- hs']
 obtain ⟨sA, hs1⟩ : ∃ sA, sA = (s.put x.dst (retV l)).ups (mdUps look D' md) := ⟨_, rfl⟩
 obtain ⟨g1, g2⟩ := gone_spec look c.rowsIn
 have hkeyLt : ∀ o y, (o, y) ∈ gone look c.rowsIn ++ (u ++ (z ++ wl)) -> o < HP := by
  intro o y h
  rcases List.mem_append.1 h with h | h
  ·exact hpb o (List.mem_append.2 (.inr (by rw [<- g1]; exact List.mem_map.2 ⟨_, h, rfl⟩)))
  ·have : o ∈ (u ++ (z ++ wl)).map (·.1) := List.mem_map.2 ⟨_, h, rfl⟩
   rw [hkeys] at this
   exact zB0 s11 this
 have hidx : ∀ o y, (o, y) ∈ gone look c.rowsIn ++ (u ++ (z ++ wl)) -> o < s.h.length := fun o y h => by
  rw [hn]
  rcases hwo' o (zBd.2 (hups' o y h)) with h1 | h1
  ·exact h1
  ·have := hkeyLt o y h; omega
 have hmdk : ∀ o y, (o, y) ∈ mdUps look D' md -> o = HP := by
  intro o y h
  match md, h with
  | none, h => cases h
  | some true, h => cases h with | head => rfl | tail _ h => cases h
  | some false, h => cases h with | head => rfl | tail _ h => cases h
 have hs1h : sA.h.length = s.h.length := by rw [hs1, ups_len, put_h]
 have hs1low : ∀ o, o < HP -> sA.obj o = s.obj o := by
  intro o ho
  rw [hs1, ups_obj _ _ o (fun y hy => by have := hmdk o y hy; omega) (.inl (Nat.le_of_lt ho)), put_obj]
 have hs1d : sA.d = mdHeap s.d D' md /\ sA.k = s.k := by
  rw [hs1]
  match hm2 : md with
  | none => exact ⟨put_d _ _ _, put_k _ _ _⟩
  | some true =>
   simp only [mdUps, S.ups]
   rw [setO_HP, hlookHP rfl]
   exact ⟨rfl, rfl⟩
  | some false =>
   simp only [mdUps, S.ups]
   rw [setO_HP, hlookHP rfl]
   exact ⟨rfl, rfl⟩
 have hse : s' = sA.ups (gone look c.rowsIn ++ (u ++ (z ++ wl))) := by
  rw [hs', hs1]; simp only [S.eff]; rw [ups_append]
 obtain ⟨hs'd, hs'k⟩ : s'.d = sA.d /\ s'.k = sA.k := by
  rw [hse]
  exact ups_d _ _ fun y hy => by have := hkeyLt HP y hy; omega
 have hs'h : s'.h.length = s.h.length := by rw [hse, ups_len, hs1h]
 have hs'HP : s'.h.length <= HP := by rw [hs'h]; exact hHP
 have hsobj : ∀ o, s'.obj o = ((sA.ups (gone look c.rowsIn)).ups (u ++ (z ++ wl))).obj o := by
  intro o; rw [hse]; rw [ups_append]
 have hkLt2 : ∀ y, (HP, y) ∉ u ++ (z ++ wl) := fun y hy => by have := hkeyLt HP y (List.mem_append.2 (.inr hy)); omega
 have hkLt1 : ∀ y, (HP, y) ∉ gone look c.rowsIn := fun y hy => by have := hkeyLt HP y (List.mem_append.2 (.inl hy)); omega
 have hobjN : ∀ o y, (o, y) ∈ u ++ (z ++ wl) -> s'.obj o = y := by
  intro o y h
  rw [hsobj]
  exact ups_get _ _ o y (by rw [hkeys]; exact s7) h (by rw [ups_len, hs1h]; exact hidx o y (List.mem_append.2 (.inr h))) (by rw [ups_len, hs1h]; exact hHP)
 have hobjG : ∀ o, o ∈ zAb c.rowsIn -> o ∉ (u ++ (z ++ wl)).map (·.1) -> s'.obj o = .absent ((look o).stamp + 1) := by
  intro o h1 h2
  rw [hsobj, ups_obj _ _ o (fun y hy => h2 (List.mem_map.2 ⟨_, hy, rfl⟩)) (.inr hkLt2)]
  rw [<- g1] at h1
  obtain ⟨⟨o', y'⟩, h3, rfl⟩ := List.mem_map.1 h1
  rw [ups_get _ _ o' y' (by rw [g1]; exact (List.nodup_append.1 s5).2.1) h3 (by rw [hs1h]; exact hidx o' y' (List.mem_append.2 (.inl h3))) (by rw [hs1h]; exact hHP)]
  exact g2 o' y' h3
 have hobjO : ∀ o, o < HP -> o ∉ zAb c.rowsIn -> o ∉ (u ++ (z ++ wl)).map (·.1) -> s'.obj o = s.obj o := by
  intro o hlt h1 h2
  rw [hsobj, ups_obj _ _ o (fun y hy => h2 (List.mem_map.2 ⟨_, hy, rfl⟩)) (.inr hkLt2), ups_obj _ _ o (fun y hy => h1 (by rw [<- g1]; exact List.mem_map.2 ⟨_, hy, rfl⟩)) (.inr hkLt1), hs1low o hlt]
 have hdynN : ∀ k, s'.obj (HP + 1 + k) = hview sA.d[k]? := by intro k; rw [zBQ hs'HP, hs'd]
 -- the heap's rows: as they were, or the function's
 have hrowsN : ∀ k, md = some true \/ (md = some false /\ s.d.length <= k) -> sA.d[k]? = D'[k]? := by
  intro k hk
  rw [hs1d.1]
  rcases hk with h | ⟨h, h2⟩
  ·subst h; rfl
  ·subst h
   simp only [mdHeap, yw]
   rw [List.getElem?_append_right h2, List.getElem?_drop]
   congr 1
   omega
 have hrowsO : ∀ k, md = none \/ (md = some false /\ k < s.d.length) -> sA.d[k]? = s.d[k]? := by
  intro k hk
  rw [hs1d.1]
  rcases hk with h | ⟨h, h2⟩
  ·subst h; rfl
  ·subst h
   simp only [mdHeap, yw]
   rw [List.getElem?_append_left h2]
 have hdynLen : md.isSome = true -> sA.d.length = D'.length := by
  intro h
  have h1 := hlenD (by rw [hfhp]; exact h)
  rw [hDcLen h] at h1
  rw [hs1d.1]
  match md, h with
  | some true, _ => rfl
  | some false, _ => simp [mdHeap, yw]; omega
 let chd : Nat -> Prop := fun o => md.isSome = true /\ (o = HP \/ ∃ k, o = HP + 1 + k /\ (md = some true \/ s.d.length <= k))
 let ch : Nat -> Prop := fun o => (o < HP /\ (o ∈ zAb c.rowsIn \/ o ∈ (u ++ (z ++ wl)).map (·.1))) \/ chd o
 have hmdF : ∀ _k : Nat, md.isSome = true -> md ≠ some true -> md = some false := by
  intro _ h1 h2
  match md, h1, h2 with
  | some true, _, h => exact absurd rfl h
  | some false, _, _ => rfl
 have hchx : ∀ o, o ∈ zBJ c.pars -> ch o := fun o h => .inl ⟨nLt o (.inr (.inr h)), .inr (by rw [hkeys]; simp [h])⟩
 have hold : ∀ o b base, ¬ ch o -> yv (s.obj o) -> μ o = some (b, base) -> ¬ IN b := by
  rintro o b base hc hp hm ⟨i, base', hi, hpi, hmi⟩
  have := hr.inj o i b base base' hp hpi hm hmi
  subst this
  rcases hi with hi | hi | ⟨k, h1, _, h2⟩
  ·exact hc (hchx o hi)
  ·exact hc (.inl ⟨hpb o (List.mem_append.2 (.inr hi)), .inl hi⟩)
  ·exact hc (.inr ⟨by rw [h1]; rfl, .inr ⟨k, h2, .inl h1⟩⟩)
 have hchT : ∀ o, ch o -> yv (s'.obj o) -> ∃ m, (some o, m) ∈ TT /\ μ' o = m := by
  intro o hc hp
  rcases hc with ⟨hlt, hc⟩ | ⟨hms, hc⟩
  ·by_cases hk : o ∈ (u ++ (z ++ wl)).map (·.1)
   ·obtain ⟨m, h⟩ := hkeyT o hk
    exact ⟨m, h, hmuT o m h⟩
   ·rcases hc with h | h
    ·rw [hobjG o h hk] at hp; exact hp.elim
    ·exact absurd h hk
  ·rcases hc with rfl | ⟨k, rfl, hk⟩
   ·rw [zBs hs'HP] at hp; exact hp.elim
   ·have hk2 : md = some true \/ (md = some false /\ s.d.length <= k) := by
     by_cases h1 : md = some true
     ·exact .inl h1
     ·exact .inr ⟨hmdF k hms h1, hk.resolve_left h1⟩
    rw [hdynN, hrowsN k hk2] at hp
    rcases zB2 D'[k]? with h2 | ⟨e, t, xs, h2, _⟩
    ·rw [h2] at hp; exact hp.elim
    ·have hmem : (some (HP + 1 + k), hd (HP + 1 + k)) ∈ TT := (hTmem _).2 (.inr (.inr (.inr (.inr (by rw [hTH]; exact List.mem_map.2 ⟨k, zB3.2 ⟨e, t, xs, h2⟩, rfl⟩)))))
     exact ⟨_, hmem, hmuT _ _ hmem⟩
 have hnch : ∀ o, ¬ ch o -> s'.obj o = s.obj o /\ μ' o = μ o := by
  intro o hc
  rcases zBm o with hlt | rfl | ⟨k, rfl⟩
  ·refine ⟨hobjO o hlt (fun h => hc (.inl ⟨hlt, .inl h⟩)) (fun h => hc (.inl ⟨hlt, .inr h⟩)), hmuOld o (Nat.le_of_lt hlt) (fun h => hc (.inl ⟨hlt, .inr ?_⟩)) (fun h => hc (.inl ⟨hlt, .inr ?_⟩))⟩
   ·rw [hkeys]; simp [h]
   ·rw [hkeys]; exact List.mem_append.2 (.inl (zBO.2 (.inl h)))
  ·have hmn : md = none := by
    cases hm2 : md with
    | none => rfl
    | some f => exact absurd (.inr ⟨by rw [hm2]; rfl, .inl rfl⟩) hc
   refine ⟨?_, hmuOld HP (nR _) (fun h => by have := nLt HP (.inr (.inl h)); omega) (fun h => by have := nLt HP (.inl (zBO.2 (.inl h))); omega)⟩
   rw [zBs hs'HP, zBs hHP, hs'd, hs'k, hs1d.1, hs1d.2, hmn]; rfl
  ·have hk2 : md = none \/ (md = some false /\ k < s.d.length) := by
    cases hms : md.isSome with
    | false => left; cases hm2 : md with
     | none => rfl
     | some f => rw [hm2] at hms; cases hms
    | true =>
     have h1 : md ≠ some true := fun h => hc (.inr ⟨hms, .inr ⟨k, rfl, .inl h⟩⟩)
     have h2 : ¬ s.d.length <= k := fun h => hc (.inr ⟨hms, .inr ⟨k, rfl, .inr h⟩⟩)
     exact .inr ⟨hmdF k hms h1, by omega⟩
   refine ⟨by rw [hdynN, hrowsO k hk2, zBQ hHP], ?_⟩
   rcases hk2 with h | ⟨_, h⟩
   ·show (if HP < HP + 1 + k then _ else _) = _
    rw [if_pos (by omega), if_neg (by rw [h]; decide)]
   ·exact hmuK k h
 have hXnot : ∀ b, F.X b -> ¬ IN b := by
  rintro b hb ⟨i, base, _, hp, hm⟩
  have h1 := F.hX b hb
  rcases hr.own i b base hp hm with h2 | h2
  ·omega
  ·exact h1.2 h2.1
 obtain ⟨C', hC'⟩ : ∃ C', C' = s'.cx μ' w' F := ⟨_, rfl⟩
 have hC'M : ∀ b, C'.M b -> M2 b := by
  intro b hb
  apply hM2
  have old : (s.cx μ w F).M b -> ¬ IN b -> (X b \/ ∃ base, some (b, base) ∈ g.outMs home bs ms ++ heapMs D' (fun k => hd (HP + 1 + k))) \/ (c.fresh = true /\ b < w.heap.size) := by
   intro h1 h2
   cases hcf : c.fresh with
   | true => exact .inr ⟨rfl, hlow b h1⟩
   | false =>
    refine .inl (.inl ⟨h1, h2, ?_⟩)
    rintro ⟨o, base, ho, _⟩
    unfold lentOk at hlent
    rw [hcf] at hlent
    simp only [Bool.false_or, bA] at hlent
    rcases ho with ho | ⟨k, hu, hnh, _⟩
    ·rw [isNil_eq hlent.1.1] at ho
     cases ho
    ·have := hlent.1.2
     rw [hu, hnh] at this
     cases this
  subst hC'
  rcases hb with hb | ⟨o, base, hp, hm⟩
  ·exact old (.inl hb) (hXnot b hb)
  ·simp only [S.cx] at hp hm
   by_cases hc : ch o
   ·obtain ⟨m, h1, h2⟩ := hchT o hc hp
    rw [h2] at hm
    exact .inl (.inr ⟨base, hTout _ b base h1 hm⟩)
   ·obtain ⟨h1, h2⟩ := hnch o hc
    rw [h1] at hp
    rw [h2] at hm
    exact old (.inr ⟨o, base, hp, hm⟩) (hold o b base hc hp hm)
 have hnone : ∀ b base, (none, some (b, base)) ∈ T1 -> b < w'.heap.size /\ ¬ C'.M b := by
  intro b base hm
  have hmT : (none, some (b, base)) ∈ TT := (hTmem _).2 (.inr (.inl hm))
  obtain ⟨h1, h2⟩ := hwhere b base (hTout _ b base hmT rfl)
  refine ⟨h2, fun hb => ?_⟩
  subst hC'
  rcases hb with hb | ⟨o, base', hp, hmo⟩
  ·rcases h1 with h1 | h1
   ·have := (F.hX b hb).1; have := hr.frame.size; omega
   ·exact hXnot b hb (hmayB b h1)
  ·simp only [S.cx] at hp hmo
   by_cases hc : ch o
   ·obtain ⟨m, h3, h4⟩ := hchT o hc hp
    rw [h4] at hmo
    exact hTap _ _ b base base' hmT h3 (by intro h; injection h with h _; cases h) rfl hmo
   ·obtain ⟨h3, h4⟩ := hnch o hc
    rw [h3] at hp
    rw [h4] at hmo
    rcases h1 with h1 | h1
    ·have := hr.lt o b base' hp hmo; omega
    ·exact hold o b base' hc hp hmo (hmayB b h1)
 have hCw : C'.w = w' := by subst hC'; rfl
 have hCB : C'.B = F.B := by subst hC'; rfl
 have hCh : ∀ o, C'.h o = s'.obj o := by subst hC'; exact fun _ => rfl
 have hCm : ∀ o, C'.μ o = μ' o := by subst hC'; exact fun _ => rfl
 have hD2 : Dle (dlOf D'.length hd) C'.dl := by
  subst hC'
  intro k m hk
  cases hms : md.isSome with
  | false =>
   have hmn : md = none := by
    cases hm2 : md with
    | none => rfl
    | some f => rw [hm2] at hms; cases hms
   simp only [dlOf, hD'N hmn] at hk
   rw [if_neg (by simp)] at hk
   cases hk
  | true =>
   have hl2 := hdynLen hms
   simp only [S.cx, S.dl, dlOf, hs'd, hl2] at hk ⊢
   rw [hmuD hms]
   exact hk
 have hcells := t8 C' hCw (by rw [hCB]; exact hBx.1) hC'M hD2 (fun o y h => by rw [hCh]; exact hobjN o y (List.mem_append.2 (.inl h))) (fun o m h => by rw [hCm]; exact hmu1 o m h) hnone
 obtain ⟨w1, w2, w3⟩ := takeRets_rep (tm := E.tm) s3 htake hret hCw hcells (fun o y h => by rw [hCh]; exact hobjN o y (by simp [h])) (fun o m h => by rw [hCm]; exact hmu0 o m (hT0 ▸ h))
 obtain ⟨_, w4⟩ := boxUps_rep (tm := E.tm) s1 hbox hboxr hCw w2
 have roOf : ∀ o, o ∈ ownC c.outs \/ o ∈ boxC c.rets -> look o = s.obj o := fun o h => hro o (allIn_mem s9 (List.mem_append.2 h))
 have roIn : ∀ o, o ∈ zAb c.rowsIn -> look o = s.obj o := fun o h => hro o (allIn_mem s8 (List.mem_append.2 (.inr h)))
 -- each object that changes
 have hcase : ∀ o, o < HP -> ch o -> (s'.obj o = .absent ((s.obj o).stamp + 1)) \/
   (∃ m, (some o, m) ∈ T1 /\ CameRow E.tm look w' M2 (dlOf D'.length hd) Bx true o (s'.obj o) m) \/ (∃ m, (some o, m) ∈ T2 /\ CameRow E.tm look w' M2 (dlOf D'.length hd) Bx false o (s'.obj o) m) \/
   (∃ m cs', (some o, m) ∈ T0 /\ zBU E.tm C' m (s'.obj o) /\ s'.obj o = .box ((s.obj o).stamp + 1) false cs') \/
   (∃ m st hm cs0 cs', (some o, m) ∈ T3 /\ zBU E.tm C' m (s'.obj o) /\ s.obj o = .box st hm cs0 /\ s'.obj o = .box st hm cs') := by
  intro o hlt hc
  have hc : o ∈ zAb c.rowsIn \/ o ∈ (u ++ (z ++ wl)).map (·.1) := by
   rcases hc with hc | ⟨_, hc⟩
   ·exact hc.2
   ·rcases hc with hc | ⟨k, hc, _⟩
    ·omega
    ·omega
  by_cases hk : o ∈ (u ++ (z ++ wl)).map (·.1)
  ·obtain ⟨⟨o', y⟩, hm, rfl⟩ := List.mem_map.1 hk
   have hy := hobjN o' y hm
   show s'.obj o' = _ \/ _
   rw [show ((o', y) : Nat × Obj).1 = o' from rfl, hy]
   rcases List.mem_append.1 hm with h | h
   ·obtain ⟨m, h⟩ := t6 o' y h
    rcases h with h | h
    ·exact .inr (.inl ⟨m, h⟩)
    ·exact .inr (.inr (.inl ⟨m, h⟩))
   ·rcases List.mem_append.1 h with h | h
    ·obtain ⟨m, h1, h2, cs', h3⟩ := w3 o' y h
     rw [<- hT0] at h1
     exact .inr (.inr (.inr (.inl ⟨m, cs', h1, h2, by rw [h3, roOf o' (.inr (hk0 o' m h1))]⟩)))
    ·obtain ⟨m, h1, h2, st, hm, cs0, cs', h3, h4⟩ := w4 o' y h
     rw [<- hT3] at h1
     exact .inr (.inr (.inr (.inr ⟨m, st, hm, cs0, cs', h1, h2, hsees.row h3 trivial, h4⟩)))
  ·rcases hc with h | h
   ·exact .inl (by rw [hobjG o h hk, roIn o h])
   ·exact absurd h hk
 have hrowK : ∀ {own : Bool} {o : Nat} {y : Obj} {m : Option (Nat × Nat)}, CameRow E.tm look w' M2 (dlOf D'.length hd) Bx own o y m -> zBU E.tm C' m y := by
  rintro own o y m ⟨e, t, xs, fr, fr', h1, h2, h3⟩
  have hy : ∃ st hm, y = .row st hm fr e t xs := by
   cases own with
   | true => exact ⟨_, _, h3.1⟩
   | false => obtain ⟨st, hm, _, _, _, _, h4, _⟩ := h3; exact ⟨_, _, h4⟩
  obtain ⟨st, hm, rfl⟩ := hy
  rcases h1 with h1 | ⟨b, base, cur, h4, h5, h6, h7⟩
  ·exact .inl h1
  ·refine .inr ⟨b, base, cur, h4, by rw [hCw]; exact h5, h6, fun i z hz => ?_⟩
   rw [hCw]
   refine yk.keep (Stp.refl _ _) (fun b _ hb => hC'M b hb) hD2 ?_ (h7 i z hz)
   cases fr with
   | false => simp [Cx.L]
   | true => rw [h2 rfl]; simp [Cx.L, hCB]; exact hBx.1
 refine ⟨μ', hdst ▸ RepM.stepN hr (g.mayW home Dc) ch (by rw [hs']; simp only [S.eff]; rw [ups_t]) hstep ?_ ?_ ?_ ?_ ?_ ?_ ?_ ?_ hs'h (by rw [hs'k, hs1d.2]) ?_ hmuK⟩
 ·intro b hb
  obtain ⟨i, base, _, h1, h2⟩ := hmayB b hb
  exact ⟨i, base, h1, h2⟩
 ·intro o hc
  obtain ⟨h1, h2⟩ := hnch o hc
  exact ⟨h1, h2, fun hp b base hm hb => hold o b base hc hp hm (hmayB b hb)⟩
 ·intro o hc
  rcases zBm o with hlt | rfl | ⟨k, rfl⟩
  case inr.inl => rw [zBs hHP, zBs hs'HP]; exact ⟨nR _, fun _ => trivial⟩
  case inr.inr =>
   rw [zBQ hHP, hdynN]
   refine ⟨by rw [hview_stamp, hview_stamp]; exact nR _, fun _ => ?_⟩
   rcases zB2 sA.d[k]? with h | ⟨e, t, xs, _, h⟩ <;> rw [h] <;> trivial
  rcases hcase o hlt hc with h | ⟨m, h1, e, t, xs, fr, fr', _, _, h3, _⟩ | ⟨m, h1, e, t, xs, fr, fr', _, _, st, hm, fr0, xs0, h3, h4, h5, _⟩ | ⟨m, cs', h1, _, h2⟩ | ⟨m, st, hm, cs0, cs', h1, _, h2, h3⟩
  ·rw [h]; exact Evo.newer (Nat.lt_succ_self _)
  ·rw [h3, roOf o (.inl (hkk1 o m h1))]; exact Evo.newer (Nat.lt_succ_self _)
  ·rw [h5, hsees.row h3 trivial]
   refine ⟨nR _, fun _ => ⟨⟨st, hm, fr0, e, xs0, rfl, h4⟩, (hmu2 o m h1).2, fun b base cur T _ hh => hstep.sz b cur T hh⟩⟩
  ·rw [h2]; exact Evo.newer (Nat.lt_succ_self _)
  ·rw [h2, h3]; exact ⟨nR _, fun _ => ⟨⟨st, hm, cs0, rfl⟩, (hmu3 o m h1).2⟩⟩
 ·intro o hc hp b base hm
  obtain ⟨m, h1, h2⟩ := hchT o hc hp
  rw [h2] at hm
  obtain ⟨h3, h4⟩ := hwhere b base (hTout _ b base h1 hm)
  exact ⟨h4, h3⟩
 ·intro o hc hp b base hm
  obtain ⟨m, h1, h2⟩ := hchT o hc hp
  have hm' := hm
  rw [h2] at hm
  obtain ⟨h3, h4⟩ := hwhere b base (hTout _ b base h1 hm)
  rcases h3 with h3 | h3
  ·exact .inl (Nat.le_trans hr.frame.size h3)
  ·obtain ⟨i, base', _, hpi, hmi⟩ := hmayB b h3
   have hbl := hr.lt i b base' hpi hmi
   rcases hr.own i b base' hpi hmi with h5 | ⟨h5, _⟩
   ·exact .inl h5
   ·by_cases hlt : o < HP
    case neg =>
     rcases zBm o with h0 | h0 | ⟨k, h0⟩
     ·exact absurd h0 hlt
     ·rw [h0, zBs hs'HP] at hp; exact hp.elim
     ·rw [h0, hdynN]; exact .inr ⟨h5, .inl (hview_weak _)⟩
    rcases hcase o hlt hc with h | ⟨m1, k1, e, t, xs, fr, fr', _, _, k3, k4⟩ | ⟨m1, k1, e, t, xs, fr, fr', _, _, st, hm1, fr0, xs0, k3, k4, k5, k6⟩ | ⟨m1, cs', k1, _, k2⟩ | ⟨m1, st, hm1, cs0, cs', k1, _, k2, k3⟩
    ·rw [h] at hp; exact hp.elim
    ·refine .inr ⟨h5, ?_⟩
     rw [k3]
     have hm1 : m1 = some (b, base) := by rw [<- hmu1 o m1 k1]; exact hm'
     cases fr with
     | false => exact .inl fun hfr => by cases hfr
     | true => exact .inr (Nat.le_trans hBx.1 (k4 rfl b base hm1))
    ·have hpo : yv (s.obj o) := by rw [hsees.row k3 trivial]; trivial
     have hmo : μ o = some (b, base) := by rw [<- (hmu2 o m1 k1).2]; exact hm'
     rcases hr.own o b base hpo hmo with h6 | ⟨h6, h7⟩
     ·exact .inl h6
     ·refine .inr ⟨h6, ?_⟩
      rw [hsees.row k3 trivial] at h7
      rw [k5]
      exact h7.imp (fun h7 hfr => (k6 hfr).elim h7 id) id
    ·exact .inr ⟨h5, .inl (by rw [k2]; trivial)⟩
    ·exact .inr ⟨h5, .inl (by rw [k3]; trivial)⟩
 ·intro o o' b base base' hc hc' hp hp' hm hm'
  obtain ⟨m, h1, h2⟩ := hchT o hc hp
  obtain ⟨m', h3, h4⟩ := hchT o' hc' hp'
  rw [h2] at hm; rw [h4] at hm'
  apply Classical.byContradiction
  intro hne
  exact hTap _ _ b base base' h1 h3 (by intro h; injection h with h _; injection h with h; exact hne h) hm hm'
 ·intro o hc hh
  rcases zBm o with hlt | rfl | ⟨k, rfl⟩
  case inr.inl => rw [zBs hs'HP] at hh; cases hh
  case inr.inr => rw [hdynN, hview_hm] at hh; cases hh
  rcases hcase o hlt hc with h | ⟨m1, k1, e, t, xs, fr, fr', _, _, k3, k4⟩ | ⟨m1, k1, e, t, xs, fr, fr', _, _, st, hm1, fr0, xs0, k3, k4, k5, k6⟩ | ⟨m1, cs', k1, _, k2⟩ | ⟨m1, st, hm1, cs0, cs', k1, _, k2, k3⟩
  ·rw [h] at hh; cases hh
  ·rw [k3] at hh; cases hh
  ·rw [k5] at hh ⊢
   have hob := hsees.row k3 trivial
   have := hr.home o (by rw [hob]; exact hh)
   rw [hob] at this
   exact ⟨(hmu2 o m1 k1).2.trans this.1, by rw [<- this.2]; simp [Obj.shape, k4]⟩
  ·rw [k2] at hh; cases hh
  ·rw [k3] at hh ⊢
   have := hr.home o (by rw [k2]; exact hh)
   rw [k2] at this
   exact ⟨(hmu3 o m1 k1).2.trans this.1, this.2⟩
 ·intro C2 hC2 _
  rw [<- hC'] at hC2
  subst hC2
  refine ⟨fun o hc => ?_, retV_rep w1⟩
  rcases zBm o with hlt | rfl | ⟨k, rfl⟩
  case inr.inl => rw [zBs hs'HP]; trivial
  case inr.inr =>
   rw [hdynN]
   rcases hc with ⟨hlt, _⟩ | ⟨hms, hc⟩
   ·omega
   have hk : md = some true \/ s.d.length <= k := by
    rcases hc with h | ⟨k', h, h2⟩
    ·omega
    ·have : k = k' := by omega
     subst this; exact h2
   have hk2 : md = some true \/ (md = some false /\ s.d.length <= k) := by
    by_cases h1 : md = some true
    ·exact .inl h1
    ·exact .inr ⟨hmdF k hms h1, hk.resolve_left h1⟩
   rw [hrowsN k hk2, hmuD hms]
   rcases zB2 D'[k]? with h | ⟨e, t, xs, h2, h⟩
   ·rw [h]; trivial
   ·rw [h]
    refine hrow_at.2 ?_
    rw [hCw]
    exact hheapR k e t xs h2
  rcases hcase o hlt hc with h | ⟨m1, k1, k2⟩ | ⟨m1, k1, k2⟩ | ⟨m1, cs', k1, k2, _⟩ | ⟨m1, st, hm1, cs0, cs', k1, k2, _, k3⟩
  ·rw [h]; trivial
  ·rw [hmu1 o m1 k1]; exact hrowK k2
  ·rw [(hmu2 o m1 k1).1]; exact hrowK k2
  ·rw [hmu0 o m1 k1]; exact k2
  ·rw [(hmu3 o m1 k1).1]; exact k2
 ·rw [hs'd]
  cases hms : md.isSome with
  | false =>
   have hmn : md = none := by
    cases hm2 : md with
    | none => rfl
    | some f => rw [hm2] at hms; cases hms
   rw [hs1d.1, hmn]; exact nR _
  | true =>
   rw [hdynLen hms, <- hDcLen hms]
   exact hlenD (by rw [hfhp]; exact hms)
end Go.Kb
/- From a row's arguments to data, and back. -/
namespace Go.Kb
open Go.ChangeShapes Go.WideShapes Go.ChangeAt Go.RowKit Go.Deep
def fieldsOk (P : Program) (ok : TypeId -> Ty -> Bool) : List Field -> Ty -> Nat -> Bool
 | [f], t, off => f.offset == off && (P.cellsOf f.type == t.sz && ok f.type t)
 | f :: fs, .pair a b, off => f.offset == off && (P.cellsOf f.type == a.sz && (ok f.type a && fieldsOk P ok fs b (off + a.sz)))
 | _, _, _ => false
def tyOk (P : Program) : Nat -> TypeId -> Ty -> Bool
 | 0, _, _ => false
 | n + 1, T, t => match P.underlying T with
  | some .bool => match t with
   | .bool => true
   | _ => false
  | some (.int k) => match t with
   | .int j => Nat.beq (IntKind.code k) (IntKind.code j)
   | _ => false
  | some .string => match t with
   | .str => true
   | _ => false
  | some (.slice e) => match t with
   | .list u => (P.cellsOf e == u.sz) && (Nat.blt 0 u.sz && tyOk P n e u)
   | _ => false
  | some (.struct fs) => (P.cellsOf T == t.sz) && fieldsOk P (tyOk P n) fs.toList t 0
  | _ => false
def Wf : (t : Ty) -> t.den -> Prop
 | .int k, n => (Lit.int k n).wf = true
 | .bool, _ => True
 | .str, s => s.length <= maxLen
 | .unit, _ => True
 | .pair a b, x => Wf a x.1 /\ Wf b x.2
 | .list t, xs => xs.length <= maxLen /\ ∀ x ∈ xs, Wf t x
 | .hnd _, _ => True
theorem list_choice {α : Type} {Q : Nat -> α -> Prop} : ∀ (n : Nat), (∀ i, i < n -> ∃ x, Q i x) -> ∃ xs : List α, xs.length = n /\ ∀ i x, xs[i]? = some x -> Q i x
 | 0, _ => ⟨[], rfl, fun i x h => by simp at h⟩
 | n + 1, h => by
  obtain ⟨xs, h1, h2⟩ := list_choice n fun i hi => h i (by omega)
  obtain ⟨x, hx⟩ := h n (by omega)
  refine ⟨xs ++ [x], by simp [h1], fun i y hy => ?_⟩
  rw [List.getElem?_append] at hy
  split at hy
  ·exact h2 i y hy
  ·rename_i hi
   have : i = n := by
    have := (List.getElem?_eq_some_iff.1 hy).1
    simp at this; omega
   subst this
   simp [h1] at hy
   subst hy
   exact hx
section
variable {H : Type} {enc : TypeId × Value -> H} {P : Program} {w : World} {base : Nat} {sp : Nat -> Bool} {held : Bool}
theorem fields_den {ok : TypeId -> Ty -> Bool} {Q : TypeId -> List Value -> Prop} (hok : ∀ T t cs, ok T t = true -> Q T cs -> ∃ d : t.den, yk w (fun _ => False) (fun _ => none) 0 t d cs /\ Wf t d) :
  ∀ {fs : List Field} {t : Ty} {off : Nat} {cs : List Value}, fieldsOk P ok fs t off = true -> (∀ (i : Nat) (f : Field), fs[i]? = some f -> Q f.type ((cs.drop f.offset).take (P.cellsOf f.type))) ->
   ∃ d : t.den, yk w (fun _ => False) (fun _ => none) 0 t d ((cs.drop off).take t.sz) /\ Wf t d := by
 intro fs
 induction fs with
 | nil => intro t off cs h; cases t <;> simp [fieldsOk] at h
 | cons f fs ih =>
  intro t off cs h hq
  have one : (f.offset == off && (P.cellsOf f.type == t.sz && ok f.type t)) = true -> ∃ d : t.den, yk w (fun _ => False) (fun _ => none) 0 t d ((cs.drop off).take t.sz) /\ Wf t d := by
   intro h
   simp only [bA, beq_iff_eq] at h
   obtain ⟨h1, h2, h3⟩ := h
   have := hq 0 f rfl
   rw [h1, h2] at this
   exact hok _ _ _ h3 this
  cases fs with
  | nil =>
   cases t <;> exact one h
  | cons f2 fs =>
   cases t with
   | pair a b =>
    simp only [fieldsOk, bA, beq_iff_eq] at h
    obtain ⟨h1, h2, h3, h4⟩ := h
    have hq0 := hq 0 f rfl
    rw [h1, h2] at hq0
    obtain ⟨d, hd, hw⟩ := hok _ _ _ h3 hq0
    obtain ⟨d2, hd2, hw2⟩ := ih h4 fun i g hg => hq (i + 1) g (by simpa using hg)
    refine ⟨(d, d2), ⟨_, _, ?_, hd, hd2⟩, hw, hw2⟩
    simp only [Ty.sz]
    rw [List.take_add, List.drop_drop]
   | _ => simp [fieldsOk] at h
theorem den_of_trod : ∀ (n : Nat) (T : TypeId) (t : Ty) (cs : List Value) (fuel : Nat) (x : DataW H × List MemPlace), tyOk P n T t = true -> DataW.trod enc P w base sp held fuel T cs = some x ->
  ∃ d : t.den, yk w (fun _ => False) (fun _ => none) 0 t d cs /\ Wf t d := by
 intro n
 induction n with
 | zero => intro T t cs fuel x h; cases h
 | succ n ih =>
  intro T t cs fuel x h hx
  unfold tyOk at h
  split at h
  ·rename_i hT
   split at h <;> try (cases h; done)
   obtain ⟨b, rfl, _⟩ := DataW.trod_bool hT hx
   exact ⟨b, rfl, trivial⟩
  ·rename_i k hT
   split at h <;> try (cases h; done)
   rename_i j
   have := IntKind.code_inj (eB h)
   subst this
   obtain ⟨m, rfl, _, hw⟩ := DataW.trod_int hT hx
   exact ⟨m, rfl, hw⟩
  ·rename_i hT
   split at h <;> try (cases h; done)
   obtain ⟨s, rfl, _, hw⟩ := DataW.trod_string hT hx
   exact ⟨s.data.toList, ⟨s, rfl, rfl⟩, by show s.data.toList.length <= maxLen; rw [Array.length_toList]; exact hw⟩
  ·rename_i e hT
   split at h <;> try (cases h; done)
   rename_i u
   simp only [bA, beq_iff_eq] at h
   obtain ⟨h1, h2, h3⟩ := h
   have h2 : 0 < u.sz := by simpa using h2
   rcases open_slice hT hx with ⟨rfl, _⟩ | ⟨a, len, cap, m, k, D, Pl, rfl, _, hle, hcap, hm, _, hel⟩
   ·exact ⟨([] : List u.den), nil_den _ _ _ _ u, ⟨Nat.zero_le _, fun x hx => by cases hx⟩⟩
   ·have hlm : len <= m := by rw [hm]; split <;> omega
    obtain ⟨xs, hxl, hxs⟩ := list_choice (Q := fun i (d : u.den) => ∃ us : List Value, us.length = u.sz /\ (∀ j v, us[j]? = some v -> w.cell? (a.add (i * u.sz + j)) = some v) /\ yk w (fun _ => False) (fun _ => none) 0 u d us /\ Wf u d) len (by
     intro i hi
     obtain ⟨cs', hc, ht⟩ := hel i (by omega)
     obtain ⟨d, hd, hw⟩ := ih e u cs' k _ h3 ht
     rw [h1] at hc
     obtain ⟨_, hl, hget⟩ := World.cells?_some hc
     refine ⟨d, cs', hl, fun j v hv => ?_, hd, hw⟩
     have hj : j < u.sz := by rw [<- hl]; exact (List.getElem?_eq_some_iff.1 hv).1
     have := hget j hj
     rw [add_add', hv] at this
     exact this)
    refine ⟨xs, ⟨some a, cap, by rw [hxl], by rw [hxl]; exact hle, ?_, fun i x hx => ?_⟩, ⟨by rw [hxl]; omega, fun x hx => ?_⟩⟩
    ·cases xs with
     | nil => exact .inl rfl
     | cons x r =>
      right
      obtain ⟨us, g1, g2, _, _⟩ := hxs 0 x rfl
      have hu : us[0]? = some (us[0]'(by omega)) := List.getElem?_eq_getElem (by omega)
      have hc := g2 0 _ hu
      rw [Nat.zero_mul, Nat.add_zero, add_zero'] at hc
      exact ⟨a, rfl, Nat.zero_le _, World.block_lt_of_cell? w a hc, id⟩
    ·obtain ⟨us, g1, g2, g3, _⟩ := hxs i x hx
     exact ⟨a, us, rfl, g1, g2, g3⟩
    ·obtain ⟨i, hi, rfl⟩ := List.getElem_of_mem hx
     obtain ⟨_, _, _, _, g4⟩ := hxs i _ (List.getElem?_eq_getElem hi)
     exact g4
  ·rename_i fs hT
   rw [bA, beq_iff_eq] at h
   obtain ⟨h1, h2⟩ := h
   obtain ⟨xs, k, _, _, hl, hxl, hf⟩ := DataW.trod_struct hT hx
   obtain ⟨d, hd, hw⟩ := fields_den (P := P) (w := w) (ok := tyOk P n) (Q := fun T cs => ∃ y, DataW.trod enc P w base sp held k T cs = some y) (cs := cs) (fun T t cs h1 h2 => by
    obtain ⟨y, hy⟩ := h2
    exact ih T t cs k y h1 hy) h2 (fun i f hfi => by
    have hi : i < fs.size := by
     have := (List.getElem?_eq_some_iff.1 hfi).1
     simpa using this
    have := hf i f (by rw [<- Array.getElem?_toList]; exact hfi)
    rw [this]
    exact ⟨_, List.getElem?_eq_getElem (by omega)⟩)
   refine ⟨d, ?_, hw⟩
   rw [List.drop_zero, List.take_of_length_le (by omega)] at hd
   exact hd
  ·cases h
theorem arg_shape {r : Reach} {b0 n : Nat} {T : TypeId} {t : Ty} {v : Value} (h : tyOk P n T t = true) (hval : Value.okWide P w r b0 T v) :
  (∃ fs, P.underlying T = some (.struct fs) /\ ∃ us : List Value, v = .agg us.toArray) \/ (aggOf P T = some false /\ v.cells.toList = [v]) := by
 cases n with
 | zero => cases h
 | succ n =>
  unfold tyOk at h
  unfold Value.okWide at hval
  split at h
  ·rename_i hT
   right
   rw [hT] at hval
   refine ⟨by unfold aggOf; rw [hT], ?_⟩
   simp only [Cell.okWide, Cell.ok, hT] at hval
   cases v <;> first | rfl | exact hval.elim
  ·rename_i k hT
   right
   rw [hT] at hval
   refine ⟨by unfold aggOf; rw [hT], ?_⟩
   simp only [Cell.okWide, Cell.ok, hT] at hval
   cases v <;> first | rfl | exact hval.elim
  ·rename_i hT
   right
   rw [hT] at hval
   refine ⟨by unfold aggOf; rw [hT], ?_⟩
   simp only [Cell.okWide, Cell.ok, hT] at hval
   cases v <;> first | rfl | exact hval.elim
  ·rename_i e hT
   right
   rw [hT] at hval
   refine ⟨by unfold aggOf; rw [hT], ?_⟩
   simp only [Cell.okWide, Cell.ok, hT] at hval
   cases v <;> first | rfl | exact hval.elim
  ·rename_i fs hT
   left
   rw [hT] at hval
   obtain ⟨cs, rfl, _⟩ := hval
   exact ⟨fs, hT, cs.toList, by simp⟩
  ·cases h
def zBr (P : Program) : List TypeId -> List FPar -> List (Option (Nat × Nat)) -> Ty -> Bool
 | [], [], [], .unit => true
 | [T], [.val g n], rows, t => tyOk P 40 T t && ((match aggOf P T with | some g' => g == g' | none => false) && (Nat.beq n t.sz && (Nat.beq rows.length t.sz && rows.all (·.isNone))))
 | T :: Ts, .val g n :: ps, rows, .pair a b => tyOk P 40 T a && ((match aggOf P T with | some g' => g == g' | none => false) && (Nat.beq n a.sz && (Nat.ble a.sz rows.length && ((rows.take a.sz).all (·.isNone) && zBr P Ts ps (rows.drop a.sz) b))))
 | _, _, _, _ => false
theorem inR_flat {tm : Nat -> TypeId} {B : Nat} {home : Nat -> Option (Nat × Nat)} {shape : Nat -> Option (Nat × Ty × Nat)} : ∀ {rows rows2 : List (Option (Nat × Nat))} {t : Ty} {d : t.den} {vs vs2 : List Value} {cs2 : List Cell}, rows.all (·.isNone) = true -> rows.length = t.sz ->
  yk w (fun _ => False) (fun _ => none) 0 t d vs -> InR tm w (fun _ => False) (fun _ => none) B home shape rows2 cs2 vs2 -> InR tm w (fun _ => False) (fun _ => none) B home shape (rows ++ rows2) (t.cells false d ++ cs2) (vs ++ vs2) := by
 have one : ∀ {rows rows2 : List (Option (Nat × Nat))} {c : Cell} {v : Value} {cs2 : List Cell} {vs2 : List Value}, rows.all (·.isNone) = true -> rows.length = 1 -> zBV w (fun _ => False) (fun _ => none) B c v -> InR tm w (fun _ => False) (fun _ => none) B home shape rows2 cs2 vs2 ->
   InR tm w (fun _ => False) (fun _ => none) B home shape (rows ++ rows2) ([c] ++ cs2) ([v] ++ vs2) := by
  intro rows rows2 c v cs2 vs2 h1 h2 h3 h4
  match rows, h2 with
  | [none], _ => exact ⟨h3, h4⟩
  | [some _], _ => simp at h1
 intro rows rows2 t
 induction t generalizing rows rows2 with
 | int k => intro d vs vs2 cs2 h1 h2 h3 h4; subst h3; exact one h1 h2 rfl h4
 | bool => intro d vs vs2 cs2 h1 h2 h3 h4; subst h3; exact one h1 h2 rfl h4
 | str => intro d vs vs2 cs2 h1 h2 h3 h4; obtain ⟨b, rfl, hb⟩ := h3; exact one h1 h2 ⟨b, rfl, hb⟩ h4
 | unit =>
  intro d vs vs2 cs2 h1 h2 h3 h4
  subst h3
  have : rows = [] := List.eq_nil_of_length_eq_zero h2
  subst this
  exact h4
 | pair a b iha ihb =>
  intro d vs vs2 cs2 h1 h2 h3 h4
  obtain ⟨p, q, rfl, hp, hq⟩ := h3
  simp only [Ty.sz] at h2
  have e : rows = rows.take a.sz ++ rows.drop a.sz := (List.take_append_drop _ _).symm
  rw [e] at h1 ⊢
  rw [List.all_append, bA] at h1
  simp only [Ty.cells, List.append_assoc]
  exact iha h1.1 (by simp; omega) hp (ihb h1.2 (by simp; omega) hq h4)
 | list t _ =>
  intro d vs vs2 cs2 h1 h2 h3 h4
  have h3' := h3
  obtain ⟨a, cap, rfl, _⟩ := h3
  exact one h1 h2 (show yk w (fun _ => False) (fun _ => none) 0 (.list t) d _ from h3') h4
 | hnd t _ =>
  intro d vs vs2 cs2 h1 h2 h3 h4
  have h3' := h3
  obtain ⟨a, n, c, rfl⟩ := hnd_slice h3
  exact one h1 h2 (show yk w (fun _ => False) (fun _ => none) 0 (.hnd t) d _ from h3') h4
theorem root_in {tm : Nat -> TypeId} {B : Nat} {home : Nat -> Option (Nat × Nat)} {shape : Nat -> Option (Nat × Ty × Nat)} {r : Reach} {b0 : Nat} : ∀ {Ts : List TypeId} {ps : List FPar} {rows : List (Option (Nat × Nat))} {t : Ty} {vs : List Value} {ds : List (DataW H)} {places : List MemPlace},
  zBr P Ts ps rows t = true -> (∀ (j : Nat) (T : TypeId) (v : Value), Ts[j]? = some T -> vs[j]? = some v -> Value.okWide P w r b0 T v) -> DataW.TrodAll enc P w base sp held Ts vs ds places ->
  ∃ (d : t.den) (raw : List Value), Wf t d /\ ParsR w home ps vs raw /\ InR tm w (fun _ => False) (fun _ => none) B home shape rows (t.cells false d) raw := by
 have one : ∀ {T : TypeId} {g : Bool} {n : Nat} {t : Ty} {v : Value} {d0 : DataW H} {p : List MemPlace}, tyOk P 40 T t = true -> (match aggOf P T with | some g' => g == g' | none => false) = true -> Nat.beq n t.sz = true -> Value.okWide P w r b0 T v -> DataW.Trod enc P w base sp held T v d0 p ->
   ∃ (d : t.den) (us : List Value), Wf t d /\ yk w (fun _ => False) (fun _ => none) 0 t d us /\ us.length = n /\ match g with | true => v = .agg us.toArray | false => n = 1 /\ us = [v] := by
  intro T g n t v d0 p h1 h2 h3 h4 h5
  obtain ⟨fuel, h5⟩ := h5
  obtain ⟨d, hd, hw⟩ := den_of_trod 40 T t _ fuel _ h1 h5
  have hl := hd.len
  have hn := eB h3
  subst hn
  rcases arg_shape h1 h4 with ⟨fs, hT, us, rfl⟩ | ⟨ha, hc⟩
  ·have ha : aggOf P T = some true := by unfold aggOf; rw [hT]
   rw [ha] at h2
   have : g = true := by simpa using h2
   subst this
   exact ⟨d, us, hw, by simpa [Value.cells] using hd, by simpa [Value.cells] using hl, rfl⟩
  ·rw [ha] at h2
   have : g = false := by simpa using h2
   subst this
   rw [hc] at hd hl
   exact ⟨d, [v], hw, hd, hl, by simpa using hl.symm, rfl⟩
 intro Ts
 induction Ts with
 | nil =>
  intro ps rows t vs ds places h hval ht
  cases ps <;> cases rows <;> cases t <;> simp [zBr] at h
  cases vs with
  | cons _ _ => cases ds <;> exact ht.elim
  | nil => exact ⟨(), [], trivial, rfl, trivial⟩
 | cons T Ts ih =>
  intro ps rows t vs ds places h hval ht
  cases vs with
  | nil => cases ds <;> exact ht.elim
  | cons v vs =>
   cases ds with
   | nil => exact ht.elim
   | cons d0 ds =>
    obtain ⟨p, q, ht1, ht2, _⟩ := ht
    have hv0 := hval 0 T v rfl rfl
    cases ps with
    | nil => cases Ts <;> simp [zBr] at h
    | cons fp ps =>
     cases fp with
     | box _ _ => cases Ts <;> cases ps <;> simp [zBr] at h
     | val g n =>
      have last : Ts = [] -> ps = [] -> (tyOk P 40 T t && ((match aggOf P T with | some g' => g == g' | none => false) && (Nat.beq n t.sz && (Nat.beq rows.length t.sz && rows.all (·.isNone))))) = true ->
        ∃ (d : t.den) (raw : List Value), Wf t d /\ ParsR w home (.val g n :: ps) (v :: vs) raw /\ InR tm w (fun _ => False) (fun _ => none) B home shape rows (t.cells false d) raw := by
       intro e1 e2 hh
       subst e1; subst e2
       cases vs with
       | cons _ _ => cases ds <;> exact ht2.elim
       | nil =>
        simp only [bA] at hh
        obtain ⟨h1, h2, h3, h4, h5⟩ := hh
        obtain ⟨d, us, w1, w2, w3, w4⟩ := one h1 h2 h3 hv0 ht1
        have := inR_flat (tm := tm) (B := B) (home := home) (shape := shape) (rows2 := []) (vs2 := []) (cs2 := []) h5 (eB h4) w2 trivial
        simp only [List.append_nil] at this
        refine ⟨d, us, w1, ?_, this⟩
        cases g with
        | true => exact ⟨us, [], w4, w3, by simp, rfl⟩
        | false => obtain ⟨w5, rfl⟩ := w4; exact ⟨[], w5, rfl, rfl⟩
      have more : ∀ (a b : Ty), t = .pair a b -> (tyOk P 40 T a && ((match aggOf P T with | some g' => g == g' | none => false) && (Nat.beq n a.sz && (Nat.ble a.sz rows.length && ((rows.take a.sz).all (·.isNone) && zBr P Ts ps (rows.drop a.sz) b))))) = true ->
        ∃ (d : t.den) (raw : List Value), Wf t d /\ ParsR w home (.val g n :: ps) (v :: vs) raw /\ InR tm w (fun _ => False) (fun _ => none) B home shape rows (t.cells false d) raw := by
       intro a b e hh
       subst e
       simp only [bA] at hh
       obtain ⟨h1, h2, h3, h4, h5, h6⟩ := hh
       obtain ⟨d, us, w1, w2, w3, w4⟩ := one h1 h2 h3 hv0 ht1
       obtain ⟨d2, raw2, x1, x2, x3⟩ := ih h6 (fun j T v hT hv => hval (j + 1) T v (by simpa using hT) (by simpa using hv)) ht2
       have h4 := Nat.le_of_ble_eq_true h4
       have := inR_flat (tm := tm) (B := B) (home := home) (shape := shape) h5 (by simp; omega) w2 x3
       rw [List.take_append_drop] at this
       refine ⟨(d, d2), us ++ raw2, ⟨w1, x1⟩, ?_, this⟩
       cases g with
       | true => exact ⟨us, raw2, w4, w3, rfl, x2⟩
       | false => obtain ⟨w5, rfl⟩ := w4; exact ⟨raw2, w5, rfl, x2⟩
      cases Ts with
      | nil =>
       cases ps with
       | nil =>
        cases t with
        | pair a b =>
         simp only [zBr] at h
         exact last rfl rfl h
        | _ => exact last rfl rfl h
       | cons p2 ps =>
        cases t with
        | pair a b => simp only [zBr] at h; exact more a b rfl h
        | _ => simp [zBr] at h
      | cons T2 Ts =>
       cases t with
       | pair a b =>
        (cases ps with
        | nil => simp [zBr] at h
        | cons _ _ => simp only [zBr] at h; exact more a b rfl h)
       | _ => cases ps <;> simp [zBr] at h
theorem root_calls {P : Program} {tm : Nat -> TypeId} {GB : Nat -> Prop} {QW : World -> Prop} {fid : FuncId} {g : Sig} {A : Ty} {fr : Bool} {G : Nat -> A.den -> Option Bool} (hGB : ∀ b, GB b -> b < w.heap.size) (hQW : QW w) (hs : ∀ N, Sound P tm GB QW fid g { arg := A, ret := .bool, fresh := fr, F := G N, keep := false }) {r : Reach} {b0 : Nat} {Ts : List TypeId} {args : Array Value} {ds : List (DataW H)} {places : List MemPlace}
  (hok : zBr P Ts g.pars g.rowsIn A = true) (hrets : g.rets = [.val false 1]) (houts : g.outs = [.imm])
  (hval : ∀ (j : Nat) (T : TypeId) (v : Value), Ts[j]? = some T -> args[j]? = some v -> Value.okWide P w r b0 T v) (ht : DataW.TrodAll enc P w base sp held Ts args.toList ds places)
  (hF : ∀ x, Wf A x -> ∃ N, G N x = some true) :
  Calls P fid args w fun e w' => e = .returned (.bool true) /\ Below w.heap.size w w' := by
 have hin : g.inObjs = [] := by
  have key : ∀ (Ts : List TypeId) (ps : List FPar) (rows : List (Option (Nat × Nat))) (t : Ty), zBr P Ts ps rows t = true -> zBI ps = [] /\ zAb rows = [] := by
   have none_rows : ∀ (rows : List (Option (Nat × Nat))), rows.all (·.isNone) = true -> zAb rows = [] := by
    intro rows
    induction rows with
    | nil => intro _; rfl
    | cons k r ih =>
     intro h
     cases k with
     | none => simp at h; exact ih (by simpa using h)
     | some _ => simp at h
   have app_rows : ∀ (a b : List (Option (Nat × Nat))), zAb (a ++ b) = zAb a ++ zAb b := by
    intro a b
    induction a with
    | nil => rfl
    | cons k r ih => cases k <;> simp [zAb, ih]
   intro Ts
   induction Ts with
   | nil => intro ps rows t h; cases ps <;> cases rows <;> cases t <;> simp [zBr] at h; exact ⟨rfl, rfl⟩
   | cons T Ts ih =>
    intro ps rows t h
    cases ps with
    | nil => cases Ts <;> simp [zBr] at h
    | cons fp ps =>
     cases fp with
     | box _ _ => cases Ts <;> cases ps <;> simp [zBr] at h
     | val gg n =>
      have more : ∀ (a b : Ty), t = .pair a b -> (tyOk P 40 T a && ((match aggOf P T with | some g' => gg == g' | none => false) && (Nat.beq n a.sz && (Nat.ble a.sz rows.length && ((rows.take a.sz).all (·.isNone) && zBr P Ts ps (rows.drop a.sz) b))))) = true ->
        zBI (FPar.val gg n :: ps) = [] /\ zAb rows = [] := by
       intro a b e hh
       simp only [bA] at hh
       obtain ⟨h1, h2⟩ := ih _ _ _ hh.2.2.2.2.2
       refine ⟨h1, ?_⟩
       rw [<- List.take_append_drop a.sz rows, app_rows, none_rows _ hh.2.2.2.2.1, h2]
       rfl
      have last : ps = [] -> rows.all (·.isNone) = true -> zBI (FPar.val gg n :: ps) = [] /\ zAb rows = [] := by
       intro e hh; subst e; exact ⟨rfl, none_rows _ hh⟩
      cases Ts with
      | nil =>
       cases ps with
       | nil =>
        cases t with
        | pair a b => simp only [zBr, bA] at h; exact last rfl h.2.2.2.2
        | _ => simp only [zBr, bA] at h; exact last rfl h.2.2.2.2
       | cons p2 ps =>
        cases t with
        | pair a b => simp only [zBr] at h; exact more a b rfl h
        | _ => simp [zBr] at h
      | cons T2 Ts =>
       cases t with
       | pair a b => (cases ps with
        | nil => simp [zBr] at h
        | cons _ _ => simp only [zBr] at h; exact more a b rfl h)
       | _ => cases ps <;> simp [zBr] at h
  obtain ⟨h1, h2⟩ := key _ _ _ _ hok
  simp [Sig.inObjs, h1, h2]
 have hnb : ∀ b, ¬ g.inBlocks (fun _ => none) b := by
  rintro b ⟨o, base, h, _⟩
  rw [hin] at h; cases h
 obtain ⟨d, raw, hw, hp, hi⟩ := root_in (tm := tm) (B := w.heap.size) (home := fun _ => none) (shape := fun _ => none) hok (fun j T v hT hv => hval j T v hT (by simpa using hv)) ht
 have hnm : ∀ b, ¬ g.mayW (fun _ => none) [] b := by
  rintro b (h | ⟨k, base, h, _⟩)
  ·exact hnb b h
  ·cases h
 have hi' : InR tm w (fun b => False \/ g.mayW (fun _ => none) [] b) (dlOf ([] : List HRow).length (fun _ => none)) w.heap.size (fun _ => none) (fun _ => none) g.rowsIn (A.cells false d) raw := by
  have e : (fun b => False \/ g.mayW (fun _ => none) [] b) = fun _ => False := by
   funext b; simp [hnm b]
  have e2 : dlOf ([] : List HRow).length (fun _ => none) = fun _ => none := by
   funext k; simp [dlOf]
  rw [e, e2]; exact hi
 obtain ⟨N, hN⟩ := hF d hw
 have := (hs N).2 w w.heap.size (fun _ => False) (fun _ => none) (fun _ => none) args.toList raw [] d _ [] (fun b hb => ⟨hGB b hb, hnm b⟩) hQW (nR _) (fun _ => rfl) (fun h => by cases h) (fun b h => h.elim) (fun o o' b base base' _ _ h => by cases h) (fun o b base _ h => by cases h) ⟨fun _ => rfl, (fun k e t xs h => by simp at h), (fun b hb => by obtain ⟨k, base, h, _⟩ := hb; cases h), fun k k' b base base' h => by cases h⟩ hp hi' ⟨hN, rfl⟩
 rw [Array.toArray_toList] at this
 refine this.mono ?_
 rintro e w' ⟨v, rfl, hstep, vals, rawA, rawB, bs, ms, hd, rfl, hr, hb, _, ho, _⟩
 refine ⟨?_, hstep.os, hstep.tape, hstep.output, hstep.size, fun k hk => hstep.block k hk (hnm k)⟩
 rw [hrets] at hr
 rw [houts] at ho
 match vals, hr with
 | v :: vs, hr =>
  obtain ⟨rest, _, hra, hr⟩ := hr
  cases vs with
  | cons _ _ => cases rest <;> exact hr.elim
  | nil =>
   obtain ⟨hrest, _⟩ := hr
   subst hrest; subst hra
   have ho1 : v = .bool true := ho.1
   rw [ho1]; rfl
 | [], hr => exact hr.elim
end
end Go.Kb
/- Functions of a program, one by one. -/
namespace Go.Kb
def natTbl : List (Nat × Nat) -> Nat -> Nat
 | [], _ => 0
 | (m, k) :: r, n => match Nat.beq n m with
  | true => k
  | false => natTbl r n
def sgTbl : List (Nat × (Sig × Bool)) -> Nat -> Option (Sig × Bool)
 | [], _ => none
 | (m, x) :: r, n => match Nat.beq n m with
  | true => some x
  | false => sgTbl r n
def mkE (P : Program) (G : Nat -> Prop) (Q : World -> Prop) (tm fm : List (Nat × Nat)) (l : List (Nat × (Sig × Bool))) : Env1 := { P := P, tm := natTbl tm, fm := natTbl fm, eqT := eqTB P, sg := sgTbl l, G := G, Q := Q }
section
variable {P : Program} {G : Nat -> Prop} {Q : World -> Prop} {tm fm : List (Nat × Nat)}
theorem zD : Known (mkE P G Q tm fm []) (tbl [] noFS) := fun n g fresh h => by cases h
theorem known_cons {n : Nat} {g : Sig} {fr : Bool} {f : FS} {l : List (Nat × (Sig × Bool))} {r : List (Nat × FS)} {fid : FuncId} (hid : natTbl fm n = fid) (hs : Sound P (natTbl tm) G Q fid g f) (hf : (f.fresh && !f.keep) = fr) (hk : Known (mkE P G Q tm fm l) (tbl r noFS)) :
  Known (mkE P G Q tm fm ((n, (g, fr)) :: l)) (tbl ((n, f) :: r) noFS) := by
 intro m g' fresh h
 simp only [mkE, sgTbl] at h
 simp only [tbl]
 cases hb : Nat.beq m n with
 | true =>
  rw [hb] at h
  simp only [] at h
  injection h with h; injection h with h1 h2; subst h1; subst h2
  have := eB hb
  subst this
  subst hid
  exact ⟨hs, hf⟩
 | false =>
  rw [hb] at h
  exact hk m g' fresh h
theorem zM {l : List (Nat × (Sig × Bool))} {r : List (Nat × FS)} {fid : FuncId} {x : XFunc} (N : Nat) (hk : Known (mkE P G Q tm fm l) (tbl r noFS)) (hQs : ∀ w w' : World, (∀ b, G b -> w'.heap[b]? = w.heap[b]?) -> Q w -> Q w') (hmix : P.follows .mixedOrders = true) (hok : zw (mkE P G Q tm fm l) fid x = true) (hp : x.hp = false := by rfl) :
  Sound P (natTbl tm) G Q fid x.sig { arg := x.arg, ret := x.ret, fresh := x.fresh, F := fun y => x.run (envOf (tbl r noFS)) N y, keep := x.keep } :=
 func_sound (E := mkE P G Q tm fm l) N (fun _ _ h => h) (fun _ h1 h2 => call_does hk hQs h1 h2) hmix hp hok
theorem zBH {l : List (Nat × (Sig × Bool))} {r : List (Nat × FS)} {fid : FuncId} {x : XFunc} (N : Nat) (hk : Known (mkE P G Q tm fm l) (tbl r noFS)) (hQs : ∀ w w' : World, (∀ b, G b -> w'.heap[b]? = w.heap[b]?) -> Q w -> Q w') (hmix : P.follows .mixedOrders = true) (hok : zw (mkE P G Q tm fm l) fid x = true) (hp : x.hp = true := by rfl) :
  Sound P (natTbl tm) G Q fid x.sig { arg := x.arg, ret := x.ret, fresh := x.fresh, F := fun _ => none, keep := x.keep, hp := true, H := fun y D => x.runH (envOf (tbl r noFS)) N y D } :=
 func_soundH (E := mkE P G Q tm fm l) N (fun _ _ h => h) (fun _ h1 h2 => call_does hk hQs h1 h2) hmix hp hok
end
end Go.Kb
/- A law's row. -/
namespace Go.Kb
open Go.ChangeShapes Go.WideShapes Go.ChangeAt Go.RowKit
section
variable {H : Type} {enc : TypeId × Value -> H} {P : Program}
def readB (P : Program) : List TypeId -> Bool
 | [] => true
 | t :: r => P.readableRec t && (decide (t < P.types.size) && readB P r)
theorem trodAll_stays (hl : laidOutB P = true) {W W' : World} {sp : Nat -> Bool} (hb : Below W.heap.size W W') : ∀ {Ts : List TypeId} {vs : List Value} {ds : List (DataW H)} {ps : List MemPlace}, readB P Ts = true ->
  DataW.TrodAll enc P W 0 (fun _ => true) true Ts vs ds ps -> (∀ p ∈ ps, p.block < W.heap.size) -> (∀ p ∈ ps, sp p.block = true) -> DataW.TrodAll enc P W' 0 sp true Ts vs ds ps
 | [], [], [], _, _, h, _, _ => h
 | T :: Ts, v :: vs, d :: ds, ps, hr, h, hlt, hs => by
  simp only [readB, bA, decide_eq_true_eq] at hr
  obtain ⟨p, q, h1, h2, rfl⟩ := h
  refine ⟨p, q, WideElems.Trod_stays hl hr.1 hr.2.1 h1 (fun x hx => hb.same (hlt x (List.mem_append.2 (.inl hx)))) (fun x hx => hs x (List.mem_append.2 (.inl hx))), ?_, rfl⟩
  exact trodAll_stays hl hb hr.2.2 h2 (fun x hx => hlt x (List.mem_append.2 (.inr hx))) (fun x hx => hs x (List.mem_append.2 (.inr hx)))
 | [], _ :: _, _, _, _, h, _, _ => by cases h
 | [], [], _ :: _, _, _, h, _, _ => by cases h
 | _ :: _, [], _, _, _, h, _, _ => by cases h
 | _ :: _, _ :: _, [], _, _, h, _, _ => by cases h
theorem trodAll_len {W : World} {base : Nat} {sp : Nat -> Bool} {held : Bool} : ∀ {Ts : List TypeId} {vs : List Value} {ds : List (DataW H)} {ps : List MemPlace}, DataW.TrodAll enc P W base sp held Ts vs ds ps -> ds.length = Ts.length
 | [], [], [], _, _ => rfl
 | _ :: _, _ :: _, _ :: _, _, ⟨_, _, _, h, _⟩ => by simp [trodAll_len h]
 | [], _ :: _, _, _, h => by cases h
 | [], [], _ :: _, _, h => by cases h
 | _ :: _, [], _, _, h => by cases h
 | _ :: _, _ :: _, [], _, h => by cases h
theorem law_post {f : Func} {s : ChangeSpec} {W W' : World} {args : Array Value} {ds gs : List (DataW H)} {before : List MemPlace} {T : TypeId}
  (hW : DataW.Whole enc P f.params.toList s.vars false W args.toList ds gs before) (hv : s.vars = []) (hfn : s.fn H (ds ++ gs) = { results := [.lit (.bool true)], args := ds })
  (hrt : f.resultTypes = #[T]) (hT : P.underlying T = some .bool) (hl : laidOutB P = true) (hr : readB P f.params.toList = true) (hb : Below W.heap.size W W') :
  s.post enc P f false true false false W args (.bool true) W' := by
 have hlt : ∀ p ∈ before, p.block < W.heap.size := fun p hp => hW.lt p hp
 obtain ⟨p, q, hA, hV, he, _, _⟩ := hW
 have hW : DataW.Whole enc P f.params.toList s.vars false W args.toList ds gs before := ⟨p, q, hA, hV, he, by assumption, by assumption⟩
 have hq : q = [] := by
  rw [hv] at hV
  cases gs with
  | nil => exact hV
  | cons _ _ => exact hV.elim
 subst hq
 rw [List.append_nil] at he
 subst he
 refine ⟨ds, gs, before, [], before, [], hW, ?_, ?_, ?_, ?_, fun h => by cases h⟩
 ·rw [hfn, hrt]
  exact trodAll_mk1 ⟨1, by simp [DataW.trod, Value.cells, hT]⟩
 ·rw [hfn]
  exact trodAll_stays hl hb hr hA hlt (fun x hx => by simpa using hlt x hx)
 ·rw [hfn, hv]
  exact rfl
 ·exact World.keptBut_mono (fun p hp => ⟨hp, .inr (.inl hp)⟩) (hb.frame (· ∈ before))
end
end Go.Kb
