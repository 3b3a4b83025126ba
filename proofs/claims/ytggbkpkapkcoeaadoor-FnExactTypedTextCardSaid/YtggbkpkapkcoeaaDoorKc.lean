/- The abstract machine: code, functions and calls are sound; the entry from a row. -/
import Derived.Test.YtggbkpkapkcoeaaDoorKb
import Derived.Deep.LoopGhost
import Derived.ProofKit
import Derived.Deep.Slices
import Derived.Test.YtggbkpkapkcoeaaDoorKa
/- Regions: the text's operations in their order, and in any order that the language leaves open. -/
namespace Go.Kb

theorem call_kind {k : XK} {look : Nat → Obj} {vs : List V} {g : Nat} {inp : List Cell} {fin : List Cell → Option (V × List (Nat × Obj))} (h : k.eval look vs = .call g inp fin) : ∃ c, k = .call c := by
  cases k with
  | call c => exact ⟨c, rfl⟩
  | _ =>
    simp only [XK.eval, E.move, E.pick, E.nilck, E.bin, E.eqBool, E.eqAgg, E.not, E.neg, E.conv, E.b2s, E.extract, E.field, E.fieldAddr, E.indexAddr, E.strIndex, E.load, E.store, E.box, E.alloc, E.build, E.buildSlice, E.makeSlice, E.append,
      E.appendDel, E.slice, E.strSlice, E.len, E.strLen, E.max, E.min] at h <;> (repeat' split at h) <;> cases h

section
variable {E : Env1} {F : Fx} {fs : Nat → FS} {nobj : Nat}

theorem does_body (heqT : ∀ T t, E.eqT T t = true → eqTB E.P T t = true) (hcall : CallOk E F fs nobj) {o : Oper} {x : XOp} {s : S} {p : V × List (Nat × Obj)} (hok : opOk E nobj o x = true) (hn : s.h.length = nobj) (hb : x.bodyO fs s = some p) :
    Does E.P E.tm F o s (s.eff x p) := by
  have hb' := hb
  unfold XOp.bodyO at hb
  split at hb
  · cases hb
  · rename_i c v u hres
    cases c
    · cases hb
    · simp only [cond_true] at hb
      obtain ⟨rfl, hu⟩ := chk_some hb
      subst hn
      exact does_done heqT hok hres hu
  · rename_i g inp fin hres
    have hk : ∃ c, x.kind = .call c := by
      exact call_kind hres
    obtain ⟨c, hk⟩ := hk
    exact hcall o x c hk hok s p hn hb'

theorem slot_rep {tm : Nat → TypeId} {μ : Nat → Option (Nat × Nat)} {s : S} {a : Act} {w : World} (h : RepM tm F μ s a w) (n : Nat) : s.slot n = .junk ∨ ∃ y, a.tmps[n]? = some y ∧ RepV (s.cx μ w F) (s.slot n) y := by
  by_cases hlt : n < s.t.length
  · right
    have h1 : s.t[n]? = some s.t[n] := List.getElem?_eq_getElem hlt
    have h2 : a.tmps[n]? = some (a.tmps[n]'(by rw [h.size]; exact hlt)) := Array.getElem?_eq_getElem (by rw [h.size]; exact hlt)
    refine ⟨_, h2, ?_⟩
    have := h.slots n _ _ h1 h2
    simp only [S.slot, List.getD_eq_getElem?_getD, h1, Option.getD_some]
    exact this
  · left
    simp only [S.slot, List.getD_eq_getElem?_getD, List.getElem?_eq_none (Nat.le_of_not_lt hlt), Option.getD_none]

theorem op_wp (heqT : ∀ T t, E.eqT T t = true → eqTB E.P T t = true) (hcall : CallOk E F fs nobj) {ops : Array Oper} {i : Nat} {o : Oper} {x : XOp} {s : S} {p : V × List (Nat × Obj)} {a : Act} {w : World} {K : Act → World → Prop} {Q : Exit → Act → World → Prop}
    (hi : ops[i]? = some o) (hok : opOk E nobj o x = true) (hg : guardOk ops o x = true) (hn : s.h.length = nobj) (hd : x.dec fs s = some p) (hr : Rep E.tm F s a w)
    (hK : ∀ a' w', Rep E.tm F (s.eff x p) a' w' → K a' w') : wpOp E.P ops Q i K a w := by
  unfold wpOp
  simp only [hi]
  have hdst : o.dst = x.dst := by
    unfold opOk at hok
    simp only [Bool.and_eq_true] at hok
    simpa using hok.1
  have want : Region.wanted o (yielded ops a.tmps) = true → x.bodyO fs s = some p →
      (if Region.wanted o (yielded ops a.tmps) = true then o.wp E.P a w K Q ∨ (o.asks E.P a w ∧ LetsOut Q) else K (a.put o.dst undef) w) := by
    intro hw hb
    rw [if_pos hw]
    exact .inl (Oper.wp_mono hK (does_body heqT hcall hok hn hb a w Q hr))
  have skip : Region.wanted o (yielded ops a.tmps) = false → p = (.tup [], []) →
      (if Region.wanted o (yielded ops a.tmps) = true then o.wp E.P a w K Q ∨ (o.asks E.P a w ∧ LetsOut Q) else K (a.put o.dst undef) w) := by
    intro hw hp
    rw [if_neg (by rw [hw]; decide)]
    subst hp
    obtain ⟨μ, hr⟩ := hr
    refine hK _ _ ⟨μ, ?_⟩
    simp only [S.eff, S.ups]
    rw [← hdst]
    exact hr.put o.dst (undef_rep _)
  unfold XOp.dec at hd
  unfold guardOk at hg
  split at hg
  · rename_i h1 h2
    rw [h2] at hd
    exact want (by simp [Region.wanted, h1]) hd
  · rename_i j w1 g w2 h1 h2
    rw [h2] at hd
    simp only [Bool.and_eq_true] at hg
    obtain ⟨hw, hg⟩ := hg
    have hw : w1 = w2 := by simpa using hw
    subst hw
    split at hg <;> try (cases hg; done)
    rename_i d hdd
    have hg := Nat.eq_of_beq_eq_true hg
    subst hg
    have hy : yielded ops a.tmps j = (match a.tmps[d]? with | some (.bool b) => some b | _ => none) := by
      unfold yielded; rw [hdd]; rfl
    simp only [] at hd
    obtain ⟨μ, hr'⟩ := hr
    rcases slot_rep hr' d with hj | ⟨y, h3, h4⟩
    · rw [hj] at hd; cases hd
    · split at hd
      · rename_i b hs
        rw [hs] at h4
        have h4 : y = .bool b := h4
        subst h4
        rw [h3] at hy
        cases hb : (b == w1)
        · rw [hb] at hd
          injection hd with hd
          refine skip ?_ hd.symm
          simp only [Region.wanted, h1, hy]
          cases b <;> cases w1 <;> first | rfl | cases hb
        · rw [hb] at hd
          refine want ?_ hd
          simp only [Region.wanted, h1, hy]
          cases b <;> cases w1 <;> first | rfl | cases hb
      · rename_i hs
        rw [hs] at h4
        obtain ⟨vs, rfl, _⟩ := h4
        rw [h3] at hy
        injection hd with hd
        refine skip ?_ hd.symm
        simp only [Region.wanted, h1, hy]
        cases w1 <;> rfl
      · cases hd
  · cases hg

def opsOk (E : Env1) (nobj : Nat) (ops : Array Oper) : List Oper → List XOp → Bool
  | [], [] => true
  | o :: os, x :: xs => opOk E nobj o x && (guardOk ops o x && opsOk E nobj ops os xs)
  | _, _ => false

theorem opsOk_get {ops : Array Oper} : ∀ {os : List Oper} {xs : List XOp}, opsOk E nobj ops os xs = true → os.length = xs.length ∧
    ∀ (i : Nat) (o : Oper) (x : XOp), os[i]? = some o → xs[i]? = some x → opOk E nobj o x = true ∧ guardOk ops o x = true
  | [], [], _ => ⟨rfl, fun i o x h => by simp at h⟩
  | o :: os, x :: xs, h => by
    simp only [opsOk, Bool.and_eq_true] at h
    obtain ⟨h1, h2⟩ := opsOk_get h.2.2
    refine ⟨by simp [h1], fun i p y hp hy => ?_⟩
    cases i with
    | zero => simp at hp hy; subst hp; subst hy; exact ⟨h.1, h.2.1⟩
    | succ i => exact h2 i p y (by simpa using hp) (by simpa using hy)
  | [], _ :: _, h => by simp [opsOk] at h
  | _ :: _, [], h => by simp [opsOk] at h

/-- running operations by their numbers -/
def runIdx {R : Type} (fs : Nat → FS) (xs : List XOp) : List Nat → S → (S → Option R) → Option R
  | [], s, k => k s
  | i :: l, s, k => match xs[i]? with
    | some x => bindO (x.dec fs s) fun p => runIdx fs xs l (s.eff x p) k
    | none => none

theorem opsK_idx {R : Type} (xs : List XOp) (k : S → Option R) : ∀ (ys : List XOp) (n : Nat) (s : S), xs.drop n = ys → opsK (envOf fs) ys s k = runIdx fs xs (List.range' n ys.length) s k := by
  intro ys
  induction ys with
  | nil => intro n s _; rfl
  | cons y r ih =>
    intro n s h
    have h1 : xs[n]? = some y := by
      have := congrArg (fun l => l[0]?) h
      simpa using this
    have h2 : xs.drop (n + 1) = r := by
      rw [← List.drop_drop, h]; rfl
    simp only [opsK, XOp.stepK_eq, List.length_cons, List.range'_succ, runIdx, h1]
    congr 1
    funext p
    exact ih (n + 1) _ h2

theorem run_wp {R : Type} (heqT : ∀ T t, E.eqT T t = true → eqTB E.P T t = true) (hcall : CallOk E F fs nobj) {ops : Array Oper} {xs : List XOp} (hok : opsOk E nobj ops ops.toList xs = true) {k : S → Option R} {r : R} {Q : Exit → Act → World → Prop}
    (hQ : ∀ s a w, s.h.length = nobj → Rep E.tm F s a w → k s = some r → Q .normal a w) :
    ∀ (l : List Nat) (s : S) (a : Act) (w : World), runIdx fs xs l s k = some r → s.h.length = nobj → Rep E.tm F s a w → wpOps E.P ops Q l a w := by
  obtain ⟨hlen, hget⟩ := opsOk_get hok
  intro l
  induction l with
  | nil => intro s a w h hn hr; exact hQ s a w hn hr h
  | cons i l ih =>
    intro s a w h hn hr
    unfold runIdx at h
    split at h
    · rename_i x hx
      obtain ⟨p, hp, h⟩ := bindO_some h
      have hi : i < ops.toList.length := by rw [hlen]; exact (List.getElem?_eq_some_iff.1 hx).1
      have ho : ops.toList[i]? = some ops.toList[i] := List.getElem?_eq_getElem hi
      obtain ⟨h1, h2⟩ := hget i _ x ho hx
      rw [wpOps_cons]
      exact op_wp heqT hcall (by simp) h1 h2 hn hp hr fun a' w' hr' => ih _ a' w' h (by rw [eff_len]; exact hn) hr'
    · cases h

theorem region_seq {R : Type} (heqT : ∀ T t, E.eqT T t = true → eqTB E.P T t = true) (hcall : CallOk E F fs nobj) {ops : Array Oper} {xs : List XOp} (hok : opsOk E nobj ops ops.toList xs = true) {k : S → Option R} {r : R} {Q : Exit → Act → World → Prop} {id : Nat}
    (hQ : ∀ s a w, s.h.length = nobj → Rep E.tm F s a w → k s = some r → Q .normal a w) {s : S} {a : Act} {w : World} (h : opsK (envOf fs) xs s k = some r) (hn : s.h.length = nobj) (hr : Rep E.tm F s a w) :
    (Code.region id ops false).wp E.P Q a w := by
  refine wp_region ?_
  rw [opsK_idx xs k xs 0 s rfl] at h
  have hl : xs.length = ops.size := by rw [← (opsOk_get hok).1]; simp
  rw [List.range_eq_range', ← hl]
  exact run_wp heqT hcall hok hQ _ s a w h hn hr

end
end Go.Kb

/- Regions whose order is drawn. -/
namespace Go.Kb

def XArg.slots : XArg → List Nat
  | .slot n => [n]
  | .const _ => []

def XOp.uses (x : XOp) : List Nat := (match x.guard with | some (g, _) => [g] | none => []) ++ x.args.flatMap XArg.slots

def disj : List Nat → List Nat → Bool
  | [], _ => true
  | n :: r, l => !memb n l && disj r l

def apartX (x y : XOp) : Bool :=
  (match x.dst with
   | some d => !memb d y.uses && (match y.dst with | some e => !Nat.beq d e | none => true)
   | none => true) &&
  ((match y.dst with
    | some d => !memb d x.uses
    | none => true) &&
   (disj x.wo y.ro && (disj x.wo y.wo && disj y.wo x.ro)))

theorem memb_iff {n : Nat} : ∀ {l : List Nat}, memb n l = true ↔ n ∈ l
  | [] => by simp [memb]
  | m :: r => by simp [memb, memb_iff (l := r)]

theorem disj_spec {n : Nat} : ∀ {l r : List Nat}, disj l r = true → n ∈ l → n ∉ r
  | m :: l, r, h, hn, hr => by
    simp only [disj, Bool.and_eq_true, Bool.not_eq_true'] at h
    cases hn with
    | head => rw [memb_iff.2 hr] at h; cases h.1
    | tail _ hn => exact disj_spec h.2 hn hr

section
variable {fs : Nat → FS}

theorem dec_congr {x : XOp} {s s' : S} (h1 : ∀ n, n ∈ x.uses → s.slot n = s'.slot n) (h2 : ∀ o, o ∈ x.ro → s.obj o = s'.obj o) : x.dec fs s = x.dec fs s' := by
  have hargs : ∀ (l : List XArg), (∀ n, n ∈ l.flatMap XArg.slots → s.slot n = s'.slot n) → evalArgs s l = evalArgs s' l := by
    intro l
    induction l with
    | nil => intro _; rfl
    | cons a r ih =>
      intro h
      simp only [evalArgs]
      rw [ih fun n hn => h n (by simp only [List.flatMap_cons, List.mem_append]; exact .inr hn)]
      congr 1
      cases a with
      | const v => rfl
      | slot n => exact h n (by simp [XArg.slots])
  have hlook : x.look s = x.look s' := by
    funext o
    unfold XOp.look
    cases hm : memb o x.ro
    · rfl
    · exact h2 o (memb_iff.1 hm)
  have hres : x.res s = x.res s' := by
    unfold XOp.res
    rw [hlook, hargs x.args fun n hn => h1 n (by unfold XOp.uses; exact List.mem_append.2 (.inr hn))]
  have hbody : x.bodyO fs s = x.bodyO fs s' := by unfold XOp.bodyO; rw [hres]
  unfold XOp.dec
  cases hg : x.guard with
  | none => exact hbody
  | some p =>
    obtain ⟨g, want⟩ := p
    simp only []
    rw [h1 g (by simp [XOp.uses, hg]), hbody]

theorem dec_ups {x : XOp} {s : S} {p : V × List (Nat × Obj)} (h : x.dec fs s = some p) : upsIn x.wo p.2 = true := by
  have hb : ∀ q, x.bodyO fs s = some q → upsIn x.wo q.2 = true := by
    intro q hq
    unfold XOp.bodyO at hq
    split at hq
    · cases hq
    · rename_i c v u _
      cases c
      · cases hq
      · obtain ⟨rfl, hu⟩ := chk_some hq; exact hu
    · obtain ⟨out, _, hq⟩ := bindO_some hq
      obtain ⟨f, _, hq⟩ := bindO_some hq
      obtain ⟨rfl, hu⟩ := chk_some hq; exact hu
  unfold XOp.dec at h
  split at h
  · exact hb p h
  · split at h
    · rename_i b _
      cases hbw : (b == _)
      · rw [hbw] at h; injection h with h; subst h; rfl
      · rw [hbw] at h; exact hb p h
    · injection h with h; subst h; rfl
    · cases h

theorem upsIn_mem {wo : List Nat} : ∀ {u : List (Nat × Obj)} {o : Nat} {x : Obj}, upsIn wo u = true → (o, x) ∈ u → o ∈ wo
  | (o', y) :: r, o, x, h, hm => by
    simp only [upsIn, Bool.and_eq_true] at h
    cases hm with
    | head => exact memb_iff.1 h.1
    | tail _ hm => exact upsIn_mem h.2 hm

theorem ups_obj : ∀ (u : List (Nat × Obj)) (s : S) (o : Nat), (∀ x, (o, x) ∉ u) → (s.ups u).obj o = s.obj o
  | [], _, _, _ => rfl
  | (m, y) :: r, s, o, h => by
    simp only [S.ups]
    rw [ups_obj r _ o fun x hx => h x (.tail _ hx)]
    have hne : m ≠ o := by rintro rfl; exact h y (.head _)
    simp only [S.obj, List.getD_eq_getElem?_getD]
    rw [List.getElem?_set_ne hne]

theorem eff_obj {s : S} {x : XOp} {p : V × List (Nat × Obj)} (hu : upsIn x.wo p.2 = true) {o : Nat} (h : o ∉ x.wo) : (s.eff x p).obj o = s.obj o := by
  unfold S.eff
  rw [ups_obj _ _ _ fun y hy => h (upsIn_mem hu hy), put_obj]

theorem eff_slot {s : S} {x : XOp} {p : V × List (Nat × Obj)} {n : Nat} (h : x.dst ≠ some n) : (s.eff x p).slot n = s.slot n := by
  simp only [S.slot, S.eff, ups_t]
  cases hd : x.dst with
  | none => rfl
  | some d =>
    simp only [S.put, List.getD_eq_getElem?_getD]
    rw [List.getElem?_set_ne]
    rintro rfl
    exact h hd

theorem ups_set : ∀ (u : List (Nat × Obj)) (s : S) (o : Nat) (x : Obj), (∀ y, (o, y) ∉ u) → S.ups { s with h := s.h.set o x } u = { (s.ups u) with h := (s.ups u).h.set o x }
  | [], _, _, _, _ => rfl
  | (m, y) :: r, s, o, x, h => by
    simp only [S.ups]
    have hne : m ≠ o := by rintro rfl; exact h y (.head _)
    rw [List.set_comm _ _ (Ne.symm hne)]
    exact ups_set r { s with h := s.h.set m y } o x fun z hz => h z (.tail _ hz)

theorem ups_comm : ∀ (u v : List (Nat × Obj)) (s : S), (∀ o x y, (o, x) ∈ u → (o, y) ∉ v) → (s.ups u).ups v = (s.ups v).ups u
  | [], _, _, _ => rfl
  | (m, y) :: r, v, s, h => by
    simp only [S.ups]
    rw [ups_comm r v _ fun o x z hx => h o x z (.tail _ hx), ups_set v s m y fun z => h m y z (.head _)]

theorem ups_put (u : List (Nat × Obj)) (s : S) (d : Option Nat) (v : V) : (s.put d v).ups u = (s.ups u).put d v := by
  induction u generalizing s with
  | nil => rfl
  | cons p r ih =>
    obtain ⟨o, x⟩ := p
    have h0 : S.ups (s.put d v) ((o, x) :: r) = S.ups (S.put { s with h := s.h.set o x } d v) r := by cases d <;> rfl
    rw [h0, ih]; rfl

theorem put_comm {s : S} {d e : Option Nat} {v u : V} (h : ∀ n, d = some n → e ≠ some n) : (s.put d v).put e u = (s.put e u).put d v := by
  cases d with
  | none => rfl
  | some n =>
    cases e with
    | none => rfl
    | some m =>
      have hne : n ≠ m := fun hh => h n rfl (by rw [hh])
      simp only [S.put]
      rw [List.set_comm _ _ hne]

theorem apartX_spec {x y : XOp} (h : apartX x y = true) :
    (∀ d, x.dst = some d → d ∉ y.uses ∧ y.dst ≠ some d) ∧ (∀ d, y.dst = some d → d ∉ x.uses) ∧ (∀ o, o ∈ x.wo → o ∉ y.ro ∧ o ∉ y.wo) ∧ (∀ o, o ∈ y.wo → o ∉ x.ro) := by
  simp only [apartX, Bool.and_eq_true] at h
  obtain ⟨h1, h2, h3, h4, h5⟩ := h
  refine ⟨fun d hd => ?_, fun d hd => ?_, fun o ho => ⟨disj_spec h3 ho, disj_spec h4 ho⟩, fun o ho => disj_spec h5 ho⟩
  · rw [hd] at h1
    simp only [Bool.and_eq_true, Bool.not_eq_true'] at h1
    refine ⟨fun hm => (by rw [memb_iff.2 hm] at h1; cases h1.1), fun he => ?_⟩
    rw [he] at h1
    simp at h1
  · rw [hd] at h2
    simp only [Bool.not_eq_true'] at h2
    exact fun hm => by rw [memb_iff.2 hm] at h2; cases h2

/-- Two operations that stand apart may change places. -/
theorem swap {x y : XOp} {s : S} {p q : V × List (Nat × Obj)} (h : apartX x y = true) (hx : x.dec fs s = some p) (hy : y.dec fs (s.eff x p) = some q) :
    y.dec fs s = some q ∧ x.dec fs (s.eff y q) = some p ∧ (s.eff x p).eff y q = (s.eff y q).eff x p := by
  obtain ⟨h1, h2, h3, h4⟩ := apartX_spec h
  have ux := dec_ups hx
  have uy := dec_ups hy
  have e1 : y.dec fs s = some q := by
    rw [← hy]
    refine dec_congr (fun n hn => (eff_slot fun hd => (h1 n hd).1 hn).symm) fun o ho => (eff_obj ux fun hw => (h3 o hw).1 ho).symm
  refine ⟨e1, ?_, ?_⟩
  · rw [← hx]
    exact dec_congr (fun n hn => eff_slot fun hd => h2 n hd hn) fun o ho => eff_obj uy fun hw => h4 o hw ho
  · unfold S.eff
    rw [ups_put, ups_put, ups_put, ups_put, ups_put, ups_put]
    rw [put_comm fun n hn => (h1 n hn).2]
    rw [ups_comm p.2 q.2 _ fun o z z' hz hz' => (h3 o (upsIn_mem ux hz)).2 (upsIn_mem uy hz')]

theorem run_front {R : Type} {xs : List XOp} {k : S → Option R} {r : R} {i : Nat} {l2 : List Nat} :
    ∀ (l1 : List Nat) (s : S), (∀ j x y, j ∈ l1 → xs[j]? = some x → xs[i]? = some y → apartX x y = true) → runIdx fs xs (l1 ++ i :: l2) s k = some r → runIdx fs xs (i :: (l1 ++ l2)) s k = some r
  | [], _, _, h => h
  | j :: l1, s, hap, h => by
    simp only [List.cons_append, runIdx] at h
    split at h <;> try (cases h; done)
    rename_i x hx
    obtain ⟨p, hp, h⟩ := bindO_some h
    have h := run_front l1 _ (fun j' x y hj => hap j' x y (.tail _ hj)) h
    simp only [runIdx] at h
    split at h <;> try (cases h; done)
    rename_i y hy
    obtain ⟨q, hq, h⟩ := bindO_some h
    obtain ⟨e1, e2, e3⟩ := swap (hap j x y (.head _) hx hy) hp hq
    simp only [List.cons_append, runIdx, hy, hx]
    rw [e1]
    simp only [bindO]
    rw [e2]
    simp only []
    rw [← e3]
    exact h

end
end Go.Kb

/- A region whose order is drawn, in every order. -/
namespace Go.Kb

/-- must operation i come after j? -/
def reach (ops : Array Oper) : Nat → Nat → Nat → Bool
  | 0, _, _ => false
  | f + 1, i, j => match ops[i]? with
    | some o => o.after.toList.any fun e => Region.binds .any e && (Nat.beq e.on j || reach ops f e.on j)
    | none => false

/-- operation i against the earlier ones -/
def drawOne (ops : Array Oper) (xs : List XOp) (i : Nat) (y : XOp) : Nat → Bool
  | 0 => true
  | j + 1 => (match xs[j]? with | some x => apartX x y || reach ops 8 i j | none => true) && drawOne ops xs i y j

def drawAll (ops : Array Oper) (xs : List XOp) : Nat → Bool
  | 0 => true
  | i + 1 => (match xs[i]?, ops[i]? with
    | some y, some o => drawOne ops xs i y i && o.after.toList.all fun e => !Region.binds .any e || Nat.blt e.on i
    | _, _ => true) && drawAll ops xs i

theorem drawOne_spec {ops : Array Oper} {xs : List XOp} {i : Nat} {y : XOp} : ∀ {n : Nat}, drawOne ops xs i y n = true → ∀ j x, j < n → xs[j]? = some x → apartX x y = true ∨ reach ops 8 i j = true
  | n + 1, h, j, x, hj, hx => by
    simp only [drawOne, Bool.and_eq_true] at h
    by_cases hjn : j = n
    · subst hjn
      rw [hx] at h
      simpa using h.1
    · exact drawOne_spec h.2 j x (by omega) hx

theorem drawAll_spec {ops : Array Oper} {xs : List XOp} : ∀ {n : Nat}, drawAll ops xs n = true → ∀ (i : Nat) (y : XOp) (o : Oper), i < n → xs[i]? = some y → ops[i]? = some o →
    drawOne ops xs i y i = true ∧ ∀ e ∈ o.after, Region.binds .any e = true → e.on < i := by
  intro n
  induction n with
  | zero => intro _ i y o hi; omega
  | succ n ih =>
    intro h i y o hi hy ho
    simp only [drawAll, Bool.and_eq_true] at h
    by_cases hin : i = n
    · subst hin
      rw [hy, ho] at h
      simp only [Bool.and_eq_true, List.all_eq_true] at h
      refine ⟨h.1.1, fun e he hb => ?_⟩
      have := h.1.2 e (Array.mem_toList_iff.2 he)
      simp only [hb, Bool.not_true, Bool.false_or, Nat.blt_eq] at this
      exact this
    · exact ih h.2 i y o (by omega) hy ho

/-- what is listed is closed -/
def Closed (ops : Array Oper) (listed : Array Bool) : Prop := ∀ i o, ops[i]? = some o → listed.getD i false = true → ∀ e ∈ o.after, Region.binds .any e = true → listed.getD e.on false = true

theorem reach_listed {ops : Array Oper} {listed : Array Bool} (hc : Closed ops listed) : ∀ (f : Nat) (i j : Nat) (o : Oper), ops[i]? = some o → (∀ e ∈ o.after, Region.binds .any e = true → listed.getD e.on false = true) → reach ops f i j = true → listed.getD j false = true := by
  intro f
  induction f with
  | zero => intro i j o _ _ h; simp only [reach, Bool.false_eq_true] at h
  | succ f ih =>
    intro i j o ho hall h
    unfold reach at h
    rw [ho] at h
    simp only [List.any_eq_true, Bool.and_eq_true, Bool.or_eq_true] at h
    obtain ⟨e, he, hb, h⟩ := h
    have hl := hall e (Array.mem_toList_iff.1 he) hb
    rcases h with h | h
    · rw [← Nat.eq_of_beq_eq_true h]; exact hl
    · cases hoe : ops[e.on]? with
      | none =>
        exfalso
        cases f with
        | zero => simp only [reach, Bool.false_eq_true] at h
        | succ f => unfold reach at h; rw [hoe] at h; cases h
      | some o' => exact ih e.on j o' hoe (hc e.on o' hoe hl) h

section
variable {E : Env1} {F : Fx} {fs : Nat → FS} {nobj : Nat}

def unlisted (listed : Array Bool) (n : Nat) : List Nat := (List.range n).filter fun i => !listed.getD i true

theorem split_at {l : List Nat} {i : Nat} (h : i ∈ l) (hs : l.Pairwise (· < ·)) : ∃ l1 l2, l = l1 ++ i :: l2 ∧ (∀ j ∈ l1, j < i) ∧ l1 ++ l2 = l.filter (fun j => j != i) := by
  obtain ⟨l1, l2, rfl⟩ := List.append_of_mem h
  refine ⟨l1, l2, rfl, ?_, ?_⟩
  · intro j hj
    exact (List.pairwise_append.1 hs).2.2 j hj i (.head _)
  · have h1 : ∀ j ∈ l1, j ≠ i := fun j hj => Nat.ne_of_lt ((List.pairwise_append.1 hs).2.2 j hj i (.head _))
    have h2 : ∀ j ∈ l2, j ≠ i := fun j hj => Nat.ne_of_gt ((List.pairwise_cons.1 (List.pairwise_append.1 hs).2.1).1 j hj)
    rw [List.filter_append, List.filter_cons]
    simp only [bne_self_eq_false, Bool.false_eq_true, if_false]
    rw [List.filter_eq_self.2 fun j hj => by simpa using h1 j hj, List.filter_eq_self.2 fun j hj => by simpa using h2 j hj]

theorem unlisted_set {listed : Array Bool} {n i : Nat} (hn : listed.size = n) (hi : i < n) : unlisted (listed.setIfInBounds i true) n = (unlisted listed n).filter fun j => j != i := by
  unfold unlisted
  rw [List.filter_filter]
  apply List.filter_congr
  intro j hj
  by_cases hij : i = j
  · subst hij
    simp [hn, hi]
  · rw [getD_set_ne true hij]
    have : (j != i) = true := by simpa using Ne.symm hij
    rw [this, Bool.true_and]

theorem unlisted_sorted (listed : Array Bool) (n : Nat) : (unlisted listed n).Pairwise (· < ·) := List.Pairwise.filter _ List.pairwise_lt_range

theorem any_wp {R : Type} (heqT : ∀ T t, E.eqT T t = true → eqTB E.P T t = true) (hcall : CallOk E F fs nobj) {ops : Array Oper} {xs : List XOp} (hok : opsOk E nobj ops ops.toList xs = true) (hdraw : drawAll ops xs ops.size = true)
    {k : S → Option R} {r : R} {Q : Exit → Act → World → Prop} (hQ : ∀ s a w, s.h.length = nobj → Rep E.tm F s a w → k s = some r → Q .normal a w) :
    ∀ (fuel : Nat) (listed : Array Bool) (s : S) (a : Act) (w : World), listed.size = ops.size → (unlisted listed ops.size).length ≤ fuel → Closed ops listed →
      runIdx fs xs (unlisted listed ops.size) s k = some r → s.h.length = nobj → Rep E.tm F s a w → wpAny E.P .any ops Q fuel listed a w := by
  obtain ⟨hlen, hget⟩ := opsOk_get hok
  have hready : ∀ (listed : Array Bool), listed.size = ops.size → Region.ready .any ops listed = [] → unlisted listed ops.size = [] := by
    intro listed hsz hr
    apply Classical.byContradiction
    intro hne
    obtain ⟨i, l, hl⟩ := List.exists_cons_of_ne_nil hne
    have hmem : i ∈ unlisted listed ops.size := by rw [hl]; exact .head _
    obtain ⟨hi, hu⟩ := List.mem_filter.1 hmem
    have hi := List.mem_range.1 hi
    have hmin : ∀ j, j < i → listed.getD j false = true := by
      intro j hj
      have hjn : j < listed.size := by omega
      have hnot : j ∉ unlisted listed ops.size := by
        intro hm
        rw [hl] at hm
        have hs := unlisted_sorted listed ops.size
        rw [hl] at hs
        cases hm with
        | head => omega
        | tail _ hm => have := (List.pairwise_cons.1 hs).1 j hm; omega
      have : listed[j] = true := by
        apply Classical.byContradiction
        intro hf
        refine hnot (List.mem_filter.2 ⟨List.mem_range.2 (by omega), ?_⟩)
        simp only [Array.getD_eq_getD_getElem?, Array.getElem?_eq_getElem hjn, Option.getD_some]
        simpa using hf
      simp only [Array.getD_eq_getD_getElem?, Array.getElem?_eq_getElem hjn, Option.getD_some, this]
    have hil : i < xs.length := by rw [← hlen]; simpa using hi
    have hin : i ∈ Region.ready .any ops listed := by
      refine mem_ready.2 ⟨by simpa using hu, ops[i], Array.getElem?_eq_getElem hi, fun e he hb => hmin _ ?_⟩
      exact (drawAll_spec hdraw i xs[i] ops[i] hi (List.getElem?_eq_getElem hil) (Array.getElem?_eq_getElem hi)).2 e he hb
    rw [hr] at hin
    cases hin
  intro fuel
  induction fuel with
  | zero =>
    intro listed s a w hsz hf hc h hn hr
    have h0 : unlisted listed ops.size = [] := List.eq_nil_of_length_eq_zero (by omega)
    rw [h0] at h
    refine ⟨?_, hQ s a w hn hr h⟩
    apply Classical.byContradiction
    intro hne
    obtain ⟨i, l, hl⟩ := List.exists_cons_of_ne_nil hne
    have hm : i ∈ Region.ready .any ops listed := by rw [hl]; exact .head _
    obtain ⟨h1, o, ho, _⟩ := mem_ready.1 hm
    have : i ∈ unlisted listed ops.size := List.mem_filter.2 ⟨List.mem_range.2 (Array.getElem?_eq_some_iff.1 ho).1, by simpa using h1⟩
    rw [h0] at this
    cases this
  | succ fuel ih =>
    intro listed s a w hsz hf hc h hn hr
    refine ⟨fun hre => ?_, fun i hi => ?_⟩
    · rw [hready listed hsz hre] at h
      exact hQ s a w hn hr h
    · obtain ⟨hu, o, ho, hall⟩ := mem_ready.1 hi
      have hlt : i < ops.size := (Array.getElem?_eq_some_iff.1 ho).1
      have hil : i < xs.length := by rw [← hlen]; simpa using hlt
      have hx : xs[i]? = some xs[i] := List.getElem?_eq_getElem hil
      have hm : i ∈ unlisted listed ops.size := List.mem_filter.2 ⟨List.mem_range.2 hlt, by simpa using hu⟩
      obtain ⟨l1, l2, e1, e2, e3⟩ := split_at hm (unlisted_sorted listed ops.size)
      rw [e1] at h
      have hone := (drawAll_spec hdraw i _ o hlt hx ho).1
      have h := run_front l1 s (fun j x y hj hxj hyi => by
        rw [hx] at hyi; injection hyi with hyi; subst hyi
        rcases drawOne_spec hone j x (e2 j hj) hxj with h1 | h1
        · exact h1
        · have hl := reach_listed hc 8 i j o ho hall h1
          have hju : j ∈ unlisted listed ops.size := by rw [e1]; exact List.mem_append.2 (.inl hj)
          have := (List.mem_filter.1 hju).2
          have hjn : j < listed.size := by have := List.mem_range.1 (List.mem_filter.1 hju).1; omega
          simp only [Array.getD_eq_getD_getElem?, Array.getElem?_eq_getElem hjn, Option.getD_some] at this hl
          rw [hl] at this
          cases this) h
      simp only [runIdx, hx] at h
      obtain ⟨p, hp, h⟩ := bindO_some h
      have ho' : ops.toList[i]? = some o := by simpa using ho
      obtain ⟨h1, h2⟩ := hget i o _ ho' hx
      rw [e3, ← unlisted_set hsz hlt] at h
      refine op_wp heqT hcall ho h1 h2 hn hp hr fun a' w' hr' => ih _ _ a' w' (by simpa using hsz) ?_ ?_ h (by rw [eff_len]; exact hn) hr'
      · rw [unlisted_set hsz hlt, ← e3]
        have := congrArg List.length e1
        simp only [List.length_append, List.length_cons] at this ⊢
        omega
      · intro m o' hm' hl e he hb
        by_cases hmi : i = m
        · subst hmi
          rw [ho] at hm'
          injection hm' with hm'; subst hm'
          exact getD_set_true (hall e he hb)
        · rw [getD_set_ne false hmi] at hl
          exact getD_set_true (hc m o' hm' hl e he hb)

theorem Stp.drawn (M : Nat → Prop) (w : World) : Stp M w { w with drawn := w.drawn + 1 } := ⟨rfl, rfl, rfl, Nat.le_refl _, fun _ _ _ => rfl, fun _ cur _ h => ⟨cur, h, rfl⟩⟩

theorem RepM.drawn {tm : Nat → TypeId} {μ : Nat → Option (Nat × Nat)} {s : S} {a : Act} {w : World} (h : RepM tm F μ s a w) : RepM tm F μ s a { w with drawn := w.drawn + 1 } where
  defers := h.defers
  size := h.size
  slots := fun i v x hv hx => RepV.map (fun _c _v => RepCell.keep (C := s.cx μ w F) (C' := s.cx μ { w with drawn := w.drawn + 1 } F) rfl (Stp.drawn _ w) (fun _ _ h => h) (fun _o => Evo.same fun _ _ _ => rfl)) (h.slots i v x hv hx)
  objs := fun o => RepObj.keep (C := s.cx μ w F) (C' := s.cx μ { w with drawn := w.drawn + 1 } F) rfl (Stp.drawn _ w) (fun _ _ h => h) (fun _o => Evo.same fun _ _ _ => rfl) (fun _ _ _ => rfl) (h.objs o)
  inj := h.inj
  lt := h.lt
  own := h.own
  home := h.home
  frame := h.frame.drew

theorem region_any {R : Type} (heqT : ∀ T t, E.eqT T t = true → eqTB E.P T t = true) (hcall : CallOk E F fs nobj) (hmix : E.P.follows .mixedOrders = true) {ops : Array Oper} {xs : List XOp} (hok : opsOk E nobj ops ops.toList xs = true) (hdraw : drawAll ops xs ops.size = true)
    {k : S → Option R} {r : R} {Q : Exit → Act → World → Prop} {id : Nat}
    (hQ : ∀ s a w, s.h.length = nobj → Rep E.tm F s a w → k s = some r → Q .normal a w) {s : S} {a : Act} {w : World} (h : opsK (envOf fs) xs s k = some r) (hn : s.h.length = nobj) (hr : Rep E.tm F s a w) :
    (Code.region id ops true).wp E.P Q a w := by
  refine wp_region_any hmix ?_
  rw [opsK_idx xs k xs 0 s rfl] at h
  have hl : xs.length = ops.size := by rw [← (opsOk_get hok).1]; simp
  have hu : unlisted (Array.replicate ops.size false) ops.size = List.range ops.size := by
    unfold unlisted
    refine List.filter_eq_self.2 fun i hi => ?_
    have := List.mem_range.1 hi
    simp [Array.getD_eq_getD_getElem?, this]
  obtain ⟨μ, hr⟩ := hr
  refine any_wp heqT hcall hok hdraw hQ ops.size _ s a _ (by simp) (by rw [hu]; simp) ?_ ?_ hn ⟨μ, hr.drawn⟩
  · intro i o ho hl
    have := (Array.getElem?_eq_some_iff.1 ho).1
    simp [Array.getD_eq_getD_getElem?, this] at hl
  · rw [hu, List.range_eq_range', ← hl]; exact h

end
end Go.Kb

/- Ghost steps keep what states stand for. -/
namespace Go.Kb

section
variable {tm : Nat → TypeId} {F : Fx} {μ μ' : Nat → Option (Nat × Nat)} {s s' : S} {a : Act} {w : World}

/-- What a ghost step must show. -/
theorem RepM.change (h : RepM tm F μ s a w) (ht : s'.t.length = s.t.length)
    (hM : ∀ o b base, present (s'.obj o) → μ' o = some (b, base) → ∃ o0, present (s.obj o0) ∧ μ o0 = some (b, base) ∧ (weakRow (s.obj o0) → weakRow (s'.obj o)))
    (hinj : ∀ o o' b base base', present (s'.obj o) → present (s'.obj o') → μ' o = some (b, base) → μ' o' = some (b, base') → o = o')
    (hslots : ∀ (i : Nat) (v : V) (x : Value), s'.t[i]? = some v → a.tmps[i]? = some x → RepV (s'.cx μ' w F) v x)
    (hobjs : ∀ o, RepObj tm (s'.cx μ' w F) (μ' o) (s'.obj o))
    (hhome : ∀ o, (s'.obj o).hm = true → μ' o = F.home o ∧ (s'.obj o).shape = F.shape o) : RepM tm F μ' s' a w where
  defers := h.defers
  size := by rw [ht]; exact h.size
  slots := hslots
  objs := hobjs
  inj := hinj
  lt := fun o b base hp hm => by obtain ⟨o0, h1, h2, _⟩ := hM o b base hp hm; exact h.lt o0 b base h1 h2
  own := fun o b base hp hm => by
    obtain ⟨o0, h1, h2, h3⟩ := hM o b base hp hm
    exact (h.own o0 b base h1 h2).imp id fun h4 => ⟨h4.1, h4.2.imp h3 id⟩
  home := hhome
  frame := h.frame

/-- the same memory, fewer blocks: data are kept -/
theorem den_less {C C' : Cx} (hw : C'.w = C.w) (hB : C'.B = C.B) (hM : ∀ b, C'.M b → C.M b) {fr : Bool} {t : Ty} {x : t.den} {vs : List Value} (h : RepDen C.w C.M (C.L fr) t x vs) : RepDen C'.w C'.M (C'.L fr) t x vs := by
  rw [hw]
  exact h.keep (Stp.refl _ _) (fun b _ hb => hM b hb) (by simp [Cx.L, hB])

section
variable {C C' : Cx} {f : Cell → Cell} (hk : ∀ c v, RepCell C c v → RepCell C' (f c) v)
include hk
theorem RepCells.mapF : ∀ {cs : List Cell} {vs : List Value}, RepCells C cs vs → RepCells C' (cs.map f) vs
  | [], [], _ => trivial
  | _ :: _, _ :: _, h => ⟨hk _ _ h.1, RepCells.mapF h.2⟩
  | [], _ :: _, h => h.elim
  | _ :: _, [], h => h.elim
theorem RepG.mapF {g : Bool} {cs : List Cell} {v : Value} (h : RepG C g cs v) : RepG C' g (cs.map f) v := by
  cases g with
  | true => obtain ⟨vs, rfl, hc⟩ := h; exact ⟨vs, rfl, RepCells.mapF hk hc⟩
  | false => obtain ⟨c, rfl, hc⟩ := h; exact ⟨f c, rfl, hk _ _ hc⟩
theorem RepGs.mapF : ∀ {l : List (Bool × List Cell)} {vs : List Value}, RepGs C l vs → RepGs C' (l.map fun p => (p.1, p.2.map f)) vs
  | [], [], _ => trivial
  | _ :: _, _ :: _, h => ⟨RepG.mapF hk h.1, RepGs.mapF h.2⟩
  | [], _ :: _, h => h.elim
  | _ :: _, [], h => h.elim
theorem RepV.mapF {x : V} {v : Value} (h : RepV C x v) : RepV C' (mapCell f x) v := by
  cases x with
  | one c => exact hk _ _ h
  | agg cs => obtain ⟨vs, rfl, hc⟩ := h; exact ⟨vs, rfl, RepCells.mapF hk hc⟩
  | tup l => obtain ⟨vs, rfl, hc⟩ := h; exact ⟨vs, rfl, RepGs.mapF hk hc⟩
  | junk => trivial
end

theorem mapCell_obj (s : S) (f : Cell → Cell) (o : Nat) : (s.mapCell f).obj o = (s.obj o).mapCell f := by
  simp only [S.obj, S.mapCell, List.getD_eq_getElem?_getD, List.getElem?_map]
  cases s.h[o]? <;> rfl

theorem mapObj_row {x : Obj} {f : Cell → Cell} {st : Nat} {hm fr : Bool} {e : Nat} {t : Ty} {xs : List t.den} : x.mapCell f = .row st hm fr e t xs ↔ x = .row st hm fr e t xs := by
  cases x <;> simp [Obj.mapCell]

theorem mapObj_present {x : Obj} {f : Cell → Cell} : present (x.mapCell f) ↔ present x := by cases x <;> rfl
theorem mapObj_stamp {x : Obj} {f : Cell → Cell} : (x.mapCell f).stamp = x.stamp := by cases x <;> rfl
theorem mapObj_hm {x : Obj} {f : Cell → Cell} : (x.mapCell f).hm = x.hm := by cases x <;> rfl
theorem mapObj_shape {x : Obj} {f : Cell → Cell} : (x.mapCell f).shape = x.shape := by cases x <;> rfl
theorem mapObj_weak {x : Obj} {f : Cell → Cell} : weakRow (x.mapCell f) ↔ weakRow x := by cases x <;> exact Iff.rfl

theorem setH_obj (s : S) (o : Nat) (x : Obj) (i : Nat) : (S.obj { s with h := s.h.set o x } i) = if i = o ∧ o < s.h.length then x else s.obj i := by
  simp only [S.obj, List.getD_eq_getElem?_getD]
  by_cases h : i = o
  · subst h
    by_cases hl : i < s.h.length
    · simp [hl]
    · simp [hl]
  · rw [List.getElem?_set_ne (Ne.symm h), if_neg fun hh => h hh.1]

theorem absent_ge {s : S} {o : Nat} (h : s.h.length ≤ o) : s.obj o = .absent 0 := by
  simp [S.obj, List.getD_eq_getElem?_getD, List.getElem?_eq_none h]

/-- A cell under a change of context at unchanged memory, where every object is as it was, or gone, or newer. -/
theorem RepCell.less {C C' : Cx} (hw : C'.w = C.w) (hB : C'.B = C.B) (hM : ∀ b, C'.M b → C.M b)
    (he : ∀ o, (C.h o).stamp ≤ (C'.h o).stamp ∧ ((C'.h o).stamp = (C.h o).stamp → (∀ st hm cs, C'.h o = .box st hm cs → (∃ hm' cs', C.h o = .box st hm' cs') ∧ C'.μ o = C.μ o) ∧
      (∀ st hm fr e t xs, C'.h o = .row st hm fr e t xs → (∃ hm' fr' e', C.h o = .row st hm' fr' e' t xs) ∧ C'.μ o = C.μ o)))
    {c : Cell} {v : Value} (h : RepCell C c v) : RepCell C' c v := by
  refine RepCell.keep hB (by rw [hw]; exact Stp.refl _ _) (fun b _ hb => hM b hb) (fun o => ?_) h
  obtain ⟨h1, h2⟩ := he o
  refine ⟨h1, fun hst => ?_⟩
  obtain ⟨h3, h4⟩ := h2 hst.symm
  cases hx : C'.h o with
  | absent st => trivial
  | box st hm cs =>
    obtain ⟨⟨hm', cs', h5⟩, h6⟩ := h3 st hm cs hx
    exact ⟨⟨st, hm', cs', h5⟩, h6⟩
  | row st hm fr e t xs =>
    obtain ⟨⟨hm', fr', e', h5⟩, h6⟩ := h4 st hm fr e t xs hx
    refine ⟨⟨st, hm', fr', e', xs, h5, rfl⟩, h6, fun b base cur T _ hh => ⟨cur, by rw [hw]; exact hh, rfl⟩⟩

theorem row_den {C : Cx} {o : Nat} {st : Nat} {hm fr : Bool} {ec : Nat} {t : Ty} {xs : List t.den} {e : Ext} {v : Value} (ho : RepObj tm C (C.μ o) (C.h o)) (hx : C.h o = .row st hm fr ec t xs) (hc : RepCell C (.ref o st e) v)
    {C' : Cx} (hw : C'.w = C.w) (hB : C'.B = C.B) (hM : ∀ b, C'.M b → C.M b) (hgone : ∀ b base, C.μ o = some (b, base) → ¬ C'.M b) (hlt : ∀ b base, C.μ o = some (b, base) → b < C.w.heap.size)
    {fr' : Bool} (hfr : fr' = true → fr = true) (hnew : fr' = true → ∀ b base, C.μ o = some (b, base) → C.B ≤ b) : RepCell C' (.sl fr' t (e.cut xs)) v := by
  obtain ⟨_, _, hr⟩ := hc
  obtain ⟨hok, hrow⟩ := hr hm fr ec t xs hx
  rw [hx] at ho
  obtain ⟨a, cap, hv, hc, hcells⟩ := row_list ho hok hrow
  have hL : C'.L fr' ≤ C.L fr := by
    unfold Cx.L
    rw [hB]
    cases fr' with
    | false => simp
    | true => rw [hfr rfl]; exact Nat.le_refl _
  show RepDen C'.w C'.M (C'.L fr') (.list t) (e.cut xs) [v]
  refine ⟨a, cap, by rw [hv], hc, ?_, ?_⟩
  · rcases hrow with ⟨_, hn, _⟩ | ⟨b, base, ad, cap', cur, T, hm', hv', _, _, hblk, _⟩
    · left
      have hx0 : xs = [] := List.eq_nil_of_length_eq_zero hn
      subst hx0
      refine List.eq_nil_of_length_eq_zero ?_
      rw [num_cut e _ hok]; cases e <;> simp_all [Ext.num, Ext.ok]
    · right
      rw [hv] at hv'
      injection hv' with h1 h2 h3
      refine ⟨ad, h1, ?_, ?_, ?_⟩
      · unfold Cx.L
        cases hf : fr' with
        | false => simp
        | true => rw [hB, hblk]; exact hnew hf b base hm'
      · rw [hw, hblk]; exact hlt b base hm'
      · rw [hblk]; exact hgone b base hm'
  · intro i x hx'
    obtain ⟨ad, us, h1, h2, h3, h4⟩ := hcells i x hx'
    refine ⟨ad, us, h1, h2, fun j u hu => by rw [hw]; exact h3 j u hu, ?_⟩
    rw [hw]
    exact h4.keep (Stp.refl _ _) (fun b _ hb => hM b hb) hL

end
end Go.Kb

/- Each ghost step. -/
namespace Go.Kb

section
variable {tm : Nat → TypeId} {F : Fx} {μ μ' : Nat → Option (Nat × Nat)} {s s' : S} {a : Act} {w : World}

theorem map_cell {f : Cell → Cell} (hM : ∀ b, (s'.cx μ' w F).M b → (s.cx μ w F).M b)
    (hh : ∀ i, (s'.obj i = (s.obj i).mapCell f ∧ μ' i = μ i) ∨ (s.obj i).stamp < (s'.obj i).stamp) {c : Cell} {v : Value} (h : RepCell (s.cx μ w F) c v) : RepCell (s'.cx μ' w F) c v := by
  refine RepCell.less (C := s.cx μ w F) (C' := s'.cx μ' w F) rfl rfl hM (fun o => ?_) h
  simp only [S.cx]
  rcases hh o with ⟨h1, h2⟩ | h1
  · rw [h1, h2, mapObj_stamp]
    refine ⟨Nat.le_refl _, fun _ => ⟨fun st hm cs hx => ⟨?_, rfl⟩, fun st hm fr e t xs hx => ⟨?_, rfl⟩⟩⟩
    · cases hs : s.obj o with
      | box st' hm' cs' => rw [hs] at hx; simp [Obj.mapCell] at hx; exact ⟨hm', cs', by rw [hx.1]⟩
      | absent st' => rw [hs] at hx; cases hx
      | row => rw [hs] at hx; cases hx
    · exact ⟨hm, fr, e, mapObj_row.1 hx⟩
  · exact ⟨Nat.le_of_lt h1, fun he => absurd he (Nat.ne_of_gt h1)⟩

theorem row_lt {o : Nat} {st : Nat} {hm fr : Bool} {e : Nat} {t : Ty} {xs : List t.den} (h : s.obj o = .row st hm fr e t xs) : o < s.h.length := by
  apply Classical.byContradiction
  intro hn
  rw [absent_ge (Nat.le_of_not_lt hn)] at h
  cases h

theorem obj_mapF {C C' : Cx} {f : Cell → Cell} (hk : ∀ c v, RepCell C c v → RepCell C' (f c) v) (hw : C'.w = C.w) (hB : C'.B = C.B) (hM : ∀ b, C'.M b → C.M b) {m : Option (Nat × Nat)} {x : Obj} (h : RepObj tm C m x) :
    RepObj tm C' m (x.mapCell f) := by
  cases x with
  | absent st => trivial
  | box st hm cs =>
    obtain ⟨b, vs, T, h1, h2, h3⟩ := h
    exact ⟨b, vs, T, h1, by rw [hw]; exact h2, RepCells.mapF hk h3⟩
  | row st hm fr e t xs =>
    rcases h with h | ⟨b, base, cur, h1, h2, h3, h4⟩
    · exact .inl h
    · exact .inr ⟨b, base, cur, h1, by rw [hw]; exact h2, h3, fun i x hx => den_less hw hB hM (h4 i x hx)⟩

theorem map_slots {C C' : Cx} {f : Cell → Cell} (hk : ∀ c v, RepCell C c v → RepCell C' (f c) v) {t : List V}
    (h : ∀ (i : Nat) (v : V) (x : Value), t[i]? = some v → a.tmps[i]? = some x → RepV C v x) :
    ∀ (i : Nat) (v : V) (x : Value), (t.map (mapCell f))[i]? = some v → a.tmps[i]? = some x → RepV C' v x := by
  intro i v x hv hx
  rw [List.getElem?_map] at hv
  cases hu : t[i]? with
  | none => rw [hu] at hv; cases hv
  | some u =>
    rw [hu] at hv; injection hv with hv; subst hv
    exact RepV.mapF hk (h i u x hu hx)

theorem mapId (x : V) : mapCell (fun c => c) x = x := by
  cases x with
  | one c => rfl
  | agg cs => simp [mapCell]
  | tup l => simp [mapCell]
  | junk => rfl

theorem objId (x : Obj) : x.mapCell (fun c => c) = x := by cases x <;> simp [Obj.mapCell]

theorem g_freeze (h : RepM tm F μ s a w) (o : Nat) (hg : s.ghost (.freeze o) = some s') : Rep tm F s' a w ∧ s'.h.length = s.h.length := by
  simp only [S.ghost] at hg
  split at hg
  · rename_i st hm fr e t xs hx
    injection hg with hg
    have hlt := row_lt hx
    have hob : ∀ i, s'.obj i = if i = o then .absent (st + 1) else (s.obj i).mapCell (freezeCell s o) := by
      intro i
      rw [← hg, setH_obj]
      have hl : (s.mapCell (freezeCell s o)).h.length = s.h.length := by simp [S.mapCell]
      rw [hl]
      by_cases hi : i = o
      · rw [if_pos ⟨hi, hlt⟩, if_pos hi]
      · rw [if_neg fun hh => hi hh.1, if_neg hi, mapCell_obj]
    have hM : ∀ b, (s'.cx μ w F).M b → (s.cx μ w F).M b := by
      rintro b (hX | ⟨i, base, hp, hm'⟩)
      · exact .inl hX
      refine .inr ?_
      simp only [S.cx] at hp hm'
      rw [hob i] at hp
      split at hp
      · exact hp.elim
      · exact ⟨i, base, mapObj_present.1 hp, hm'⟩
    have hh : ∀ i, (s'.obj i = (s.obj i).mapCell (freezeCell s o) ∧ μ i = μ i) ∨ (s.obj i).stamp < (s'.obj i).stamp := by
      intro i
      rw [hob i]
      by_cases hi : i = o
      · subst hi; rw [if_pos rfl, hx]; right; simp [Obj.stamp]
      · rw [if_neg hi]; exact .inl ⟨rfl, rfl⟩
    have hpo : present (s.obj o) := by rw [hx]; trivial
    have hk : ∀ c v, RepCell (s.cx μ w F) c v → RepCell (s'.cx μ w F) (freezeCell s o c) v := by
      intro c v hc
      unfold freezeCell
      split
      · rename_i o' st' e'
        cases hb : Nat.beq o o'
        · exact map_cell hM hh hc
        · have hb := Nat.eq_of_beq_eq_true hb
          subst hb
          simp only [hx]
          cases hst : Nat.beq st' st
          · trivial
          · have hst := Nat.eq_of_beq_eq_true hst
            subst hst
            refine row_den (C' := s'.cx μ w F) (h.objs o) (by simp only [S.cx]; exact hx) hc rfl rfl hM ?_ ?_ ?_ ?_
            · rintro b base hmu (hX | ⟨i, base', hp, hmi⟩)
              · have hX' := F.hX b hX
                rcases h.own o b base hpo hmu with h1 | ⟨h1, _⟩
                · exact absurd hX'.1 (by omega)
                · exact hX'.2 h1
              simp only [S.cx] at hmu hp hmi
              rw [hob i] at hp
              split at hp
              · exact hp.elim
              · rename_i hi
                exact hi (h.inj i o b base' base (mapObj_present.1 hp) hpo hmi hmu)
            · intro b base hmu; exact h.lt o b base hpo hmu
            · intro hf; simp at hf; exact hf.1
            · intro hf b base hmu
              simp at hf
              rcases h.own o b base hpo hmu with h1 | ⟨_, h2 | h2⟩
              · exact Nat.le_trans F.hB h1
              · rw [hx] at h2; have := h2 hf.1; rw [hf.2] at this; cases this
              · exact h2
      · exact map_cell hM hh hc
    refine ⟨⟨μ, h.change (by rw [← hg]; simp [S.mapCell]) ?_ ?_ ?_ ?_ ?_⟩, by rw [← hg]; simp [S.mapCell]⟩
    · intro i b base hp hmi
      rw [hob i] at hp ⊢
      split at hp
      · exact hp.elim
      · rename_i hi
        rw [if_neg hi]
        exact ⟨i, mapObj_present.1 hp, hmi, mapObj_weak.2⟩
    · intro i j b base base' hp hq hi hj
      rw [hob] at hp hq
      split at hp
      · exact hp.elim
      · split at hq
        · exact hq.elim
        · exact h.inj i j b base base' (mapObj_present.1 hp) (mapObj_present.1 hq) hi hj
    · have : s'.t = s.t.map (mapCell (freezeCell s o)) := by rw [← hg]; rfl
      rw [this]
      exact map_slots hk h.slots
    · intro i
      rw [hob i]
      split
      · trivial
      · exact obj_mapF hk rfl rfl hM (h.objs i)
    · intro i hi
      rw [hob i] at hi ⊢
      by_cases hio : i = o
      · rw [if_pos hio] at hi; cases hi
      · rw [if_neg hio] at hi ⊢
        rw [mapObj_hm] at hi; rw [mapObj_shape]; exact h.home i hi
  · injection hg with hg
    subst hg
    exact ⟨⟨μ, h⟩, rfl⟩

theorem g_drop (h : RepM tm F μ s a w) (o : Nat) (hg : s.ghost (.drop o) = some s') : Rep tm F s' a w ∧ s'.h.length = s.h.length := by
  simp only [S.ghost] at hg
  injection hg with hg
  have hob : ∀ i, s'.obj i = if i = o ∧ o < s.h.length then .absent ((s.obj o).stamp + 1) else s.obj i := by
    intro i
    rw [← hg, setH_obj]
  have hM : ∀ b, (s'.cx μ w F).M b → (s.cx μ w F).M b := by
    rintro b (hX | ⟨i, base, hp, hm'⟩)
    · exact .inl hX
    refine .inr ?_
    simp only [S.cx] at hp hm'
    rw [hob i] at hp
    split at hp
    · exact hp.elim
    · exact ⟨i, base, hp, hm'⟩
  have hk : ∀ c v, RepCell (s.cx μ w F) c v → RepCell (s'.cx μ w F) c v := by
    intro c v
    refine map_cell (f := fun c => c) hM fun i => ?_
    rw [hob i]
    split
    · rename_i hi; right; rw [hi.1]; simp [Obj.stamp]
    · left; exact ⟨(objId _).symm, rfl⟩
  refine ⟨⟨μ, h.change (by rw [← hg]) ?_ ?_ ?_ ?_ ?_⟩, by rw [← hg]; simp⟩
  · intro i b base hp hmi
    rw [hob i] at hp ⊢
    split at hp
    · exact hp.elim
    · rename_i hi
      rw [if_neg hi]
      exact ⟨i, hp, hmi, id⟩
  · intro i j b base base' hp hq hi hj
    rw [hob] at hp hq
    split at hp
    · exact hp.elim
    · split at hq
      · exact hq.elim
      · exact h.inj i j b base base' hp hq hi hj
  · intro i v x hv hx
    exact RepV.map hk (h.slots i v x (by rw [← hg] at hv; exact hv) hx)
  · intro i
    rw [hob i]
    split
    · trivial
    · have := obj_mapF (tm := tm) (f := fun c => c) hk rfl rfl hM (h.objs i)
      rwa [objId] at this
  · intro i hi
    rw [hob i] at hi ⊢
    by_cases hio : i = o ∧ o < s.h.length
    · rw [if_pos hio] at hi; cases hi
    · rw [if_neg hio] at hi ⊢
      exact h.home i hi

theorem g_keep (h : RepM tm F μ s a w) (l : List Nat) (hg : s.ghost (.keep l) = some s') : Rep tm F s' a w ∧ s'.h.length = s.h.length := by
  simp only [S.ghost] at hg
  injection hg with hg
  subst hg
  have hl : ∀ (t : List V) (n : Nat), (keepSlots l n t).length = t.length := by
    intro t
    induction t with
    | nil => intro n; rfl
    | cons v r ih => intro n; simp [keepSlots, ih]
  have hget : ∀ (t : List V) (n i : Nat) (v : V), (keepSlots l n t)[i]? = some v → v = .junk ∨ t[i]? = some v := by
    intro t
    induction t with
    | nil => intro n i v h; simp [keepSlots] at h
    | cons u r ih =>
      intro n i v h
      cases i with
      | zero =>
        simp only [keepSlots, List.getElem?_cons_zero, Option.some.injEq] at h
        split at h
        · right; simpa using h
        · left; exact h.symm
      | succ i => simp only [keepSlots, List.getElem?_cons_succ] at h ⊢; exact ih _ _ _ h
  refine ⟨⟨μ, h.change (hl _ _) (fun i b base hp hm => ⟨i, hp, hm, id⟩) h.inj ?_ h.objs h.home⟩, rfl⟩
  intro i v x hv hx
  rcases hget _ _ _ _ hv with rfl | hv
  · trivial
  · exact h.slots i v x hv hx

theorem g_away (h : RepM tm F μ s a w) (o : Nat) (hg : s.ghost (.away o) = some s') : Rep tm F s' a w ∧ s'.h.length = s.h.length := by
  simp only [S.ghost] at hg
  split at hg
  · rename_i st hm fr e t xs hx
    injection hg with hg
    have hlt := row_lt hx
    have hob : ∀ i, s'.obj i = if i = o then .row st false (fr && !hm) e t xs else s.obj i := by
      intro i
      rw [← hg, setH_obj]
      by_cases hi : i = o
      · rw [if_pos ⟨hi, hlt⟩, if_pos hi]
      · rw [if_neg fun hh => hi hh.1, if_neg hi]
    have hpres : ∀ i, present (s'.obj i) ↔ present (s.obj i) := by
      intro i
      rw [hob i]
      split
      · rename_i hi; rw [hi, hx]; exact Iff.rfl
      · exact Iff.rfl
    have hM : ∀ b, (s'.cx μ w F).M b → (s.cx μ w F).M b := by
      rintro b (hX | ⟨i, base, hp, hm'⟩)
      · exact .inl hX
      refine .inr ?_
      exact ⟨i, base, (hpres i).1 hp, hm'⟩
    have hk : ∀ c v, RepCell (s.cx μ w F) c v → RepCell (s'.cx μ w F) c v := by
      intro c v
      refine RepCell.less (C := s.cx μ w F) (C' := s'.cx μ w F) rfl rfl hM fun i => ?_
      simp only [S.cx]
      rw [hob i]
      split
      · rename_i hi
        rw [hi, hx]
        refine ⟨Nat.le_refl _, fun _ => ⟨fun st hm cs hh => (by cases hh), fun st2 hm2 fr2 e2 t2 xs2 hh => ?_⟩⟩
        injection hh with h1 h2 h3 h4 h5 h6
        subst h1; subst h5
        exact ⟨⟨hm, fr, e, by rw [eq_of_heq h6]⟩, by trivial⟩
      · exact ⟨Nat.le_refl _, fun _ => ⟨fun st hm cs hh => ⟨⟨hm, cs, hh⟩, by trivial⟩, fun st2 hm2 fr2 e2 t2 xs2 hh => ⟨⟨hm2, fr2, e2, hh⟩, by trivial⟩⟩⟩
    refine ⟨⟨μ, h.change (by rw [← hg]) ?_ ?_ ?_ ?_ ?_⟩, by rw [← hg]; simp⟩
    · intro i b base hp hmi
      refine ⟨i, (hpres i).1 hp, hmi, fun hw => ?_⟩
      rw [hob i]
      split
      · rename_i hi
        rw [hi, hx] at hw
        intro h1
        simp at h1
        have := hw h1.1
        rw [h1.2] at this; cases this
      · exact hw
    · intro i j b base base' hp hq
      exact h.inj i j b base base' ((hpres i).1 hp) ((hpres j).1 hq)
    · intro i v x hv hx'
      exact RepV.map hk (h.slots i v x (by rw [← hg] at hv; exact hv) hx')
    · intro i
      have hold := obj_mapF (tm := tm) (f := fun c => c) hk rfl rfl hM (h.objs i)
      rw [objId] at hold
      rw [hob i]
      split
      · rename_i hi
        subst hi
        rw [hx] at hold
        rcases hold with hold | ⟨b, base, cur, h1, h2, h3, h4⟩
        · exact .inl hold
        · exact .inr ⟨b, base, cur, h1, h2, h3, fun i x hxi => den_weaken (C := s'.cx μ w F) (by intro hf; simp at hf; exact hf.1) (h4 i x hxi)⟩
      · exact hold
    · intro i hi
      rw [hob i] at hi ⊢
      by_cases hio : i = o
      · rw [if_pos hio] at hi; cases hi
      · rw [if_neg hio] at hi ⊢
        exact h.home i hi
  · injection hg with hg
    subst hg
    exact ⟨⟨μ, h⟩, rfl⟩

end
end Go.Kb

/- The other ghost steps. -/
namespace Go.Kb

section
variable {tm : Nat → TypeId} {F : Fx} {μ μ' : Nat → Option (Nat × Nat)} {s s' : S} {a : Act} {w : World}

theorem put_same {n : Nat} {y : Value} (h : a.tmps[n]? = some y) : a.put (some n) y = a := by
  have : a.tmps.setIfInBounds n y = a.tmps := by
    apply Array.ext_getElem?
    intro i
    by_cases hi : n = i
    · subst hi
      have hlt := (Array.getElem?_eq_some_iff.1 h).1
      rw [Array.getElem?_setIfInBounds_self_of_lt hlt, h]
    · rw [Array.getElem?_setIfInBounds_ne hi]
  cases a
  simp only [Act.put] at *
  rw [this]

theorem nil_den (w : World) (M : Nat → Prop) (L : Nat) (t : Ty) : RepDen w M L (.list t) [] [.slice none 0 0] :=
  ⟨none, 0, rfl, Nat.le_refl _, .inl rfl, fun i x hx => by simp at hx⟩

theorem slot_value (h : RepM tm F μ s a w) {n : Nat} {c : Cell} (hs : s.slot n = .one c) : ∃ y, a.tmps[n]? = some y ∧ RepCell (s.cx μ w F) c y := by
  rcases slot_rep h n with h1 | ⟨y, h1, h2⟩
  · rw [h1] at hs; cases hs
  · rw [hs] at h2; exact ⟨y, h1, h2⟩

theorem new_row (h : RepM tm F μ s a w) {o e : Nat} {t : Ty} (ho : o < s.h.length) (d : Option Nat) {v : V} {y : Value}
    (hv : ∀ C' : Cx, Kept (s.cx μ w F) C' → C'.h o = .row ((s.obj o).stamp + 1) false true e t [] → C'.μ o = none → RepV C' v y) :
    RepM tm F (setMu μ o none) ((s.put d v).setObj o (.row ((s.obj o).stamp + 1) false true e t [])) (a.put d y) w := by
  refine h.upd1 ho d (Stp.refl _ _) ?_ (Evo.newer (by simp [Obj.stamp])) (fun hh => by cases hh) ?_
  · intro b base _ he; cases he
  · intro C' _ hk h1 h2
    exact ⟨.inl ⟨rfl, rfl⟩, hv C' hk h1 h2⟩

theorem nil_ref {C : Cx} {o e st : Nat} {t : Ty} (h1 : C.h o = .row st false true e t []) (h2 : C.μ o = none) : RepCell C (.ref o st .all) (.slice none 0 0) := by
  refine ⟨⟨_, _, _, rfl⟩, by rw [h1]; exact Nat.le_refl _, fun hm fr ec u xs hx => ?_⟩
  rw [h1] at hx
  injection hx with e1 e2 e3 e4 e5 e6
  subst e5
  have e6 := eq_of_heq e6
  subst e6
  exact ⟨trivial, .inl ⟨h2, rfl, rfl⟩⟩

theorem box_set (h : RepM tm F μ s a w) {b st i : Nat} {hm : Bool} {cs : List Cell} {c : Cell} (hx : s.obj b = .box st hm cs) (hi : i < cs.length)
    (hc : ∀ (y : Value), RepCell (s.cx μ w F) cs[i] y → RepCell (s.cx μ w F) c y) :
    RepM tm F μ (s.setObj b (.box st hm (cs.set i c))) a w := by
  have hlt : b < s.h.length := by
    apply Classical.byContradiction
    intro hn
    rw [absent_ge (Nat.le_of_not_lt hn)] at hx
    cases hx
  have hobj := h.objs b
  rw [hx] at hobj
  obtain ⟨bl, vs, T, h1, h2, h3⟩ := hobj
  have := h.upd1 (x := .box st hm (cs.set i c)) hlt (m := μ b) (w' := w) none (v := .junk) (y := undef) (Stp.refl _ _) ?_ ?_ ?_ ?_
  · have hmu : setMu μ b (μ b) = μ := by funext j; simp only [setMu]; split <;> simp_all
    rw [hmu] at this
    exact this
  · intro b2 base hp he
    exact ⟨.inr ⟨⟨by rw [hx]; trivial, base, he⟩, fun _ => trivial⟩, h.lt b b2 base (by rw [hx]; trivial) he⟩
  · rw [hx]; exact ⟨Nat.le_refl _, fun _ => ⟨⟨st, hm, cs, rfl⟩, rfl⟩⟩
  · intro hh; have := h.home b (by rw [hx]; exact hh); rw [hx] at this; exact ⟨this.1, this.2⟩
  · intro C' hC' hk _ _
    refine ⟨⟨bl, vs, T, h1, by rw [hC']; exact h2, RepCells.map hk.cell ?_⟩, trivial⟩
    have hl := h3.len
    have hvi : i < vs.toList.length := by omega
    have h4 := RepCells.get i h3 (List.getElem?_eq_getElem hi) (List.getElem?_eq_getElem hvi)
    have := RepCells.set i h3 (hc _ h4)
    rwa [List.set_getElem_self] at this

theorem g_mkrow_slot (h : RepM tm F μ s a w) (n o e : Nat) (t : Ty) (ho : o < s.h.length) (hg : s.ghost (.mkrow (.slot n) o e t) = some s') : Rep tm F s' a w ∧ s'.h.length = s.h.length := by
  simp only [S.ghost] at hg
  split at hg
  · rename_i hs
    injection hg with hg
    obtain ⟨y, hy, hc⟩ := slot_value h hs
    have hc : y = .slice none 0 0 := hc
    subst hc
    have := new_row h (e := e) (t := t) ho (some n) (v := .one (.ref o ((s.obj o).stamp + 1) .all)) (y := .slice none 0 0) fun C' hk h1 h2 => nil_ref h1 h2
    rw [put_same hy] at this
    rw [← hg]
    exact ⟨⟨_, this⟩, by simp⟩
  · injection hg with hg
    subst hg
    exact ⟨⟨μ, h⟩, rfl⟩

theorem g_mkrow_box (h : RepM tm F μ s a w) (b i o e : Nat) (t : Ty) (ho : o < s.h.length) (hg : s.ghost (.mkrow (.boxc b i) o e t) = some s') : Rep tm F s' a w ∧ s'.h.length = s.h.length := by
  simp only [S.ghost] at hg
  split at hg
  · rename_i st hm cs hx
    split at hg
    · rename_i hci hob
      injection hg with hg
      have hne : o ≠ b := by rintro rfl; simp at hob
      have h1' : RepM tm F (setMu μ o none) (s.setObj o (.row ((s.obj o).stamp + 1) false true e t [])) a w := new_row h (e := e) (t := t) ho none (v := .junk) (y := undef) fun C' _ _ _ => trivial
      have hob2 : (s.setObj o (.row ((s.obj o).stamp + 1) false true e t [])).obj b = .box st hm cs := by
        rw [setObj_obj s ho, if_neg (Ne.symm hne), hx]
      have hoo : (s.setObj o (.row ((s.obj o).stamp + 1) false true e t [])).obj o = .row ((s.obj o).stamp + 1) false true e t [] := by
        rw [setObj_obj s ho, if_pos rfl]
      have hi : i < cs.length := (List.getElem?_eq_some_iff.1 hci).1
      have hci' : cs[i] = .nil := by rw [List.getElem?_eq_getElem hi] at hci; injection hci
      have h2 := box_set h1' (c := .ref o ((s.obj o).stamp + 1) .all) hob2 hi fun y hy => by
        rw [hci'] at hy
        have hy : y = .slice none 0 0 := hy
        subst hy
        exact nil_ref (C := (s.setObj o (.row ((s.obj o).stamp + 1) false true e t [])).cx (setMu μ o none) w F) hoo (by simp [S.cx, setMu])
      rw [← hg]
      refine ⟨⟨setMu μ o none, ?_⟩, by simp⟩
      have he : ({ s with h := (s.h.set b (.box st hm (cs.set i (.ref o ((s.obj o).stamp + 1) .all)))).set o (.row ((s.obj o).stamp + 1) false true e t []) } : S) = (s.setObj o (.row ((s.obj o).stamp + 1) false true e t [])).setObj b (.box st hm (cs.set i (.ref o ((s.obj o).stamp + 1) .all))) := by
        unfold S.setObj
        simp only []
        rw [List.set_comm _ _ (Ne.symm hne)]
      rw [he]
      exact h2
    · injection hg with hg
      subst hg
      exact ⟨⟨μ, h⟩, rfl⟩
  · injection hg with hg
    subst hg
    exact ⟨⟨μ, h⟩, rfl⟩

theorem g_unnil_slot (h : RepM tm F μ s a w) (n : Nat) (t : Ty) (hg : s.ghost (.unnil (.slot n) t) = some s') : Rep tm F s' a w ∧ s'.h.length = s.h.length := by
  simp only [S.ghost] at hg
  split at hg
  · rename_i hs
    injection hg with hg
    obtain ⟨y, hy, hc⟩ := slot_value h hs
    have hc : y = .slice none 0 0 := hc
    subst hc
    have := h.put (some n) (v := .one (.sl true t [])) (x := .slice none 0 0) (nil_den _ _ _ t)
    rw [put_same hy] at this
    rw [← hg]
    exact ⟨⟨_, this⟩, rfl⟩
  · injection hg with hg
    subst hg
    exact ⟨⟨μ, h⟩, rfl⟩

theorem g_unnil_box (h : RepM tm F μ s a w) (b i : Nat) (t : Ty) (hg : s.ghost (.unnil (.boxc b i) t) = some s') : Rep tm F s' a w ∧ s'.h.length = s.h.length := by
  simp only [S.ghost] at hg
  split at hg
  · rename_i st hm cs hx
    split at hg
    · rename_i hci
      injection hg with hg
      have hi : i < cs.length := (List.getElem?_eq_some_iff.1 hci).1
      have hci' : cs[i] = .nil := by rw [List.getElem?_eq_getElem hi] at hci; injection hci
      have h2 := box_set h (c := .sl true t []) hx hi fun y hy => by
        rw [hci'] at hy
        have hy : y = .slice none 0 0 := hy
        subst hy
        exact nil_den _ _ _ t
      rw [← hg]
      exact ⟨⟨_, h2⟩, by simp⟩
    · injection hg with hg
      subst hg
      exact ⟨⟨μ, h⟩, rfl⟩
  · injection hg with hg
    subst hg
    exact ⟨⟨μ, h⟩, rfl⟩

end
end Go.Kb

/- Renaming, weakening, renumbering. -/
namespace Go.Kb

section
variable {tm : Nat → TypeId} {F : Fx} {μ μ' : Nat → Option (Nat × Nat)} {s s' : S} {a : Act} {w : World}

theorem g_rename (h : RepM tm F μ s a w) (o o' : Nat) (ho' : o' < s.h.length) (hg : s.ghost (.rename o o') = some s') : Rep tm F s' a w ∧ s'.h.length = s.h.length := by
  simp only [S.ghost] at hg
  split at hg
  · rename_i st hm fr e t xs hx
    split at hg
    · injection hg with hg; subst hg; exact ⟨⟨μ, h⟩, rfl⟩
    rename_i hoo
    have hne : o ≠ o' := by rintro rfl; simp at hoo
    injection hg with hg
    have hlt := row_lt hx
    have hpo : present (s.obj o) := by rw [hx]; trivial
    have hob : ∀ i, s'.obj i = if i = o' then .row ((s.obj o').stamp + 1) false (fr && !hm) e t xs else if i = o then .absent (st + 1) else (s.obj i).mapCell (renameCell s o o') := by
      intro i
      rw [← hg]
      have hl : (s.mapCell (renameCell s o o')).h.length = s.h.length := by simp [S.mapCell]
      have e1 := setH_obj { (s.mapCell (renameCell s o o')) with h := (s.mapCell (renameCell s o o')).h.set o (.absent (st + 1)) } o' (.row ((s.obj o').stamp + 1) false (fr && !hm) e t xs) i
      simp only [List.length_set, hl] at e1
      rw [e1]
      by_cases hi : i = o'
      · rw [if_pos ⟨hi, ho'⟩, if_pos hi]
      · rw [if_neg fun hh => hi hh.1, if_neg hi]
        have e2 := setH_obj (s.mapCell (renameCell s o o')) o (.absent (st + 1)) i
        rw [hl] at e2
        rw [e2]
        by_cases hi2 : i = o
        · rw [if_pos ⟨hi2, hlt⟩, if_pos hi2]
        · rw [if_neg fun hh => hi2 hh.1, if_neg hi2, mapCell_obj]
    have hmu : ∀ i, setMu μ o' (μ o) i = if i = o' then μ o else μ i := fun i => rfl
    have hM : ∀ b, (s'.cx (setMu μ o' (μ o)) w F).M b → (s.cx μ w F).M b := by
      rintro b (hX | ⟨i, base, hp, hm'⟩)
      · exact .inl hX
      refine .inr ?_
      simp only [S.cx] at hp hm'
      rw [hob i] at hp
      rw [hmu i] at hm'
      split at hp
      · rename_i hi
        rw [if_pos hi] at hm'
        exact ⟨o, base, hpo, hm'⟩
      · rename_i hi
        rw [if_neg hi] at hm'
        split at hp
        · exact hp.elim
        · exact ⟨i, base, mapObj_present.1 hp, hm'⟩
    have hh : ∀ i, (s'.obj i = (s.obj i).mapCell (renameCell s o o') ∧ setMu μ o' (μ o) i = μ i) ∨ (s.obj i).stamp < (s'.obj i).stamp := by
      intro i
      rw [hob i, hmu i]
      by_cases hi : i = o'
      · subst hi; rw [if_pos rfl]; right; simp [Obj.stamp]
      · rw [if_neg hi, if_neg hi]
        by_cases hi2 : i = o
        · subst hi2; rw [if_pos rfl, hx]; right; simp [Obj.stamp]
        · rw [if_neg hi2]; exact .inl ⟨rfl, rfl⟩
    have hnew : s'.obj o' = .row ((s.obj o').stamp + 1) false (fr && !hm) e t xs := by rw [hob, if_pos rfl]
    have hk : ∀ c v, RepCell (s.cx μ w F) c v → RepCell (s'.cx (setMu μ o' (μ o)) w F) (renameCell s o o' c) v := by
      intro c v hc
      unfold renameCell
      split
      · rename_i o1 st' e'
        cases hb : Nat.beq o o1
        · exact map_cell hM hh hc
        · have hb := Nat.eq_of_beq_eq_true hb
          subst hb
          simp only []
          cases hst : Nat.beq st' (s.obj o).stamp
          · trivial
          · have hst := Nat.eq_of_beq_eq_true hst
            rw [hx] at hst
            obtain ⟨h0, _, h2⟩ := hc
            refine ⟨h0, by show _ ≤ (s'.obj o').stamp; rw [hnew]; exact Nat.le_refl _, fun hm2 fr2 ec2 t2 xs2 hx2 => ?_⟩
            have hx2 : s'.obj o' = .row ((s.obj o').stamp + 1) hm2 fr2 ec2 t2 xs2 := hx2
            rw [hnew] at hx2
            injection hx2 with e1 e2 e3 e4 e5 e6
            subst e5
            have e6 := eq_of_heq e6
            subst e6
            have hst' : st' = st := hst
            subst hst'
            have := h2 hm fr e t xs hx
            refine ⟨this.1, ?_⟩
            show RepRow w (setMu μ o' (μ o) o') _ _ _ _ _
            rw [hmu, if_pos rfl]
            exact this.2
      · split
        · trivial
        · exact map_cell hM hh hc
      · exact map_cell hM hh hc
    refine ⟨⟨setMu μ o' (μ o), h.change (by rw [← hg]; simp [S.mapCell]) ?_ ?_ ?_ ?_ ?_⟩, by rw [← hg]; simp [S.mapCell]⟩
    · intro i b base hp hmi
      rw [hob i] at hp ⊢
      rw [hmu i] at hmi
      by_cases hi : i = o'
      · rw [if_pos hi] at hp hmi ⊢
        refine ⟨o, hpo, hmi, fun hw => ?_⟩
        rw [hx] at hw
        intro h1
        simp at h1
        have := hw h1.1
        rw [h1.2] at this; cases this
      · rw [if_neg hi] at hp hmi ⊢
        by_cases hi2 : i = o
        · rw [if_pos hi2] at hp; exact hp.elim
        · rw [if_neg hi2] at hp ⊢
          exact ⟨i, mapObj_present.1 hp, hmi, mapObj_weak.2⟩
    · intro i j b base base' hp hq hi hj
      rw [hob] at hp hq
      rw [hmu] at hi hj
      by_cases hi' : i = o' <;> by_cases hj' : j = o'
      · rw [hi', hj']
      · rw [if_pos hi'] at hi
        rw [if_neg hj'] at hj hq
        by_cases hj2 : j = o
        · rw [if_pos hj2] at hq; exact hq.elim
        · rw [if_neg hj2] at hq
          exact absurd (h.inj o j b base base' hpo (mapObj_present.1 hq) hi hj) (Ne.symm hj2)
      · rw [if_pos hj'] at hj
        rw [if_neg hi'] at hi hp
        by_cases hi2 : i = o
        · rw [if_pos hi2] at hp; exact hp.elim
        · rw [if_neg hi2] at hp
          exact absurd (h.inj i o b base base' (mapObj_present.1 hp) hpo hi hj) hi2
      · rw [if_neg hi'] at hi hp
        rw [if_neg hj'] at hj hq
        by_cases hi2 : i = o
        · rw [if_pos hi2] at hp; exact hp.elim
        · by_cases hj2 : j = o
          · rw [if_pos hj2] at hq; exact hq.elim
          · rw [if_neg hi2] at hp
            rw [if_neg hj2] at hq
            exact h.inj i j b base base' (mapObj_present.1 hp) (mapObj_present.1 hq) hi hj
    · have : s'.t = s.t.map (mapCell (renameCell s o o')) := by rw [← hg]; rfl
      rw [this]
      exact map_slots hk h.slots
    · intro i
      rw [hob i, hmu i]
      by_cases hi : i = o'
      · rw [if_pos hi, if_pos hi]
        have hold := h.objs o
        rw [hx] at hold
        rcases hold with hold | ⟨b, base, cur, h1, h2, h3, h4⟩
        · exact .inl hold
        · refine .inr ⟨b, base, cur, h1, h2, h3, fun i x hxi => ?_⟩
          have := den_less (C := s.cx μ w F) (C' := s'.cx (setMu μ o' (μ o)) w F) rfl rfl hM (h4 i x hxi)
          exact den_weaken (by intro hf; simp at hf; exact hf.1) this
      · rw [if_neg hi, if_neg hi]
        split
        · trivial
        · exact obj_mapF (C := s.cx μ w F) (C' := s'.cx (setMu μ o' (μ o)) w F) hk rfl rfl hM (h.objs i)
    · intro i hi
      rw [hob i] at hi ⊢
      rw [hmu i]
      by_cases hi' : i = o'
      · rw [if_pos hi'] at hi; cases hi
      · rw [if_neg hi'] at hi ⊢
        rw [if_neg hi']
        by_cases hi2 : i = o
        · rw [if_pos hi2] at hi; cases hi
        · rw [if_neg hi2] at hi ⊢
          rw [mapObj_hm] at hi; rw [mapObj_shape]; exact h.home i hi
  · injection hg with hg
    subst hg
    exact ⟨⟨μ, h⟩, rfl⟩

theorem getD_map (l : List Obj) (f : Obj → Obj) (hf : f (.absent 0) = .absent 0) (i : Nat) : (l.map f).getD i (.absent 0) = f (l.getD i (.absent 0)) := by
  simp only [List.getD_eq_getElem?_getD, List.getElem?_map]
  cases l[i]? with
  | none => exact hf.symm
  | some x => rfl

theorem g_weak (h : RepM tm F μ s a w) (hg : s.ghost .weak = some s') : Rep tm F s' a w ∧ s'.h.length = s.h.length := by
  simp only [S.ghost] at hg
  injection hg with hg
  have hob : ∀ i, s'.obj i = ((s.obj i).mapCell weakCell).weak := by
    intro i
    rw [← hg]
    show ((s.h.map (Obj.mapCell weakCell)).map Obj.weak).getD i (.absent 0) = _
    rw [getD_map _ Obj.weak rfl, getD_map _ _ rfl]
    rfl
  have hpres : ∀ i, present (s'.obj i) ↔ present (s.obj i) := by
    intro i
    rw [hob i]
    cases s.obj i <;> exact Iff.rfl
  have hM : ∀ b, (s'.cx μ w F).M b → (s.cx μ w F).M b := by
    rintro b (hX | ⟨i, base, hp, hm'⟩)
    · exact .inl hX
    refine .inr ?_
    exact ⟨i, base, (hpres i).1 hp, hm'⟩
  have hk0 : ∀ c v, RepCell (s.cx μ w F) c v → RepCell (s'.cx μ w F) c v := by
    intro c v
    refine RepCell.less (C := s.cx μ w F) (C' := s'.cx μ w F) rfl rfl hM fun i => ?_
    simp only [S.cx]
    rw [hob i]
    cases hx : s.obj i with
    | absent st => exact ⟨Nat.le_refl _, fun _ => ⟨fun _ _ _ hh => (by cases hh), fun _ _ _ _ _ _ hh => (by cases hh)⟩⟩
    | box st hm cs =>
      refine ⟨Nat.le_refl _, fun _ => ⟨fun st2 hm2 cs2 hh => ?_, fun _ _ _ _ _ _ hh => (by cases hh)⟩⟩
      simp only [Obj.mapCell, Obj.weak] at hh
      injection hh with h1 h2 h3
      subst h1
      exact ⟨⟨hm, cs, rfl⟩, by trivial⟩
    | row st hm fr e t xs =>
      refine ⟨Nat.le_refl _, fun _ => ⟨fun _ _ _ hh => (by cases hh), fun st2 hm2 fr2 e2 t2 xs2 hh => ?_⟩⟩
      simp only [Obj.mapCell, Obj.weak] at hh
      injection hh with h1 h2 h3 h4 h5 h6
      subst h1; subst h5
      exact ⟨⟨hm, fr, e, by rw [eq_of_heq h6]⟩, by trivial⟩
  have hk : ∀ c v, RepCell (s.cx μ w F) c v → RepCell (s'.cx μ w F) (weakCell c) v := by
    intro c v hc
    have hc' := hk0 c v hc
    unfold weakCell
    split
    · exact den_weaken (C := s'.cx μ w F) (f := false) (by intro hf; cases hf) hc'
    · rename_i fr t x off
      obtain ⟨ad, us, h1, h2, h3, h4, h5, h6, h7⟩ := hc'
      exact ⟨ad, us, h1, h2, by simp [Cx.L], h4, h5, h6, den_weaken (C := s'.cx μ w F) (f := false) (by intro hf; cases hf) h7⟩
    · exact hc'
  refine ⟨⟨μ, h.change (by rw [← hg]; simp [S.mapCell]) ?_ ?_ ?_ ?_ ?_⟩, by rw [← hg]; simp [S.mapCell]⟩
  · intro i b base hp hmi
    refine ⟨i, (hpres i).1 hp, hmi, fun _ => ?_⟩
    rw [hob i]
    cases s.obj i with
    | absent st => trivial
    | box st hm cs => trivial
    | row st hm fr e t xs => intro hf; cases hf
  · intro i j b base base' hp hq
    exact h.inj i j b base base' ((hpres i).1 hp) ((hpres j).1 hq)
  · have : s'.t = s.t.map (mapCell weakCell) := by rw [← hg]; rfl
    rw [this]
    exact map_slots hk h.slots
  · intro i
    rw [hob i]
    have hold := obj_mapF (tm := tm) (C := s.cx μ w F) (C' := s'.cx μ w F) hk rfl rfl hM (h.objs i)
    simp only [S.cx] at hold ⊢
    cases hx : s.obj i with
    | absent st => trivial
    | box st hm cs => rw [hx] at hold; exact hold
    | row st hm fr e t xs =>
      rw [hx] at hold
      rcases hold with hold | ⟨b, base, cur, h1, h2, h3, h4⟩
      · exact .inl hold
      · exact .inr ⟨b, base, cur, h1, h2, h3, fun i x hxi => den_weaken (C := s'.cx μ w F) (f := false) (by intro hf; cases hf) (h4 i x hxi)⟩
  · intro i hi
    rw [hob i] at hi ⊢
    have h1 := h.home i (by cases hx : s.obj i <;> rw [hx] at hi <;> exact hi)
    refine ⟨h1.1, ?_⟩
    rw [← h1.2]
    cases s.obj i <;> rfl

theorem isRow_spec {x : Obj} {st : Nat} (h : x.isRow st = true) : ∃ hm fr e t, ∃ xs : List (Ty.den t), x = .row st hm fr e t xs := by
  cases x with
  | row st' hm fr e t xs => exact ⟨hm, fr, e, t, xs, by rw [Nat.eq_of_beq_eq_true h]⟩
  | absent => cases h
  | box => cases h

theorem isBox_spec {x : Obj} {st : Nat} (h : x.isBox st = true) : ∃ hm cs, x = .box st hm cs := by
  cases x with
  | box st' hm cs => exact ⟨hm, cs, by rw [Nat.eq_of_beq_eq_true h]⟩
  | absent => cases h
  | row => cases h

theorem g_norm (h : RepM tm F μ s a w) (hg : s.ghost .norm = some s') : Rep tm F s' a w ∧ s'.h.length = s.h.length := by
  simp only [S.ghost] at hg
  injection hg with hg
  have hob : ∀ i, s'.obj i = ((s.obj i).mapCell (normCell s)).zero := by
    intro i
    rw [← hg]
    show (s.h.map fun x => (x.mapCell (normCell s)).zero).getD i (.absent 0) = _
    rw [getD_map _ (fun x => (x.mapCell (normCell s)).zero) rfl]
    rfl
  have hpres : ∀ i, present (s'.obj i) ↔ present (s.obj i) := by
    intro i
    rw [hob i]
    cases s.obj i <;> exact Iff.rfl
  have hM : ∀ b, (s'.cx μ w F).M b → (s.cx μ w F).M b := by
    rintro b (hX | ⟨i, base, hp, hm'⟩)
    · exact .inl hX
    refine .inr ?_
    exact ⟨i, base, (hpres i).1 hp, hm'⟩
  have hst : ∀ i, (s'.obj i).stamp = 0 := by intro i; rw [hob i]; cases s.obj i <;> rfl
  have hk : ∀ c v, RepCell (s.cx μ w F) c v → RepCell (s'.cx μ w F) (normCell s c) v := by
    intro c v hc
    unfold normCell
    split
    · rename_i o st e
      cases hr : (s.obj o).isRow st
      · trivial
      · obtain ⟨hm, fr, ec, t, xs, hx⟩ := isRow_spec hr
        obtain ⟨h0, _, h2⟩ := hc
        refine ⟨h0, Nat.zero_le _, fun hm2 fr2 ec2 t2 xs2 hx2 => ?_⟩
        have hx2 : s'.obj o = .row 0 hm2 fr2 ec2 t2 xs2 := hx2
        rw [hob, hx] at hx2
        simp only [Obj.mapCell, Obj.zero] at hx2
        injection hx2 with e1 e2 e3 e4 e5 e6
        subst e5
        rw [← eq_of_heq e6]
        exact h2 hm fr ec t xs hx
    · rename_i o st off
      cases hr : (s.obj o).isBox st
      · trivial
      · obtain ⟨hm, cs, hx⟩ := isBox_spec hr
        obtain ⟨h0, _, h2⟩ := hc
        exact ⟨h0, Nat.zero_le _, fun hm2 cs2 hx2 => h2 hm cs hx⟩
    · rename_i o st i off
      cases hr : (s.obj o).isRow st
      · trivial
      · obtain ⟨hm, fr, ec, t, xs, hx⟩ := isRow_spec hr
        obtain ⟨h0, _, h2⟩ := hc
        refine ⟨h0, Nat.zero_le _, fun hm2 fr2 ec2 t2 xs2 hx2 => ?_⟩
        have hx2 : s'.obj o = .row 0 hm2 fr2 ec2 t2 xs2 := hx2
        rw [hob, hx] at hx2
        simp only [Obj.mapCell, Obj.zero] at hx2
        injection hx2 with e1 e2 e3 e4 e5 e6
        subst e5
        rw [← eq_of_heq e6]
        exact h2 hm fr ec t xs hx
    · rename_i c' n1 n2 n3
      cases c with
      | sl fr t xs => exact den_less (C := s.cx μ w F) (C' := s'.cx μ w F) rfl rfl hM hc
      | dptr fr t x off =>
        obtain ⟨ad, us, h1, h2, h3, h4, h5, h6, h7⟩ := hc
        exact ⟨ad, us, h1, h2, h3, h4, fun hb => h5 (hM _ hb), h6, den_less (C := s.cx μ w F) (C' := s'.cx μ w F) rfl rfl hM h7⟩
      | ref o st e => exact absurd rfl (n1 o st e)
      | ptr o st off => exact absurd rfl (n2 o st off)
      | eptr o st i off => exact absurd rfl (n3 o st i off)
      | int k n => exact hc
      | bool b => exact hc
      | str b => exact hc
      | nil => exact hc
      | junk => trivial
  refine ⟨⟨μ, h.change (by rw [← hg]; simp) ?_ ?_ ?_ ?_ ?_⟩, by rw [← hg]; simp⟩
  · intro i b base hp hmi
    refine ⟨i, (hpres i).1 hp, hmi, fun hw => ?_⟩
    rw [hob i]
    cases hx : s.obj i with
    | absent st => trivial
    | box st hm cs => trivial
    | row st hm fr e t xs => rw [hx] at hw; exact hw
  · intro i j b base base' hp hq
    exact h.inj i j b base base' ((hpres i).1 hp) ((hpres j).1 hq)
  · have : s'.t = s.t.map (mapCell (normCell s)) := by rw [← hg]
    rw [this]
    exact map_slots hk h.slots
  · intro i
    rw [hob i]
    have hold := obj_mapF (tm := tm) (C := s.cx μ w F) (C' := s'.cx μ w F) hk rfl rfl hM (h.objs i)
    simp only [S.cx] at hold ⊢
    cases hx : s.obj i with
    | absent st => trivial
    | box st hm cs => rw [hx] at hold; exact hold
    | row st hm fr e t xs => rw [hx] at hold; exact hold
  · intro i hi
    rw [hob i] at hi ⊢
    have h1 := h.home i (by cases hx : s.obj i <;> rw [hx] at hi <;> exact hi)
    refine ⟨h1.1, ?_⟩
    rw [← h1.2]
    cases s.obj i <;> rfl

def Loc.ok (_ : Loc) : Bool := true

def ghostOk (n : Nat) : Ghost → Bool
  | .rename _ o' => Nat.blt o' n
  | .mkrow _ o _ _ => Nat.blt o n
  | _ => true

def ghostsOk (n : Nat) : List Ghost → Bool
  | [] => true
  | g :: r => ghostOk n g && ghostsOk n r

theorem ghost_sound {g : Ghost} (hok : ghostOk s.h.length g = true) (h : Rep tm F s a w) (hg : s.ghost g = some s') : Rep tm F s' a w ∧ s'.h.length = s.h.length := by
  obtain ⟨μ, h⟩ := h
  cases g with
  | freeze o => exact g_freeze h o hg
  | rename o o' => exact g_rename h o o' (by simpa [ghostOk, Nat.blt_eq] using hok) hg
  | mkrow l o e t =>
    have ho : o < s.h.length := by simpa [ghostOk, Nat.blt_eq] using hok
    cases l with
    | slot n => exact g_mkrow_slot h n o e t ho hg
    | boxc b i => exact g_mkrow_box h b i o e t ho hg
  | unnil l t =>
    cases l with
    | slot n => exact g_unnil_slot h n t hg
    | boxc b i => exact g_unnil_box h b i t hg
  | keep l => exact g_keep h l hg
  | drop o => exact g_drop h o hg
  | away o => exact g_away h o hg
  | weak => exact g_weak h hg
  | norm => exact g_norm h hg

theorem ghosts_sound : ∀ {gs : List Ghost} {s s' : S}, ghostsOk s.h.length gs = true → Rep tm F s a w → s.ghosts gs = some s' → Rep tm F s' a w ∧ s'.h.length = s.h.length := by
  intro gs
  induction gs with
  | nil => intro s s' _ h hg; simp only [S.ghosts] at hg; injection hg with hg; subst hg; exact ⟨h, rfl⟩
  | cons g r ih =>
    intro s s' hok h hg
    simp only [ghostsOk, Bool.and_eq_true] at hok
    simp only [S.ghosts] at hg
    split at hg
    · rename_i s1 hs1
      obtain ⟨h1, h2⟩ := ghost_sound hok.1 h hs1
      obtain ⟨h3, h4⟩ := ih (by rw [h2]; exact hok.2) h1 hg
      exact ⟨h3, h4.trans h2⟩
    · cases hg

end
end Go.Kb

/- Code does what its abstract code does. -/
namespace Go.Kb

def codeOk (E : Env1) (nobj : Nat) : XCode → Code → Bool
  | .skip, c => match c with
    | .skip => true
    | _ => false
  | .region d xs, c => match c with
    | .region _ ops d' => d == d' && (opsOk E nobj ops ops.toList xs && (!d || drawAll ops xs ops.size))
    | _ => false
  | .seq x y, c => match c with
    | .seq a b => codeOk E nobj x a && codeOk E nobj y b
    | _ => false
  | .cond z x y, c => match c with
    | .cond o a b => argOk z o && (codeOk E nobj x a && codeOk E nobj y b)
    | _ => false
  | .block i x, c => match c with
    | .block j a => Nat.beq i j && codeOk E nobj x a
    | _ => false
  | .loop h x, c => match c with
    | .loop a => ghostsOk nobj h && codeOk E nobj x a
    | _ => false
  | .exit i, c => match c with
    | .exit j => Nat.beq i j
    | _ => false
  | .ret, c => match c with
    | .ret => true
    | _ => false
  | .adj h x, c => ghostsOk nobj h && codeOk E nobj x c

def exOf : Ex → Exit
  | .normal => .normal
  | .exit id => .exit id
  | .ret => .ret

section
variable {E : Env1} {F : Fx} {fs : Nat → FS} {nobj : Nat}

def Post (E : Env1) (F : Fx) (nobj : Nat) {R : Type} (k : Ex → S → Option R) (r : R) (e : Exit) (a : Act) (w : World) : Prop :=
  ∃ ex s, e = exOf ex ∧ s.h.length = nobj ∧ Rep E.tm F s a w ∧ k ex s = some r

theorem code_sound (heqT : ∀ T t, E.eqT T t = true → eqTB E.P T t = true) (hcall : CallOk E F fs nobj) (hmix : E.P.follows .mixedOrders = true) (N : Nat) :
    ∀ (x : XCode) (c : Code), codeOk E nobj x c = true → ∀ {R : Type} (s : S) (k : Ex → S → Option R) (r : R) (a : Act) (w : World), x.runK (envOf fs) N s k = some r → s.h.length = nobj → Rep E.tm F s a w →
      c.wp E.P (Post E F nobj k r) a w := by
  intro x
  induction x with
  | skip =>
    intro c hok R s k r a w h hn hr
    simp only [codeOk] at hok
    split at hok <;> try (cases hok; done)
    exact wp_skip ⟨.normal, s, rfl, hn, hr, h⟩
  | region d xs =>
    intro c hok R s k r a w h hn hr
    simp only [codeOk] at hok
    split at hok <;> try (cases hok; done)
    rename_i id ops d'
    simp only [Bool.and_eq_true] at hok
    obtain ⟨h1, h2, h3⟩ := hok
    have h1 : d = d' := by simpa using h1
    subst h1
    simp only [XCode.runK] at h
    have hQ : ∀ s a w, s.h.length = nobj → Rep E.tm F s a w → k .normal s = some r → Post E F nobj k r .normal a w := fun s a w hn hr hk => ⟨.normal, s, rfl, hn, hr, hk⟩
    cases d with
    | false => exact region_seq heqT hcall h2 hQ h hn hr
    | true => exact region_any heqT hcall hmix h2 (by simpa using h3) hQ h hn hr
  | seq x y ihx ihy =>
    intro c hok R s k r a w h hn hr
    simp only [codeOk] at hok
    split at hok <;> try (cases hok; done)
    simp only [Bool.and_eq_true] at hok
    simp only [XCode.runK] at h
    refine wp_seq (wp_mono (ihx _ hok.1 s _ r a w h hn hr) ?_)
    rintro e a' w' ⟨ex, s', rfl, hn', hr', hk⟩
    cases ex with
    | normal => exact ihy _ hok.2 s' k r a' w' hk hn' hr'
    | exit id => exact ⟨.exit id, s', rfl, hn', hr', hk⟩
    | ret => exact ⟨.ret, s', rfl, hn', hr', hk⟩
  | cond z x y ihx ihy =>
    intro c hok R s k r a w h hn hr
    simp only [codeOk] at hok
    split at hok <;> try (cases hok; done)
    rename_i o ca cb
    simp only [Bool.and_eq_true] at hok
    simp only [XCode.runK] at h
    split at h <;> try (cases h; done)
    rename_i b hb
    obtain ⟨μ, hr'⟩ := hr
    have hv := arg_rep hr' hok.1
    rw [hb] at hv
    have hv : a.eval o = .bool b := hv
    refine wp_cond hv ?_
    cases b with
    | true => exact ihx _ hok.2.1 s k r a w h hn ⟨μ, hr'⟩
    | false => exact ihy _ hok.2.2 s k r a w h hn ⟨μ, hr'⟩
  | block i x ih =>
    intro c hok R s k r a w h hn hr
    simp only [codeOk] at hok
    split at hok <;> try (cases hok; done)
    simp only [Bool.and_eq_true] at hok
    have hi := Nat.eq_of_beq_eq_true hok.1
    subst hi
    simp only [XCode.runK] at h
    refine wp_block (wp_mono (ih _ hok.2 s _ r a w h hn hr) ?_)
    rintro e a' w' ⟨ex, s', rfl, hn', hr', hk⟩
    cases ex with
    | normal => exact ⟨.normal, s', rfl, hn', hr', hk⟩
    | exit id =>
      simp only [exOf, Exit.inBlock]
      simp only [blockK] at hk
      split at hk
      · rename_i hb
        have := Nat.eq_of_beq_eq_true hb
        rw [if_pos this]
        exact ⟨.normal, s', rfl, hn', hr', hk⟩
      · rename_i hb
        rw [if_neg fun hh => by rw [hh] at hb; simp at hb]
        exact ⟨.exit id, s', rfl, hn', hr', hk⟩
    | ret => exact ⟨.ret, s', rfl, hn', hr', hk⟩
  | loop g x ih =>
    intro c hok R s k r a w h hn hr
    simp only [codeOk] at hok
    split at hok <;> try (cases hok; done)
    rename_i body
    simp only [Bool.and_eq_true] at hok
    simp only [XCode.runK] at h
    obtain ⟨s1, hs1, h⟩ := bindO_some h
    subst hn
    obtain ⟨hr1, hn1⟩ := ghosts_sound hok.1 hr hs1
    refine wp_loop_ghost (fun n a w => ∃ s', loopK g (fun s k => x.runK (envOf fs) N s k) n s' k = some r ∧ s'.h.length = s.h.length ∧ Rep E.tm F s' a w) N ⟨s1, h, hn1, hr1⟩ ?_
    rintro n a' w' ⟨s2, h2, hn2, hr2⟩
    cases n with
    | zero => cases h2
    | succ n =>
      simp only [loopK] at h2
      refine wp_mono (ih _ hok.2 s2 _ r a' w' h2 hn2 hr2) ?_
      rintro e a3 w3 ⟨ex, s3, rfl, hn3, hr3, hk⟩
      cases ex with
      | normal =>
        simp only [seqK] at hk
        obtain ⟨s4, hs4, hk⟩ := bindO_some hk
        obtain ⟨hr4, hn4⟩ := ghosts_sound (by rw [hn3]; exact hok.1) hr3 hs4
        exact ⟨n, Nat.lt_succ_self n, s4, hk, hn4.trans hn3, hr4⟩
      | exit id => exact ⟨.exit id, s3, rfl, hn3, hr3, hk⟩
      | ret => exact ⟨.ret, s3, rfl, hn3, hr3, hk⟩
  | exit i =>
    intro c hok R s k r a w h hn hr
    simp only [codeOk] at hok
    split at hok <;> try (cases hok; done)
    have hi := Nat.eq_of_beq_eq_true hok
    subst hi
    exact wp_exit ⟨.exit i, s, rfl, hn, hr, h⟩
  | ret =>
    intro c hok R s k r a w h hn hr
    simp only [codeOk] at hok
    split at hok <;> try (cases hok; done)
    exact wp_ret ⟨.ret, s, rfl, hn, hr, h⟩
  | adj g x ih =>
    intro c hok R s k r a w h hn hr
    simp only [codeOk, Bool.and_eq_true] at hok
    simp only [XCode.runK] at h
    obtain ⟨s1, hs1, h⟩ := bindO_some h
    subst hn
    obtain ⟨hr1, hn1⟩ := ghosts_sound hok.1 hr hs1
    exact ih _ hok.2 s1 k r a w h hn1 hr1

end
end Go.Kb

/- What a function does for its caller. -/
namespace Go.Kb

def FlatRep (w : World) (M : Nat → Prop) (B : Nat) : Cell → Value → Prop
  | .int k n, v => v = .int k n
  | .bool b, v => v = .bool b
  | .str s, v => ∃ b : ByteArray, v = .string b ∧ b.data.toList = s
  | .nil, v => v = .slice none 0 0
  | .sl fr t xs, v => RepDen w M (if fr then B else 0) (.list t) xs [v]
  | _, _ => False

def RowAt (tm : Nat → TypeId) (w : World) (M : Nat → Prop) (B : Nat) (m : Option (Nat × Nat)) (fr : Bool) (e : Nat) (t : Ty) (xs : List t.den) : Prop :=
  (m = none ∧ xs = []) ∨ ∃ b base cur, m = some (b, base) ∧ w.heap[b]? = some (.cells cur (tm e) (0, 0)) ∧ base + xs.length * t.sz ≤ cur.size ∧ RepElems w M (if fr then B else 0) t base cur xs

def ParsR (w : World) (home : Nat → Option (Nat × Nat)) : List FPar → List Value → List Value → Prop
  | [], [], raw => raw = []
  | .val true n :: ps, v :: vs, raw => ∃ us rest, v = .agg us.toArray ∧ us.length = n ∧ raw = us ++ rest ∧ ParsR w home ps vs rest
  | .val false n :: ps, v :: vs, raw => ∃ rest, n = 1 ∧ raw = v :: rest ∧ ParsR w home ps vs rest
  | .box o n :: ps, v :: vs, raw => ∃ b us T rest, home o = some (b, 0) ∧ v = .pointer (some ⟨b, 0, none⟩) ∧ w.heap[b]? = some (.cells (List.toArray us) T (0, 0)) ∧ us.length = n ∧ raw = us ++ rest ∧ ParsR w home ps vs rest
  | _, _, _ => False

def InR (tm : Nat → TypeId) (w : World) (M : Nat → Prop) (B : Nat) (home : Nat → Option (Nat × Nat)) (shape : Nat → Option (Nat × Ty × Nat)) : List (Option (Nat × Nat)) → List Cell → List Value → Prop
  | [], [], [] => True
  | none :: ms, c :: cs, v :: vs => FlatRep w M B c v ∧ InR tm w M B home shape ms cs vs
  | some (o, e) :: ms, .sl fr t xs :: cs, v :: vs => (RepRow w (home o) t.sz xs.length 0 xs.length v ∧ RowAt tm w M B (home o) fr e t xs ∧ shape o = some (e, t, xs.length)) ∧ InR tm w M B home shape ms cs vs
  | _, _, _ => False

def RetR (w : World) : List RetS → List Value → List Value → List Nat → Prop
  | [], [], raw, bs => raw = [] ∧ bs = []
  | .val true n :: ps, v :: vs, raw, bs => ∃ us rest, v = .agg us.toArray ∧ us.length = n ∧ raw = us ++ rest ∧ RetR w ps vs rest bs
  | .val false n :: ps, v :: vs, raw, bs => ∃ rest, n = 1 ∧ raw = v :: rest ∧ RetR w ps vs rest bs
  | .ptr n :: ps, v :: vs, raw, bs => ∃ b us T rest bs', v = .pointer (some ⟨b, 0, none⟩) ∧ w.heap[b]? = some (.cells (List.toArray us) T (0, 0)) ∧ us.length = n ∧ raw = us ++ rest ∧ bs = b :: bs' ∧ RetR w ps vs rest bs'
  | _, _, _, _ => False

def BoxR (w : World) (home : Nat → Option (Nat × Nat)) : List FPar → List Value → Prop
  | [], raw => raw = []
  | .val _ _ :: ps, raw => BoxR w home ps raw
  | .box o n :: ps, raw => ∃ b us T rest, home o = some (b, 0) ∧ w.heap[b]? = some (.cells (List.toArray us) T (0, 0)) ∧ us.length = n ∧ raw = us ++ rest ∧ BoxR w home ps rest

def OutR (tm : Nat → TypeId) (w : World) (M : Nat → Prop) (B : Nat) (home : Nat → Option (Nat × Nat)) (shape : Nat → Option (Nat × Ty × Nat)) : List OutF → List Cell → List Value → List (Option (Nat × Nat)) → Prop
  | [], [], [], L => L = []
  | .imm :: ms, c :: cs, v :: vs, L => FlatRep w M B c v ∧ OutR tm w M B home shape ms cs vs L
  | .own e :: ms, .sl fr t xs :: cs, v :: vs, L => ∃ m L', L = m :: L' ∧ (RepRow w m t.sz xs.length 0 xs.length v ∧ RowAt tm w M B m fr e t xs ∧ (fr = true → ∀ b base, m = some (b, base) → B ≤ b)) ∧ OutR tm w M B home shape ms cs vs L'
  | .back o :: ms, .sl fr t xs :: cs, vs, L => (∃ e, shape o = some (e, t, xs.length) ∧ RowAt tm w M B (home o) fr e t xs) ∧ OutR tm w M B home shape ms cs vs L
  | _, _, _, _ => False

def Sig.inObjs (g : Sig) : List Nat := parObjs g.pars ++ rowObjs g.rowsIn

def Sig.inBlocks (g : Sig) (home : Nat → Option (Nat × Nat)) (b : Nat) : Prop := ∃ o base, o ∈ g.inObjs ∧ home o = some (b, base)

/-- what comes out: blocks of new boxes, of new rows, of what had been lent -/
def Sig.outMs (g : Sig) (home : Nat → Option (Nat × Nat)) (bs : List Nat) (ms : List (Option (Nat × Nat))) : List (Option (Nat × Nat)) :=
  (bs.map fun b => some (b, 0)) ++ (ms ++ ((parObjs g.pars).map home ++ (backObjs g.outs).map home))

def Apart (m m' : Option (Nat × Nat)) : Prop := ∀ b base base', m = some (b, base) → m' = some (b, base') → False

def oneOrTuple : List Value → Value
  | [x] => x
  | l => .tuple l.toArray

structure OutPost (tm : Nat → TypeId) (g : Sig) (f : FS) (w : World) (B : Nat) (X : Nat → Prop) (home : Nat → Option (Nat × Nat)) (shape : Nat → Option (Nat × Ty × Nat)) (r : f.ret.den) (v : Value) (w' : World) : Prop where
  step : Stp (g.inBlocks home) w w'
  out : ∃ (vals rawA rawB : List Value) (bs : List Nat) (ms : List (Option (Nat × Nat))),
    v = oneOrTuple vals ∧ RetR w' g.rets vals rawA bs ∧ BoxR w' home g.pars rawB ∧
    OutR tm w' (fun b => X b ∨ ∃ base, some (b, base) ∈ g.outMs home bs ms) B home shape g.outs (f.ret.cells (f.fresh || f.keep) r) (rawA ++ rawB) ms ∧
    (g.outMs home bs ms).Pairwise Apart ∧
    ∀ b base, some (b, base) ∈ g.outMs home bs ms → (w.heap.size ≤ b ∨ g.inBlocks home b) ∧ b < w'.heap.size

def Sound (P : Program) (tm : Nat → TypeId) (G : Nat → Prop) (Q : World → Prop) (fid : FuncId) (g : Sig) (f : FS) : Prop :=
  ∀ (w : World) (B : Nat) (X : Nat → Prop) (home : Nat → Option (Nat × Nat)) (shape : Nat → Option (Nat × Ty × Nat)) (args raw : List Value) (x : f.arg.den) (r : f.ret.den),
    (∀ b, G b → b < w.heap.size ∧ ¬ g.inBlocks home b) → Q w → B ≤ w.heap.size → (f.keep = false → B = w.heap.size) → (f.keep = true → ∀ o b base, o ∈ rowObjs g.rowsIn → home o = some (b, base) → B ≤ b) →
    (∀ b, X b → b < w.heap.size ∧ ¬ g.inBlocks home b) →
    (∀ o o' b base base', o ∈ g.inObjs → o' ∈ g.inObjs → home o = some (b, base) → home o' = some (b, base') → o = o') →
    (∀ o b base, o ∈ g.inObjs → home o = some (b, base) → b < w.heap.size) →
    ParsR w home g.pars args raw →
    InR tm w (fun b => X b ∨ g.inBlocks home b) B home shape g.rowsIn (f.arg.cells f.keep x) raw →
    f.F x = some r →
    Calls P fid args.toArray w (fun e w' => ∃ v, e = .returned v ∧ OutPost tm g f w B X home shape r v w')

/-- Cells that say the same: as they are, and as a datum's. -/
def Same (fr : Bool) : Cell → Cell → Prop
  | .int k n, c => c = .int k n
  | .bool b, c => c = .bool b
  | .str s, c => c = .str s
  | .nil, c => ∃ t, c = .sl fr t []
  | .sl g t xs, c => c = .sl fr t xs ∧ (fr = true → g = true)
  | _, _ => False

def Sames (fr : Bool) : List Cell → List Cell → Prop
  | [], [] => True
  | c :: cs, d :: ds => Same fr c d ∧ Sames fr cs ds
  | _, _ => False

theorem Sames.append {fr : Bool} : ∀ {a b c d : List Cell}, Sames fr a b → Sames fr c d → Sames fr (a ++ c) (b ++ d)
  | [], [], _, _, _, h => h
  | _ :: _, _ :: _, _, _, h, k => ⟨h.1, Sames.append h.2 k⟩
  | [], _ :: _, _, _, h, _ => h.elim
  | _ :: _, [], _, _, h, _ => h.elim

theorem ofCells_sames (fr : Bool) : ∀ {t : Ty} {cs : List Cell} {f : Bool} {x : t.den} {r : List Cell}, t.ofCells noLook cs = some (f, x, r) → (fr = true → f = true) →
    ∃ pre, cs = pre ++ r ∧ Sames fr pre (t.cells fr x) := by
  intro t
  induction t with
  | int k =>
    intro cs f x r h hf
    simp only [Ty.ofCells] at h
    split at h <;> try (cases h; done)
    rename_i j n r'
    split at h <;> try (cases h; done)
    rename_i hb
    have := IntKind.code_inj (Nat.eq_of_beq_eq_true hb); subst this
    injection h with h; injection h with h1 h2; injection h2 with h2 h3; subst h1; subst h2; subst h3
    exact ⟨[_], rfl, rfl, trivial⟩
  | bool =>
    intro cs f x r h hf
    simp only [Ty.ofCells] at h
    split at h <;> try (cases h; done)
    injection h with h; injection h with h1 h2; injection h2 with h2 h3; subst h1; subst h2; subst h3
    exact ⟨[_], rfl, rfl, trivial⟩
  | str =>
    intro cs f x r h hf
    simp only [Ty.ofCells] at h
    split at h <;> try (cases h; done)
    injection h with h; injection h with h1 h2; injection h2 with h2 h3; subst h1; subst h2; subst h3
    exact ⟨[_], rfl, rfl, trivial⟩
  | unit =>
    intro cs f x r h hf
    simp only [Ty.ofCells] at h
    injection h with h; injection h with h1 h2; injection h2 with h2 h3; subst h1; subst h3
    exact ⟨[], rfl, trivial⟩
  | pair t u iht ihu =>
    intro cs f x r h hf
    simp only [Ty.ofCells] at h
    split at h <;> try (cases h; done)
    rename_i f1 x1 r1 h1
    split at h <;> try (cases h; done)
    rename_i f2 x2 r2 h2
    injection h with h; injection h with e1 e2; injection e2 with e2 e3; subst e1; subst e2; subst e3
    obtain ⟨p, rfl, hp⟩ := iht h1 (fun hh => by have := hf hh; simp at this; exact this.1)
    obtain ⟨q, rfl, hq⟩ := ihu h2 (fun hh => by have := hf hh; simp at this; exact this.2)
    exact ⟨p ++ q, by simp, hp.append hq⟩
  | list t _ =>
    intro cs f x r h hf
    simp only [Ty.ofCells] at h
    split at h <;> try (cases h; done)
    rename_i c r'
    split at h <;> try (cases h; done)
    rename_i f1 xs h1
    injection h with h; injection h with e1 e2; injection e2 with e2 e3; subst e1; subst e2; subst e3
    refine ⟨[c], rfl, ?_, trivial⟩
    unfold listOf at h1
    split at h1 <;> try (cases h1; done)
    · injection h1 with h1; injection h1 with e1 e2; subst e1; subst e2
      exact ⟨t, rfl⟩
    · split at h1 <;> try (cases h1; done)
      rename_i hb
      have := Ty.eq_of_beq hb; subst this
      injection h1 with h1; injection h1 with e1 e2; subst e1; subst e2
      exact ⟨rfl, hf⟩

/-- the marks of freshness, taken away -/
def unfl : Cell → Cell
  | .sl _ t xs => .sl false t xs
  | c => c

theorem cells_unfl (fr : Bool) : ∀ (t : Ty) (x : t.den), (t.cells fr x).map unfl = t.cells false x := by
  intro t
  induction t with
  | pair a b iha ihb => intro x; simp only [Ty.cells, List.map_append]; rw [iha, ihb]
  | _ => intro x; rfl

/-- A flat cell in a context. -/
theorem FlatRep.rep {C : Cx} {c : Cell} {v : Value} (h : FlatRep C.w C.M C.B c v) : RepCell C c v := by
  cases c with
  | sl fr t xs => exact h
  | int => exact h
  | bool => exact h
  | str => exact h
  | nil => exact h
  | _ => exact h.elim

theorem FlatRep.same {w : World} {M : Nat → Prop} {B : Nat} {fr : Bool} {c d : Cell} {v : Value} (h : FlatRep w M B c v) (hs : Same fr c d) : FlatRep w M B d v := by
  cases c with
  | int k n => have hs : d = .int k n := hs; subst hs; exact h
  | bool b => have hs : d = .bool b := hs; subst hs; exact h
  | str s => have hs : d = .str s := hs; subst hs; exact h
  | nil =>
    obtain ⟨t, rfl⟩ := hs
    have h : v = .slice none 0 0 := h
    subst h
    exact nil_den _ _ _ t
  | sl g t xs =>
    obtain ⟨rfl, hg⟩ := hs
    have h : RepDen w M (if g then B else 0) (.list t) xs [v] := h
    show RepDen w M (if fr then B else 0) (.list t) xs [v]
    refine h.keep (Stp.refl _ _) (fun _ _ h => h) ?_
    cases fr with
    | false => simp
    | true => simp [hg rfl]
  | _ => exact h.elim

theorem FlatRep.keep {w w' : World} {M M' : Nat → Prop} {B B' : Nat} {c : Cell} {v : Value} (hs : Stp M w w') (hM : ∀ b, b < w.heap.size → M' b → M b) (hB : B' ≤ B) (h : FlatRep w M B c v) : FlatRep w' M' B' c v := by
  cases c with
  | sl fr t xs =>
    refine RepDen.keep hs hM ?_ h
    cases fr <;> simp [hB]
  | int => exact h
  | bool => exact h
  | str => exact h
  | nil => exact h
  | _ => exact h.elim

end Go.Kb

/- The end of a function: what it hands back. -/
namespace Go.Kb

inductive OwnRel (μ : Nat → Option (Nat × Nat)) (s : S) : List (Option (Nat × Nat)) → List Nat → Prop
  | nil : OwnRel μ s [] []
  | none {ms os} : OwnRel μ s ms os → OwnRel μ s (Option.none :: ms) os
  | some {m ms o os} : (∀ b base, m = Option.some (b, base) → ∃ base', μ o = Option.some (b, base')) → present (s.obj o) → OwnRel μ s ms os → OwnRel μ s (m :: ms) (o :: os)

section
variable {tm : Nat → TypeId} {F : Fx} {μ : Nat → Option (Nat × Nat)} {s : S} {a : Act} {w : World}

theorem OwnRel.append {ms ms' : List (Option (Nat × Nat))} {os os' : List Nat} (h : OwnRel μ s ms os) (k : OwnRel μ s ms' os') : OwnRel μ s (ms ++ ms') (os ++ os') := by
  induction h with
  | nil => exact k
  | none _ ih => exact .none ih
  | some h1 h2 _ ih => exact .some h1 h2 ih

theorem OwnRel.mem {ms : List (Option (Nat × Nat))} {os : List Nat} (h : OwnRel μ s ms os) : ∀ b base, Option.some (b, base) ∈ ms → ∃ o base', o ∈ os ∧ present (s.obj o) ∧ μ o = Option.some (b, base') := by
  induction h with
  | nil => intro b base h; cases h
  | none _ ih =>
    intro b base h
    cases h with
    | tail _ h => exact ih b base h
  | @some m ms o os h1 h2 _ ih =>
    intro b base h
    cases h with
    | head => obtain ⟨b', h3⟩ := h1 b base rfl; exact ⟨o, b', .head _, h2, h3⟩
    | tail _ h => obtain ⟨o', b', h3, h4, h5⟩ := ih b base h; exact ⟨o', b', .tail _ h3, h4, h5⟩

theorem nodup_spec : ∀ {l : List Nat}, nodup l = true → l.Nodup
  | [], _ => List.nodup_nil
  | n :: r, h => by
    simp only [nodup, Bool.and_eq_true, Bool.not_eq_true'] at h
    exact List.nodup_cons.2 ⟨(fun hm => by rw [memb_iff.2 hm] at h; cases h.1), nodup_spec h.2⟩

theorem OwnRel.apart (hr : RepM tm F μ s a w) {ms : List (Option (Nat × Nat))} {os : List Nat} (h : OwnRel μ s ms os) (hn : os.Nodup) : ms.Pairwise Apart := by
  induction h with
  | nil => exact .nil
  | none _ ih => exact List.pairwise_cons.2 ⟨(fun m' _ b base base' hm => by cases hm), ih hn⟩
  | @some m ms o os h1 h2 h3 ih =>
    obtain ⟨hno, hn⟩ := List.nodup_cons.1 hn
    refine List.pairwise_cons.2 ⟨?_, ih hn⟩
    intro m' hm' b base base' hm hmb
    subst hmb
    obtain ⟨b1, h4⟩ := h1 b base hm
    obtain ⟨o', b2, h5, h6, h7⟩ := h3.mem b base' hm'
    exact hno (hr.inj o o' b b1 b2 h2 h6 h4 h7 ▸ h5)

def RetF.sig : RetF → RetS
  | .tmp _ g n => .val g n
  | .var _ g n => .val g n
  | .ptr _ n => .ptr n

def retOk (P : Program) : List RetF → List ResultVar → Bool
  | [], [] => true
  | .tmp n g k :: r, .tmp t :: q => Nat.beq n t && ((g || Nat.beq k 1) && retOk P r q)
  | .ptr n _ :: r, .tmp t :: q => Nat.beq n t && retOk P r q
  | .var n g k :: r, .cell t T :: q => Nat.beq n t && ((match aggOf P T with | some g' => g' == g | none => false) && (szOk P T g k && retOk P r q))
  | _, _ => false

def resOne (tmps : Array Value) : ResultVar → Sem Value
  | .tmp t => pure (tmps.getD t undef)
  | .cell a t => do loadVar t (← asAddr (tmps.getD a undef))

theorem results_eq (fn : Func) (tmps : Array Value) : results fn tmps = (do let vs ← fn.results.mapM (resOne tmps); pure (if h : vs.size = 1 then vs[0] else .tuple vs)) := rfl

theorem box_rep (h : RepM tm F μ s a w) {slot n o : Nat} {cs : List Cell} (hb : boxAt s slot n = some (o, cs)) :
    ∃ b us T, μ o = some (b, 0) ∧ a.tmps.getD slot undef = .pointer (some ⟨b, 0, none⟩) ∧ w.heap[b]? = some (.cells (List.toArray us) T (0, 0)) ∧ us.length = n ∧ RepCells (s.cx μ w F) cs us ∧ present (s.obj o) := by
  unfold boxAt at hb
  split at hb <;> try (cases hb; done)
  rename_i o' st hs
  split at hb <;> try (cases hb; done)
  rename_i st' hm cs' hx
  split at hb <;> try (cases hb; done)
  rename_i hc
  simp only [Bool.and_eq_true] at hc
  injection hb with hb; injection hb with h1 h2; subst h1; subst h2
  have h1 := Nat.eq_of_beq_eq_true hc.1
  subst h1
  obtain ⟨y, hy, hr⟩ := slot_value h hs
  obtain ⟨_, _, hp⟩ := hr
  obtain ⟨b, hmu, hv⟩ := hp hm cs' hx
  have hobj := h.objs o'
  rw [hx] at hobj
  obtain ⟨b', vs, T, h3, h4, h5⟩ := hobj
  have hmu : μ o' = some (b, 0) := hmu
  rw [hmu] at h3; injection h3 with h3; injection h3 with h3 _; subst h3
  have h4' : w.heap[b]? = some (.cells vs T (0, 0)) := h4
  refine ⟨b, vs.toList, T, hmu, ?_, by simpa using h4', ?_, h5, by rw [hx]; trivial⟩
  · rw [Array.getD_eq_getD_getElem?, hy]; exact hv
  · rw [← h5.len]; exact Nat.eq_of_beq_eq_true hc.2

theorem ret_sound {P : Program} (h : RepM tm F μ s a w) : ∀ {rets : List RetF} {rvs : List ResultVar} {acells : List Cell} {os : List Nat}, retOk P rets rvs = true → retCells s rets = some (acells, os) →
    ∃ vals raw bs, (rvs.mapM (resOne a.tmps)).run P w = .ok vals w ∧ RetR w (rets.map RetF.sig) vals raw bs ∧ RepCells (s.cx μ w F) acells raw ∧ OwnRel μ s (bs.map fun b => Option.some (b, 0)) os := by
  intro rets
  induction rets with
  | nil =>
    intro rvs ac os hok hc
    cases rvs with
    | cons _ _ => simp [retOk] at hok
    | nil =>
      simp only [retCells] at hc
      injection hc with hc; injection hc with h1 h2; subst h1; subst h2
      exact ⟨[], [], [], by simp, ⟨rfl, rfl⟩, trivial, .nil⟩
  | cons rf r ih =>
    intro rvs ac os hok hc
    cases rvs with
    | nil => cases rf <;> simp [retOk] at hok
    | cons rv q =>
      cases rf with
      | tmp n g k =>
        cases rv with
        | cell _ _ => simp [retOk] at hok
        | tmp t =>
          simp only [retOk, Bool.and_eq_true] at hok
          obtain ⟨h1, h2, h3⟩ := hok
          have h1 := Nat.eq_of_beq_eq_true h1
          subst h1
          cases g with
          | false =>
            simp only [retCells] at hc
            split at hc <;> try (cases hc; done)
            rename_i c hs
            split at hc <;> try (cases hc; done)
            rename_i l os' hl
            injection hc with hc; injection hc with e1 e2; subst e1; subst e2
            obtain ⟨vals, raw, bs, e3, e4, e5, e6⟩ := ih h3 hl
            obtain ⟨y, hy, hr⟩ := slot_value h hs
            have hg : a.tmps.getD n undef = y := by rw [Array.getD_eq_getD_getElem?, hy]; rfl
            refine ⟨y :: vals, y :: raw, bs, ?_, ⟨raw, by simpa using h2, rfl, e4⟩, ⟨hr, e5⟩, e6⟩
            rw [List.mapM_cons]
            simp [resOne, hg, e3]
          | true =>
            simp only [retCells] at hc
            split at hc <;> try (cases hc; done)
            rename_i cs hs
            split at hc <;> try (cases hc; done)
            rename_i hk
            split at hc <;> try (cases hc; done)
            rename_i l os' hl
            injection hc with hc; injection hc with e1 e2; subst e1; subst e2
            obtain ⟨vals, raw, bs, e3, e4, e5, e6⟩ := ih h3 hl
            have hslot : ∃ y, a.tmps[n]? = some y ∧ RepV (s.cx μ w F) (.agg cs) y := by
              rcases slot_rep h n with h4 | ⟨y, h4, h5⟩
              · rw [h4] at hs; cases hs
              · rw [hs] at h5; exact ⟨y, h4, h5⟩
            obtain ⟨y, hy, us, hyu, hr⟩ := hslot
            have hg : a.tmps.getD n undef = y := by rw [Array.getD_eq_getD_getElem?, hy]; rfl
            refine ⟨y :: vals, us ++ raw, bs, ?_, ⟨us, raw, hyu, by rw [← hr.len]; exact Nat.eq_of_beq_eq_true hk, rfl, e4⟩, hr.append e5, e6⟩
            rw [List.mapM_cons]
            simp [resOne, hg, e3]
      | var n g k =>
        cases rv with
        | tmp _ => simp [retOk] at hok
        | cell t T =>
          simp only [retOk, Bool.and_eq_true] at hok
          obtain ⟨h1, h2, h3, h4⟩ := hok
          have h1 := Nat.eq_of_beq_eq_true h1
          subst h1
          simp only [retCells] at hc
          split at hc <;> try (cases hc; done)
          rename_i o cs hb
          split at hc <;> try (cases hc; done)
          rename_i l os' hl
          injection hc with hc; injection hc with e1 e2; subst e1; subst e2
          obtain ⟨vals, raw, bs, e3, e4, e5, e6⟩ := ih h4 hl
          obtain ⟨b, us, T', f1, f2, f3, f4, f5, f6⟩ := box_rep h hb
          have hagg : aggOf P T = some g := by
            split at h2
            · rename_i g' hg'; rw [hg']; simpa using h2
            · cases h2
          have hcell : ∀ j u, us[j]? = some u → (s.cx μ w F).w.cell? (Addr.add ⟨b, 0, none⟩ j) = some u := by
            intro j u hu
            show w.cell? _ = _
            rw [addr_add rfl, Nat.zero_add, cell_lit w b j _ _ _ f3]
            simpa using hu
          have hrun : (loadVar T ⟨b, 0, none⟩).run P w = .ok (ldV g us) w := by
            have := run_load_rep (P := P) (C := s.cx μ w F) hagg (szOk_iff h3) f4 hcell
            have this : (Instr.loadAt T (.pointer (some ⟨b, 0, none⟩))).run P w = .ok (ldV g us) w := this
            simpa [Instr.loadAt, Instr.sureAddr] using this
          cases g with
          | true =>
            refine ⟨.agg us.toArray :: vals, us ++ raw, bs, ?_, ⟨us, raw, rfl, f4, rfl, e4⟩, f5.append e5, e6⟩
            rw [List.mapM_cons]
            simp [resOne, f2, asAddr, hrun, ldV, e3]
          | false =>
            have hk1 : k = 1 := by have := szOk_iff h3; simpa using this
            match us, f4 with
            | [u], _ =>
              refine ⟨u :: vals, u :: raw, bs, ?_, ⟨raw, hk1, rfl, e4⟩, f5.append e5, e6⟩
              rw [List.mapM_cons]
              simp [resOne, f2, asAddr, hrun, ldV, e3]
            | [], f4 => simp at f4; omega
            | _ :: _ :: _, f4 => simp at f4; omega
      | ptr n k =>
        cases rv with
        | cell _ _ => simp [retOk] at hok
        | tmp t =>
          simp only [retOk, Bool.and_eq_true] at hok
          obtain ⟨h1, h3⟩ := hok
          have h1 := Nat.eq_of_beq_eq_true h1
          subst h1
          simp only [retCells] at hc
          split at hc <;> try (cases hc; done)
          rename_i o cs hb
          split at hc <;> try (cases hc; done)
          rename_i l os' hl
          injection hc with hc; injection hc with e1 e2; subst e1; subst e2
          obtain ⟨vals, raw, bs, e3, e4, e5, e6⟩ := ih h3 hl
          obtain ⟨b, us, T', f1, f2, f3, f4, f5, f6⟩ := box_rep h hb
          refine ⟨.pointer (some ⟨b, 0, none⟩) :: vals, us ++ raw, b :: bs, ?_, ⟨b, us, T', raw, bs, rfl, f3, f4, rfl, rfl, e4⟩, f5.append e5, .some (fun b' base he => ?_) f6 e6⟩
          · rw [List.mapM_cons]
            simp [resOne, f2, e3]
          · injection he with he; injection he with he _; subst he; exact ⟨0, f1⟩

theorem boxes_sound (h : RepM tm F μ s a w) : ∀ {ps : List FPar} {cells : List Cell}, boxCells s ps = some cells →
    ∃ raw, BoxR w F.home ps raw ∧ RepCells (s.cx μ w F) cells raw ∧ OwnRel μ s ((parObjs ps).map F.home) (parObjs ps) := by
  intro ps
  induction ps with
  | nil =>
    intro cells hc
    simp only [boxCells] at hc
    injection hc with hc; subst hc
    exact ⟨[], rfl, trivial, .nil⟩
  | cons p ps ih =>
    intro cells hc
    cases p with
    | val g n =>
      simp only [boxCells] at hc
      obtain ⟨raw, h1, h2, h3⟩ := ih hc
      exact ⟨raw, h1, h2, h3⟩
    | box o n =>
      simp only [boxCells] at hc
      split at hc <;> try (cases hc; done)
      rename_i st cs hx
      split at hc <;> try (cases hc; done)
      rename_i hl
      split at hc <;> try (cases hc; done)
      rename_i l hbl
      injection hc with hc; subst hc
      obtain ⟨raw, h1, h2, h3⟩ := ih hbl
      have hh := (h.home o (by rw [hx]; rfl)).1
      have hobj := h.objs o
      rw [hx] at hobj
      obtain ⟨b, vs, T, h4, h5, h6⟩ := hobj
      have h5' : w.heap[b]? = some (.cells vs T (0, 0)) := h5
      refine ⟨vs.toList ++ raw, ⟨b, vs.toList, T, raw, by rw [← hh]; exact h4, by simpa using h5', by rw [← h6.len]; exact Nat.eq_of_beq_eq_true hl, rfl, h1⟩, h6.append h2, ?_⟩
      exact .some (fun b' base he => ⟨base, by rw [hh]; exact he⟩) (by rw [hx]; trivial) h3

end
end Go.Kb

/- The end of a function: the cells that go out. -/
namespace Go.Kb

section
variable {tm : Nat → TypeId} {F : Fx} {μ : Nat → Option (Nat × Nat)} {s : S} {a : Act} {w : World}

/-- the blocks that go out -/
def goOut (F : Fx) (μ : Nat → Option (Nat × Nat)) (s : S) (L : List Nat) (b : Nat) : Prop := F.X b ∨ ∃ o base, o ∈ L ∧ present (s.obj o) ∧ μ o = some (b, base)

theorem goOut_M {L : List Nat} {b : Nat} (h : goOut F μ s L b) : (s.cx μ w F).M b := by
  rcases h with h | ⟨o, base, _, h1, h2⟩
  · exact .inl h
  · exact .inr ⟨o, base, h1, h2⟩

theorem den_out {L : List Nat} {fr g : Bool} (hg : g = true → fr = true) {t : Ty} {x : t.den} {vs : List Value} (h : RepDen (s.cx μ w F).w (s.cx μ w F).M ((s.cx μ w F).L fr) t x vs) :
    RepDen w (goOut F μ s L) (if g then F.B else 0) t x vs := by
  refine RepDen.keep (Stp.refl _ _) (fun b _ hb => goOut_M hb) ?_ h
  cases g with
  | false => simp
  | true => rw [hg rfl]; simp [Cx.L, S.cx]

theorem row_out (h : RepM tm F μ s a w) {L : List Nat} {o st e : Nat} {hm fr g : Bool} {t : Ty} {xs : List t.den} {ex : Ext} {v : Value} (hx : s.obj o = .row st hm fr e t xs) (hc : RepCell (s.cx μ w F) (.ref o st ex) v)
    (hw : ex.whole = true) (hg : g = true → (fr && !hm) = true) :
    ∃ m, (∀ b base, m = some (b, base) → ∃ base', μ o = some (b, base')) ∧ RepRow w m t.sz (ex.cut xs).length 0 (ex.cut xs).length v ∧ RowAt tm w (goOut F μ s L) F.B m g e t (ex.cut xs) ∧
      (g = true → ∀ b base, m = some (b, base) → F.B ≤ b) := by
  obtain ⟨_, _, hr⟩ := hc
  obtain ⟨hok, hrow⟩ := hr hm fr e t xs hx
  have hob := h.objs o
  rw [hx] at hob
  have hlo : ex.lo + (ex.cut xs).length = xs.length := by
    rw [num_cut ex xs hok]
    cases ex with
    | all => simp [Ext.lo, Ext.num]
    | tail l => simp [Ext.lo, Ext.num, Ext.ok] at *; omega
    | part l r => cases hw
  have hpo : present (s.obj o) := by rw [hx]; trivial
  rcases hrow with ⟨hm0, hn, hv⟩ | ⟨b, base, ad, cap, cur, T, hm0, hv, h1, h2, h3, h4, h5, h6, h7⟩
  · have hm0 : μ o = none := hm0
    have hl : (ex.cut xs).length = 0 := by omega
    refine ⟨none, (fun b base he => by cases he), .inl ⟨rfl, hl, hv⟩, .inl ⟨rfl, List.eq_nil_of_length_eq_zero hl⟩, (fun _ b base he => by cases he)⟩
  · have hm0 : μ o = some (b, base) := hm0
    have h6 : w.heap[b]? = some (.cells cur T (0, 0)) := h6
    refine ⟨some (b, base + ex.lo * t.sz), fun b' base' he => ?_, .inr ⟨b, base + ex.lo * t.sz, ad, cap, cur, T, rfl, ?_, ?_, h2, h3, h4, fun hc => ?_, h6, ?_⟩, .inr ?_, fun hgt b' base' he => ?_⟩
    · injection he with he; injection he with he _; subst he; exact ⟨base, hm0⟩
    · rw [num_cut ex xs hok]; exact hv
    · rw [num_cut ex xs hok]; exact h1
    · rw [h5 hc]; simp
    · rw [Nat.zero_add]; rw [Nat.add_mul] at h7; omega
    · rcases hob with ⟨hnone, _⟩ | ⟨b', base', cur', hm2, hh, hsz, hel⟩
      · have hnone : μ o = none := hnone
        rw [hnone] at hm0; cases hm0
      · rw [hm0] at hm2
        injection hm2 with hm2; injection hm2 with e1 e2; subst e1; subst e2
        have hh : w.heap[b]? = some (.cells cur' (tm e) (0, 0)) := hh
        refine ⟨b, base + ex.lo * t.sz, cur', rfl, hh, ?_, ?_⟩
        · have : (ex.lo + (ex.cut xs).length) * t.sz = xs.length * t.sz := by rw [hlo]
          rw [Nat.add_mul] at this
          omega
        · intro i x hxi
          have := hel _ _ (cut_get ex xs i x hxi)
          have hpos : base + ex.lo * t.sz + i * t.sz = base + (ex.lo + i) * t.sz := by rw [Nat.add_mul]; omega
          rw [hpos]
          exact den_out (fun hh => by have := hg hh; simp at this; exact this.1) this
    · injection he with he; injection he with he _; subst he
      rcases h.own o b base hpo hm0 with h8 | ⟨_, h8 | h8⟩
      · exact Nat.le_trans F.hB h8
      · rw [hx] at h8
        have h9 := hg hgt
        simp at h9
        have := h8 h9.1
        rw [h9.2] at this; cases this
      · exact h8

theorem out_sound (h : RepM tm F μ s a w) {L : List Nat} {fr : Bool} :
    ∀ {outs : List OutF} {cells : List Cell} {raw : List Value} {out ds : List Cell}, outCells s outs cells = some out → RepCells (s.cx μ w F) cells raw → Sames fr out ds → apartL (immOuts outs cells) L = true →
      ∃ ms, OutR tm w (goOut F μ s L) F.B F.home F.shape outs ds raw ms ∧ OwnRel μ s ms (ownRefs outs cells) ∧ OwnRel μ s ((backObjs outs).map F.home) (backObjs outs) := by
  intro outs
  induction outs with
  | nil =>
    intro cells raw out ds ho hc hs _
    cases cells with
    | cons _ _ => simp [outCells] at ho
    | nil =>
      simp only [outCells] at ho
      injection ho with ho; subst ho
      cases ds with
      | cons _ _ => exact hs.elim
      | nil =>
        cases raw with
        | cons _ _ => exact hc.elim
        | nil => exact ⟨[], rfl, .nil, .nil⟩
  | cons k outs ih =>
    intro cells raw out ds ho hc hs hap
    cases k with
    | imm =>
      cases cells with
      | nil => simp [outCells] at ho
      | cons c cs =>
        simp only [outCells] at ho
        split at ho <;> try (cases ho; done)
        rename_i c' hf
        split at ho <;> try (cases ho; done)
        rename_i l hl
        injection ho with ho; subst ho
        cases ds with
        | nil => exact hs.elim
        | cons d ds =>
          cases raw with
          | nil => exact hc.elim
          | cons v raw =>
            have hap' : apartL (immOuts outs cs) L = true := by
              cases c <;> simp only [immOuts, apartL, Bool.and_eq_true] at hap <;> first | exact hap | exact hap.2
            obtain ⟨ms, h1, h2, h3⟩ := ih hl hc.2 hs.2 hap'
            refine ⟨ms, ⟨FlatRep.same ?_ hs.1, h1⟩, ?_, h3⟩
            · cases c with
              | int k n => simp only [flat] at hf; injection hf with hf; subst hf; exact hc.1
              | bool b => simp only [flat] at hf; injection hf with hf; subst hf; exact hc.1
              | str b => simp only [flat] at hf; injection hf with hf; subst hf; exact hc.1
              | nil => simp only [flat] at hf; injection hf with hf; subst hf; exact hc.1
              | sl g t xs =>
                simp only [flat] at hf; injection hf with hf; subst hf
                exact den_out (L := L) (fun h => h) hc.1
              | ref o st e =>
                simp only [flat] at hf
                split at hf <;> try (cases hf; done)
                rename_i st' hm fr' ec t xs hx
                split at hf <;> try (cases hf; done)
                rename_i hst
                have hst := Nat.eq_of_beq_eq_true hst
                subst hst
                injection hf with hf; subst hf
                have hno : o ∉ L := by
                  simp only [immOuts, apartL, Bool.and_eq_true, Bool.not_eq_true'] at hap
                  intro hm2
                  rw [memb_iff.2 hm2] at hap; cases hap.1
                have hpo : present (s.obj o) := by rw [hx]; trivial
                have hM : ∀ b, (Cx.mk μ (fun _ => .absent 0) w F.B (goOut F μ s L)).M b → goOut F μ s L b := by
                  rintro b (hb | ⟨_, _, hp, _⟩)
                  · exact hb
                  · exact hp.elim
                have := row_den (C := s.cx μ w F) (C' := Cx.mk μ (fun _ => .absent 0) w F.B (goOut F μ s L)) (h.objs o) hx hc.1 rfl rfl (fun b hb => goOut_M (hM b hb)) ?_ ?_ (fr' := fr' && !hm) ?_ ?_
                · have this : RepDen w (Cx.mk μ (fun _ => .absent 0) w F.B (goOut F μ s L)).M (if (fr' && !hm) then F.B else 0) (.list t) (e.cut xs) [v] := this
                  exact RepDen.keep (Stp.refl _ _) (fun b _ hb => Or.inl hb) (Nat.le_refl _) this
                · intro b base hmu hb
                  have hmu : μ o = some (b, base) := hmu
                  rcases hM b hb with hX | ⟨o', base', hL, hp, hmu'⟩
                  · have hX' := F.hX b hX
                    rcases h.own o b base hpo hmu with h4 | ⟨h4, _⟩
                    · exact absurd hX'.1 (by omega)
                    · exact hX'.2 h4
                  · have := h.inj o o' b base base' hpo hp hmu hmu'
                    exact hno (this ▸ hL)
                · intro b base hmu; exact h.lt o b base hpo hmu
                · intro hf; simp at hf; exact hf.1
                · intro hf b base hmu
                  simp at hf
                  rcases h.own o b base hpo hmu with h4 | ⟨_, h4 | h4⟩
                  · exact Nat.le_trans F.hB h4
                  · rw [hx] at h4; have := h4 hf.1; rw [hf.2] at this; cases this
                  · exact h4
              | ptr _ _ _ => simp [flat] at hf
              | dptr _ _ _ _ => simp [flat] at hf
              | eptr _ _ _ _ => simp [flat] at hf
              | junk => simp [flat] at hf
            · exact h2
    | own e =>
      cases cells with
      | nil => simp [outCells] at ho
      | cons c cs =>
        cases raw with
        | nil => exact hc.elim
        | cons v raw =>
          cases c with
          | nil =>
            simp only [outCells] at ho
            split at ho <;> try (cases ho; done)
            rename_i l hl
            injection ho with ho; subst ho
            cases ds with
            | nil => exact hs.elim
            | cons d ds =>
              obtain ⟨ms, h1, h2, h3⟩ := ih hl hc.2 hs.2 hap
              obtain ⟨t, hd⟩ := hs.1
              subst hd
              have hv : v = .slice none 0 0 := hc.1
              refine ⟨none :: ms, ⟨none, ms, rfl, ⟨.inl ⟨rfl, rfl, hv⟩, .inl ⟨rfl, rfl⟩, (fun _ b base he => by cases he)⟩, h1⟩, .none h2, h3⟩
          | ref o st ex =>
            simp only [outCells] at ho
            split at ho <;> try (cases ho; done)
            rename_i st' hm fr' e' t xs hx
            split at ho <;> try (cases ho; done)
            rename_i hb
            split at ho <;> try (cases ho; done)
            rename_i l hl
            injection ho with ho; subst ho
            simp only [Bool.and_eq_true] at hb
            have e1 := Nat.eq_of_beq_eq_true hb.1
            have e2 := Nat.eq_of_beq_eq_true hb.2.1
            subst e1; subst e2
            cases ds with
            | nil => exact hs.elim
            | cons d ds =>
              obtain ⟨ms, h1, h2, h3⟩ := ih hl hc.2 hs.2 hap
              obtain ⟨hd, hfr⟩ := hs.1
              subst hd
              obtain ⟨m, m1, m2, m3, m4⟩ := row_out h (L := L) hx hc.1 hb.2.2 hfr
              exact ⟨m :: ms, ⟨m, ms, rfl, ⟨m2, m3, m4⟩, h1⟩, .some m1 (by rw [hx]; trivial) h2, h3⟩
          | int _ _ => simp [outCells] at ho
          | bool _ => simp [outCells] at ho
          | str _ => simp [outCells] at ho
          | sl _ _ _ => simp [outCells] at ho
          | ptr _ _ _ => simp [outCells] at ho
          | dptr _ _ _ _ => simp [outCells] at ho
          | eptr _ _ _ _ => simp [outCells] at ho
          | junk => simp [outCells] at ho
    | back o =>
      simp only [outCells] at ho
      split at ho <;> try (cases ho; done)
      rename_i st fr' e t xs hx
      split at ho <;> try (cases ho; done)
      rename_i l hl
      injection ho with ho; subst ho
      cases ds with
      | nil => exact hs.elim
      | cons d ds =>
        obtain ⟨ms, h1, h2, h3⟩ := ih hl hc hs.2 (by simpa [immOuts] using hap)
        obtain ⟨hd, hfr⟩ := hs.1
        subst hd
        obtain ⟨hh1, hh2⟩ := h.home o (by rw [hx]; rfl)
        rw [hx] at hh2
        have hob := h.objs o
        rw [hx] at hob
        refine ⟨ms, ⟨⟨e, hh2.symm, ?_⟩, h1⟩, by simpa [ownRefs] using h2, .some (fun b base he => ⟨base, by rw [hh1]; exact he⟩) (by rw [hx]; trivial) h3⟩
        rw [← hh1]
        rcases hob with hob | ⟨b, base, cur, g1, g2, g3, g4⟩
        · exact .inl hob
        · exact .inr ⟨b, base, cur, g1, g2, g3, fun i x hxi => den_out hfr (g4 i x hxi)⟩

end
end Go.Kb

/- A function keeps its contract. -/
namespace Go.Kb

/-- the context in which a function begins -/
def begin' (w : World) (B : Nat) (X : Nat → Prop) (home : Nat → Option (Nat × Nat)) (h : Nat → Obj) : Cx := ⟨home, h, w, B, X⟩

section
variable {tm : Nat → TypeId} {w : World} {X M : Nat → Prop} {home : Nat → Option (Nat × Nat)} {shape : Nat → Option (Nat × Ty × Nat)} {h : Nat → Obj} {B : Nat} {kp : Bool}

theorem initRows_sound (hM : ∀ b, (begin' w B X home h).M b → M b) : ∀ {rows : List (Option (Nat × Nat))} {cells cs : List Cell} {raw : List Value} {u : List (Nat × Obj)},
    InR tm w M B home shape rows cells raw → initRows kp rows cells = some (cs, u) → (∀ o y, (o, y) ∈ u → h o = y) →
    RepCells (begin' w B X home h) cs raw ∧ u.map (·.1) = rowObjs rows ∧ ∀ o y, (o, y) ∈ u → present y ∧ (kp = false → weakRow y) ∧ RepObj tm (begin' w B X home h) (home o) y ∧ y.shape = shape o := by
  intro rows
  induction rows with
  | nil =>
    intro cells cs raw u hi hr hu
    cases cells with
    | cons _ _ => simp [initRows] at hr
    | nil =>
      simp only [initRows] at hr
      injection hr with hr; injection hr with e1 e2; subst e1; subst e2
      cases raw with
      | nil => exact ⟨trivial, rfl, fun o y hy => by cases hy⟩
      | cons _ _ => exact hi.elim
  | cons k rows ih =>
    intro cells cs raw u hi hr hu
    cases k with
    | none =>
      cases cells with
      | nil => simp [initRows] at hr
      | cons c cells =>
        simp only [initRows] at hr
        split at hr <;> try (cases hr; done)
        rename_i l u' hl
        injection hr with hr; injection hr with e1 e2; subst e1; subst e2
        cases raw with
        | nil => exact hi.elim
        | cons v raw =>
          obtain ⟨h1, h2, h3⟩ := ih hi.2 hl hu
          exact ⟨⟨FlatRep.rep (C := begin' w B X home h) (FlatRep.keep (Stp.refl _ _) (fun b _ hb => hM b hb) (Nat.le_refl _) hi.1), h1⟩, h2, h3⟩
    | some p =>
      obtain ⟨o, e⟩ := p
      cases cells with
      | nil => simp [initRows] at hr
      | cons c cells =>
        cases c with
        | sl fr t xs =>
          simp only [initRows] at hr
          split at hr <;> try (cases hr; done)
          rename_i l u' hl
          injection hr with hr; injection hr with e1 e2; subst e1; subst e2
          cases raw with
          | nil => exact hi.elim
          | cons v raw =>
            obtain ⟨h1, h2, h3⟩ := ih hi.2 hl fun o' y hy => hu o' y (.tail _ hy)
            have ho := hu o _ (.head _)
            obtain ⟨g1, g2, g3⟩ := hi.1
            refine ⟨⟨⟨?_, Nat.zero_le _, fun hm2 fr2 ec2 t2 xs2 hx => ?_⟩, h1⟩, by simp [rowObjs, h2], fun o' y hy => ?_⟩
            · rcases g1 with ⟨_, _, hv⟩ | ⟨b, base, ad, cap, cur, T, _, hv, _⟩
              · exact ⟨_, _, _, hv⟩
              · exact ⟨_, _, _, hv⟩
            · have hx : h o = _ := hx
              rw [ho] at hx
              injection hx with e1 e2 e3 e4 e5 e6
              subst e5
              have e6 := eq_of_heq e6
              subst e6
              exact ⟨trivial, g1⟩
            · cases hy with
              | head =>
                refine ⟨trivial, fun hk _ => by rw [hk]; rfl, ?_, g3.symm⟩
                rcases g2 with g2 | ⟨b, base, cur, k1, k2, k3, k4⟩
                · exact .inl g2
                · exact .inr ⟨b, base, cur, k1, k2, k3, fun i x hx => RepDen.keep (Stp.refl _ _) (fun b _ hb => hM b hb) (by cases fr <;> simp [Cx.L, begin']) (k4 i x hx)⟩
              | tail _ hy => exact h3 o' y hy
        | _ => simp [initRows] at hr

theorem initPars_sound : ∀ {ps : List FPar} {args raw : List Value} {cs : List Cell} {vs : List V} {u : List (Nat × Obj)}, ParsR w home ps args raw → RepCells (begin' w B X home h) cs raw → initPars ps cs = some (vs, u) →
    (∀ o y, (o, y) ∈ u → h o = y) →
    RepVs (begin' w B X home h) vs args ∧ u.map (·.1) = parObjs ps ∧ ∀ o y, (o, y) ∈ u → present y ∧ weakRow y ∧ RepObj tm (begin' w B X home h) (home o) y ∧ y.shape = none := by
  intro ps
  induction ps with
  | nil =>
    intro args raw cs vs u hp hc hi hu
    cases args with
    | cons _ _ => exact hp.elim
    | nil =>
      have hp : raw = [] := hp
      subst hp
      cases cs with
      | cons _ _ => exact hc.elim
      | nil =>
        simp only [initPars] at hi
        injection hi with hi; injection hi with e1 e2; subst e1; subst e2
        exact ⟨trivial, rfl, fun o y hy => by cases hy⟩
  | cons p ps ih =>
    intro args raw cs vs u hp hc hi hu
    cases args with
    | nil => cases p with
      | val g n => cases g <;> exact hp.elim
      | box o n => exact hp.elim
    | cons v args =>
      cases p with
      | val g n =>
        simp only [initPars] at hi
        split at hi <;> try (cases hi; done)
        rename_i l u' hl
        injection hi with hi; injection hi with e1 e2; subst e1; subst e2
        cases g with
        | true =>
          obtain ⟨us, rest, rfl, hn, rfl, hp⟩ := hp
          have hd := RepCells.drop n hc
          rw [← hn, List.drop_left'  rfl] at hd
          rw [← hn] at hl
          obtain ⟨h1, h2, h3⟩ := ih hp hd hl hu
          have ht := RepCells.take n hc
          rw [← hn, List.take_left' rfl] at ht
          exact ⟨⟨⟨us, rfl, by rw [← hn]; exact ht⟩, h1⟩, h2, h3⟩
        | false =>
          obtain ⟨rest, hn, rfl, hp⟩ := hp
          subst hn
          cases cs with
          | nil => exact hc.elim
          | cons c cs =>
            obtain ⟨h1, h2, h3⟩ := ih hp hc.2 hl hu
            exact ⟨⟨hc.1, h1⟩, h2, h3⟩
      | box o n =>
        simp only [initPars] at hi
        split at hi <;> try (cases hi; done)
        rename_i l u' hl
        injection hi with hi; injection hi with e1 e2; subst e1; subst e2
        obtain ⟨b, us, T, rest, g1, rfl, g2, hn, rfl, hp⟩ := hp
        have hd := RepCells.drop n hc
        rw [← hn, List.drop_left' rfl] at hd
        rw [← hn] at hl
        obtain ⟨h1, h2, h3⟩ := ih hp hd hl fun o' y hy => hu o' y (.tail _ hy)
        have ht := RepCells.take n hc
        rw [← hn, List.take_left' rfl] at ht
        refine ⟨⟨⟨⟨_, rfl⟩, Nat.zero_le _, fun hm cs' hx => ⟨b, g1, rfl⟩⟩, h1⟩, by simp [parObjs, h2], fun o' y hy => ?_⟩
        cases hy with
        | head => exact ⟨trivial, trivial, ⟨b, us.toArray, T, g1, g2, by rw [← hn]; exact ht⟩, rfl⟩
        | tail _ hy => exact h3 o' y hy

end

theorem ups_get : ∀ (u : List (Nat × Obj)) (s : S) (o : Nat) (y : Obj), (u.map (·.1)).Nodup → (o, y) ∈ u → o < s.h.length → (s.ups u).obj o = y
  | (m, z) :: r, s, o, y, hn, hm, ho => by
    simp only [S.ups]
    obtain ⟨hno, hn⟩ := List.nodup_cons.1 hn
    cases hm with
    | head =>
      rw [ups_obj r _ m fun x hx => hno (List.mem_map.2 ⟨(m, x), hx, rfl⟩)]
      simp only [S.obj, List.getD_eq_getElem?_getD, List.getElem?_set_self ho, Option.getD_some]
    | tail _ hm => exact ups_get r { s with h := s.h.set m z } o y hn hm (by simpa using ho)

def XFunc.sig (x : XFunc) : Sig := ⟨x.pars, x.rowsIn, x.rets.map RetF.sig, x.outs⟩

/-- Does the text of a function fit? -/
def funcOk (E : Env1) (fid : FuncId) (x : XFunc) : Bool :=
  match E.P.funcs[fid]? with
  | some fn => match fn.body with
    | some c => Nat.beq fn.ntmps x.nslots && (Nat.ble x.pars.length x.nslots && (retOk E.P x.rets fn.results.toList && (nodup (rowObjs x.rowsIn ++ parObjs x.pars) && (allLt x.nobj (rowObjs x.rowsIn ++ parObjs x.pars) && codeOk E x.nobj x.body c))))
    | none => false
  | none => false

theorem initPars_len : ∀ {ps : List FPar} {cs : List Cell} {vs : List V} {u : List (Nat × Obj)}, initPars ps cs = some (vs, u) → vs.length = ps.length
  | [], [], _, _, h => by simp only [initPars] at h; injection h with h; injection h with h _; subst h; rfl
  | [], _ :: _, _, _, h => by simp [initPars] at h
  | .val g n :: ps, cs, vs, u, h => by
    simp only [initPars] at h
    split at h <;> try (cases h; done)
    rename_i l u' hl
    injection h with h; injection h with e1 e2; subst e1
    simp [initPars_len hl]
  | .box o n :: ps, cs, vs, u, h => by
    simp only [initPars] at h
    split at h <;> try (cases h; done)
    rename_i l u' hl
    injection h with h; injection h with e1 e2; subst e1
    simp [initPars_len hl]

theorem RepVs.get {C : Cx} : ∀ {vs : List V} {xs : List Value} (i : Nat) {v : V} {x : Value}, RepVs C vs xs → vs[i]? = some v → xs[i]? = some x → RepV C v x
  | _ :: _, _ :: _, 0, _, _, h, hv, hx => by simp at hv hx; subst hv; subst hx; exact h.1
  | _ :: _, _ :: _, i + 1, _, _, h, hv, hx => RepVs.get i h.2 (by simpa using hv) (by simpa using hx)
  | [], [], i, _, _, _, hv, _ => by simp at hv
  | [], _ :: _, _, _, _, h, _, _ => h.elim
  | _ :: _, [], _, _, _, h, _, _ => h.elim

theorem RepVs.len {C : Cx} : ∀ {vs : List V} {xs : List Value}, RepVs C vs xs → vs.length = xs.length
  | [], [], _ => rfl
  | _ :: _, _ :: _, h => by simp [RepVs.len h.2]
  | [], _ :: _, h => h.elim
  | _ :: _, [], h => h.elim

theorem allLt_mem {n : Nat} {l : List Nat} {m : Nat} (h : allLt n l = true) (hm : m ∈ l) : m < n := allLt_memb h (memb_iff.2 hm)

theorem initRows_keys : ∀ {rows : List (Option (Nat × Nat))} {cells cs : List Cell} {u : List (Nat × Obj)} {kp : Bool}, initRows kp rows cells = some (cs, u) → u.map (·.1) = rowObjs rows := by
  intro rows
  induction rows with
  | nil =>
    intro cells cs u kp h
    cases cells with
    | nil => simp only [initRows] at h; injection h with h; injection h with _ h; subst h; rfl
    | cons _ _ => simp [initRows] at h
  | cons k rows ih =>
    intro cells cs u kp h
    cases cells with
    | nil => cases k <;> simp [initRows] at h
    | cons c cells =>
      cases k with
      | none =>
        simp only [initRows] at h
        split at h <;> try (cases h; done)
        rename_i l u' hl
        injection h with h; injection h with _ h; subst h
        exact ih hl
      | some p =>
        obtain ⟨o, e⟩ := p
        cases c <;> simp only [initRows] at h <;> try (cases h; done)
        split at h <;> try (cases h; done)
        rename_i l u' hl
        injection h with h; injection h with _ h; subst h
        simp [rowObjs, ih hl]

theorem initPars_keys : ∀ {ps : List FPar} {cs : List Cell} {vs : List V} {u : List (Nat × Obj)}, initPars ps cs = some (vs, u) → u.map (·.1) = parObjs ps := by
  intro ps
  induction ps with
  | nil =>
    intro cs vs u h
    cases cs with
    | nil => simp only [initPars] at h; injection h with h; injection h with _ h; subst h; rfl
    | cons _ _ => simp [initPars] at h
  | cons p ps ih =>
    intro cs vs u h
    cases p with
    | val g n =>
      simp only [initPars] at h
      split at h <;> try (cases h; done)
      rename_i l u' hl
      injection h with h; injection h with _ h; subst h
      exact ih hl
    | box o n =>
      simp only [initPars] at h
      split at h <;> try (cases h; done)
      rename_i l u' hl
      injection h with h; injection h with _ h; subst h
      simp [parObjs, ih hl]

theorem OutR.weaken {tm : Nat → TypeId} {w : World} {M M' : Nat → Prop} {B : Nat} {home : Nat → Option (Nat × Nat)} {sh sh' : Nat → Option (Nat × Ty × Nat)} (hM : ∀ b, M' b → M b) (hsh : ∀ o z, sh o = some z → sh' o = some z) :
    ∀ {outs : List OutF} {cs : List Cell} {vs : List Value} {L : List (Option (Nat × Nat))}, OutR tm w M B home sh outs cs vs L → OutR tm w M' B home sh' outs cs vs L := by
  have hden : ∀ {g : Bool} {t : Ty} {x : t.den} {us : List Value}, RepDen w M (if g then B else 0) t x us → RepDen w M' (if g then B else 0) t x us := fun h => h.keep (Stp.refl _ _) (fun b _ hb => hM b hb) (Nat.le_refl _)
  have hrow : ∀ {m : Option (Nat × Nat)} {fr : Bool} {e : Nat} {t : Ty} {xs : List t.den}, RowAt tm w M B m fr e t xs → RowAt tm w M' B m fr e t xs := by
    intro m fr e t xs h
    rcases h with h | ⟨b, base, cur, h1, h2, h3, h4⟩
    · exact .inl h
    · exact .inr ⟨b, base, cur, h1, h2, h3, fun i x hx => hden (h4 i x hx)⟩
  intro outs
  induction outs with
  | nil =>
    intro cs vs L h
    cases cs <;> cases vs <;> first | exact h | exact h.elim
  | cons k outs ih =>
    intro cs vs L h
    cases k with
    | imm =>
      cases cs with
      | nil => exact h.elim
      | cons c cs =>
        cases vs with
        | nil => exact h.elim
        | cons v vs => exact ⟨FlatRep.keep (Stp.refl _ _) (fun b _ hb => hM b hb) (Nat.le_refl _) h.1, ih h.2⟩
    | own e =>
      cases cs with
      | nil => exact h.elim
      | cons c cs =>
        cases vs with
        | nil => cases c <;> exact h.elim
        | cons v vs =>
          cases c <;> try (exact h.elim)
          obtain ⟨m, L', h1, ⟨h2, h3, h4⟩, h5⟩ := h
          exact ⟨m, L', h1, ⟨h2, hrow h3, h4⟩, ih h5⟩
    | back o =>
      cases cs with
      | nil => exact h.elim
      | cons c cs =>
        cases c <;> try (exact h.elim)
        obtain ⟨⟨e, h1, h2⟩, h3⟩ := h
        exact ⟨⟨e, hsh _ _ h1, hrow h2⟩, ih h3⟩

theorem func_sound {E : Env1} {fs : Nat → FS} {fid : FuncId} {x : XFunc} (N : Nat) (heqT : ∀ T t, E.eqT T t = true → eqTB E.P T t = true) (hcall : ∀ F : Fx, (∀ b, E.G b → b < F.w0.heap.size ∧ ¬ F.M0 b) → E.Q F.w0 → CallOk E F fs x.nobj) (hmix : E.P.follows .mixedOrders = true) (hok : funcOk E fid x = true) :
    Sound E.P E.tm E.G E.Q fid x.sig { arg := x.arg, ret := x.ret, fresh := x.fresh, F := fun y => x.run (envOf fs) N y, keep := x.keep } := by
  unfold funcOk at hok
  split at hok <;> try (cases hok; done)
  rename_i fn hfn
  split at hok <;> try (cases hok; done)
  rename_i c hbody
  simp only [Bool.and_eq_true] at hok
  obtain ⟨k1, k2, k3, k4, k5, k6⟩ := hok
  have k1 := Nat.eq_of_beq_eq_true k1
  have k2 := Nat.le_of_ble_eq_true k2
  have k4 := nodup_spec k4
  intro w B X home shape args raw y r hG hQ hBw hB1 hB2 hX hin hlt hpars hrows hF
  simp only [XFunc.run] at hF
  split at hF <;> try (cases hF; done)
  rename_i s0 hs0
  unfold XFunc.init at hs0
  split at hs0 <;> try (cases hs0; done)
  rename_i cs u hu
  split at hs0 <;> try (cases hs0; done)
  rename_i vs u2 hu2
  injection hs0 with hs0
  have hl0 : s0.h.length = x.nobj := by rw [← hs0, ups_len]; simp
  have ht0 : s0.t = vs ++ List.replicate (x.nslots - vs.length) .junk := by rw [← hs0, ups_t]
  have key1 := initRows_keys hu
  have key2 := initPars_keys hu2
  have hkeys : ((u ++ u2).map (·.1)).Nodup := by rw [List.map_append, key1, key2]; exact k4
  have hmemKey : ∀ o z, (o, z) ∈ u ++ u2 → o ∈ rowObjs x.rowsIn ++ parObjs x.pars := by
    intro o z hm
    have : o ∈ (u ++ u2).map (·.1) := List.mem_map.2 ⟨(o, z), hm, rfl⟩
    rwa [List.map_append, key1, key2] at this
  have hget : ∀ o z, (o, z) ∈ u ++ u2 → s0.obj o = z := by
    intro o z hm
    rw [← hs0]
    exact ups_get _ _ o z hkeys hm (by simp; exact allLt_mem k5 (hmemKey o z hm))
  have hother : ∀ o, o ∉ rowObjs x.rowsIn ++ parObjs x.pars → s0.obj o = .absent 0 := by
    intro o ho
    rw [← hs0, ups_obj _ _ o fun z hz => ho (hmemKey o z hz)]
    simp only [S.obj, List.getD_eq_getElem?_getD, List.getElem?_replicate]
    split <;> rfl
  have hin2 : ∀ o, o ∈ x.sig.inObjs ↔ o ∈ rowObjs x.rowsIn ++ parObjs x.pars := by
    intro o
    simp only [Sig.inObjs, XFunc.sig, List.mem_append]
    exact Or.comm
  have hpres : ∀ o, present (s0.obj o) → o ∈ x.sig.inObjs := by
    intro o hp
    apply Classical.byContradiction
    intro hn
    rw [hother o fun hm => hn ((hin2 o).2 hm)] at hp
    exact hp
  let F : Fx := { w0 := w, M0 := x.sig.inBlocks home, X := X, home := home, shape := fun o => if memb o (rowObjs x.rowsIn) then shape o else none, hX := hX, B := B, hB := hBw }
  have hM : ∀ b, (begin' w B X home s0.obj).M b → (X b ∨ x.sig.inBlocks home b) := by
    rintro b (hb | ⟨o, base, hp, hmu⟩)
    · exact .inl hb
    · exact .inr ⟨o, base, hpres o hp, hmu⟩
  obtain ⟨r1, _, r3⟩ := initRows_sound (h := s0.obj) hM hrows hu fun o z hz => hget o z (List.mem_append.2 (.inl hz))
  obtain ⟨p1, _, p3⟩ := initPars_sound (tm := E.tm) (h := s0.obj) hpars r1 hu2 fun o z hz => hget o z (List.mem_append.2 (.inr hz))
  have hvl : vs.length = x.pars.length := initPars_len hu2
  have hal : vs.length = args.length := p1.len
  have hall : ∀ o, o ∈ rowObjs x.rowsIn ++ parObjs x.pars → (x.keep = false ∨ o ∈ parObjs x.pars → weakRow (s0.obj o)) ∧ RepObj E.tm (begin' w B X home s0.obj) (home o) (s0.obj o) ∧ (s0.obj o).shape = F.shape o := by
    intro o ho
    have ho' : o ∈ (u ++ u2).map (·.1) := by rw [List.map_append, key1, key2]; exact ho
    obtain ⟨⟨o', z⟩, hm, rfl⟩ := List.mem_map.1 ho'
    have hz := hget o' z hm
    rw [show (o', z).1 = o' from rfl, hz]
    rcases List.mem_append.1 hm with hm | hm
    · obtain ⟨_, q2, q3, q4⟩ := r3 o' z hm
      have hr : o' ∈ rowObjs x.rowsIn := by rw [← key1]; exact List.mem_map.2 ⟨(o', z), hm, rfl⟩
      have hnr : o' ∉ parObjs x.pars := fun hh => (List.nodup_append.1 k4).2.2 o' hr o' hh rfl
      exact ⟨fun hh => q2 (hh.resolve_right hnr), q3, by rw [q4]; simp only [F]; rw [if_pos (memb_iff.2 hr)]⟩
    · obtain ⟨_, q2, q3, q4⟩ := p3 o' z hm
      have hr : o' ∈ parObjs x.pars := by rw [← key2]; exact List.mem_map.2 ⟨(o', z), hm, rfl⟩
      have hnr : o' ∉ rowObjs x.rowsIn := fun hh => (List.nodup_append.1 k4).2.2 o' hh o' hr rfl
      exact ⟨fun _ => q2, q3, by rw [q4]; simp only [F]; rw [if_neg fun hh => hnr (memb_iff.1 hh)]⟩
  have hrep : RepM E.tm F home s0 { tmps := args.toArray ++ Array.replicate (fn.ntmps - args.toArray.size) undef, defers := [] } w := by
    constructor
    · rfl
    · rw [ht0]; simp; omega
    · intro i v z hv hz
      rw [ht0, List.getElem?_append] at hv
      by_cases hi : i < vs.length
      · rw [if_pos hi] at hv
        rw [Array.getElem?_append] at hz
        rw [if_pos (by simp; omega)] at hz
        exact RepVs.get (C := begin' w B X home s0.obj) i p1 hv (by simpa using hz)
      · rw [if_neg hi, List.getElem?_replicate] at hv
        split at hv
        · injection hv with hv; subst hv; trivial
        · cases hv
    · intro o
      by_cases ho : o ∈ rowObjs x.rowsIn ++ parObjs x.pars
      · exact (hall o ho).2.1
      · rw [hother o ho]; trivial
    · intro o o' b base base' hp hp' h1 h2
      exact hin o o' b base base' (hpres o hp) (hpres o' hp') h1 h2
    · intro o b base hp h1
      exact hlt o b base (hpres o hp) h1
    · intro o b base hp h1
      refine .inr ⟨⟨o, base, hpres o hp, h1⟩, ?_⟩
      have ho := (hin2 o).1 (hpres o hp)
      cases hkp : x.keep with
      | false => exact .inl ((hall o ho).1 (.inl hkp))
      | true =>
        rcases List.mem_append.1 ho with h2 | h2
        · exact .inr (hB2 hkp o b base h2 h1)
        · exact .inl ((hall o ho).1 (.inr h2))
    · intro o hm
      have hp : present (s0.obj o) := by cases hx : s0.obj o <;> rw [hx] at hm <;> first | (cases hm; done) | trivial
      exact ⟨rfl, (hall o ((hin2 o).1 (hpres o hp))).2.2⟩
    · exact Stp.refl _ _
  refine calls_of_wp hfn hbody (wp_mono (code_sound heqT (hcall F hG hQ) hmix N x.body c k6 s0 x.endK r _ w hF hl0 ⟨home, hrep⟩) ?_)
  rintro e a w' ⟨exx, s, rfl, hn, ⟨μ, hr⟩, hk⟩
  have main : x.final s = some r → a.defers = [] ∧ ∃ v, (results fn a.tmps).run E.P w' = .ok v w' ∧ ∃ v', Ending.returned v = .returned v' ∧ OutPost E.tm x.sig { arg := x.arg, ret := x.ret, fresh := x.fresh, F := fun y => x.run (envOf fs) N y, keep := x.keep } w B X home shape r v' w' := by
    intro hfin
    refine ⟨hr.defers, ?_⟩
    unfold XFunc.final at hfin
    split at hfin <;> try (cases hfin; done)
    rename_i ac os hac
    split at hfin <;> try (cases hfin; done)
    rename_i bc hbc
    split at hfin <;> try (cases hfin; done)
    rename_i hnd
    split at hfin <;> try (cases hfin; done)
    rename_i out hout hap
    split at hfin <;> try (cases hfin; done)
    rename_i fr r' hof
    have hfr : (!(x.fresh || x.keep) || fr) = true ∧ r' = r := by
      cases hb : (!(x.fresh || x.keep) || fr)
      · rw [hb] at hfin; cases hfin
      · rw [hb] at hfin; injection hfin with hfin; exact ⟨rfl, hfin⟩
    obtain ⟨hfr, rfl⟩ := hfr
    obtain ⟨vals, rawA, bs, e1, e2, e3, e4⟩ := ret_sound (P := E.P) hr k3 hac
    obtain ⟨rawB, b1, b2, b3⟩ := boxes_sound hr hbc
    obtain ⟨pre, hpre, hsames⟩ := ofCells_sames (x.fresh || x.keep) hof (by intro hh; rw [hh] at hfr; simpa using hfr)
    rw [List.append_nil] at hpre
    subst hpre
    obtain ⟨ms, o1, o2, o3⟩ := out_sound hr hout (e3.append b2) hsames hap
    have hown : OwnRel μ s (x.sig.outMs home bs ms) (os ++ (ownRefs x.outs (ac ++ bc) ++ (parObjs x.pars ++ backObjs x.outs))) := e4.append (o2.append (b3.append o3))
    refine ⟨oneOrTuple vals, ?_, _, rfl, ⟨hr.frame, vals, rawA, rawB, bs, ms, rfl, e2, b1, ?_, hown.apart hr (nodup_spec hnd), ?_⟩⟩
    · rw [results_eq, Array.mapM_eq_mapM_toList]
      simp [e1, oneOrTuple]
      match vals with
      | [] => rfl
      | [v] => rfl
      | _ :: _ :: _ => rfl
    · refine OutR.weaken ?_ ?_ o1
      · rintro b (hb | ⟨base, hb⟩)
        · exact .inl hb
        · obtain ⟨o, base', g1, g2, g3⟩ := hown.mem b base hb
          exact .inr ⟨o, base', g1, g2, g3⟩
      · intro o z hz
        simp only [F] at hz
        split at hz
        · exact hz
        · cases hz
    · intro b base hb
      obtain ⟨o, base', g1, g2, g3⟩ := hown.mem b base hb
      exact ⟨(hr.own o b base' g2 g3).imp id (·.1), hr.lt o b base' g2 g3⟩
  cases exx with
  | normal => exact main hk
  | ret => exact main hk
  | exit id => cases hk

end Go.Kb

/- Calls, from the caller's side: what is handed in. -/
namespace Go.Kb

/-- the function's object, the caller's, and where it lies -/
abbrev AL := List (Nat × Nat × Option (Nat × Nat))

def parAL (μ : Nat → Option (Nat × Nat)) : List XPar → List FPar → AL
  | .box o _ :: r, .box oc _ :: q => (oc, o, μ o) :: parAL μ r q
  | _ :: r, _ :: q => parAL μ r q
  | _, _ => []

def nilOr {α : Type} (c : Cell) (x : α) (y : α) : α := match c with | .nil => x | _ => y

def rowAL (μ : Nat → Option (Nat × Nat)) : List (Option (Nat × Nat)) → List (Option (Nat × Nat)) → List Cell → AL
  | some (o, _) :: r, some (oc, _) :: q, c :: cs => (oc, o, nilOr c none (μ o)) :: rowAL μ r q cs
  | _ :: r, _ :: q, _ :: cs => rowAL μ r q cs
  | _, _, _ => []

def shapeAL : List (Option (Nat × Nat)) → List Cell → List (Nat × Option (Nat × Ty × Nat))
  | some (oc, e) :: q, .sl _ t xs :: cs => (oc, some (e, t, xs.length)) :: shapeAL q cs
  | _ :: q, _ :: cs => shapeAL q cs
  | _, _ => []

def alook {α : Type} (d : α) : List (Nat × α) → Nat → α
  | [], _ => d
  | (k, x) :: r, n => if n = k then x else alook d r n

theorem alook_get {α : Type} (d : α) : ∀ {l : List (Nat × α)} {k : Nat} {x : α}, (l.map (·.1)).Nodup → (k, x) ∈ l → alook d l k = x
  | (m, y) :: r, k, x, hn, hm => by
    obtain ⟨hno, hn⟩ := List.nodup_cons.1 hn
    cases hm with
    | head => simp [alook]
    | tail _ hm =>
      have hne : k ≠ m := by rintro rfl; exact hno (List.mem_map.2 ⟨(k, x), hm, rfl⟩)
      simp only [alook, if_neg hne]
      exact alook_get d hn hm

theorem alook_mem {α : Type} (d : α) : ∀ {l : List (Nat × α)} {k : Nat}, k ∈ l.map (·.1) → (k, alook d l k) ∈ l
  | (m, y) :: r, k, h => by
    by_cases hk : k = m
    · subst hk; simp [alook]
    · simp only [alook, if_neg hk]
      refine .tail _ (alook_mem d ?_)
      simp at h
      rcases h with h | h
      · exact absurd h hk
      · simpa using h

section
variable {tm : Nat → TypeId} {F : Fx} {μ : Nat → Option (Nat × Nat)} {s : S} {a : Act} {w : World} {look : Nat → Obj}

theorem box_args (h : RepM tm F μ s a w) (hs : Sees look s.obj) {o o' st st' : Nat} {hm : Bool} {cs : List Cell} {v : Value} (hx : look o = .box st' hm cs) (h1 : o = o') (h2 : st = st') (hv : RepCell (s.cx μ w F) (.ptr o' st 0) v) :
    ∃ b us T, μ o = some (b, 0) ∧ v = .pointer (some ⟨b, 0, none⟩) ∧ w.heap[b]? = some (.cells (List.toArray us) T (0, 0)) ∧ RepCells (s.cx μ w F) cs us ∧ present (s.obj o) := by
  subst h1; subst h2
  have hob := hs.row hx trivial
  obtain ⟨_, _, hp⟩ := hv
  obtain ⟨b, hmu, hv⟩ := hp hm cs hob
  have hobj := h.objs o
  rw [hob] at hobj
  obtain ⟨b', vs, T, h3, h4, h5⟩ := hobj
  have hmu : μ o = some (b, 0) := hmu
  rw [hmu] at h3; injection h3 with h3; injection h3 with h3 _; subst h3
  have h4 : w.heap[b]? = some (.cells vs T (0, 0)) := h4
  exact ⟨b, vs.toList, T, hmu, hv, by simpa using h4, h5, by rw [hob]; trivial⟩

theorem collect_rep (h : RepM tm F μ s a w) (hs : Sees look s.obj) : ∀ {ps : List XPar} {gs : List FPar} {vs : List V} {raw : List Cell} {args : List Value}, parsOk ps gs = true → collect look ps vs = some raw → RepVs (s.cx μ w F) vs args →
    ∃ rawv, RepCells (s.cx μ w F) raw rawv ∧ (∀ p ∈ parAL μ ps gs, present (s.obj p.2.1) ∧ p.2.2 = μ p.2.1) ∧ (parAL μ ps gs).map (·.1) = parObjs gs ∧ (parAL μ ps gs).map (·.2.1) = xparObjs ps ∧
      ∀ home : Nat → Option (Nat × Nat), (∀ p ∈ parAL μ ps gs, home p.1 = p.2.2) → ParsR w home gs args rawv := by
  intro ps
  induction ps with
  | nil =>
    intro gs vs raw args hok hc hv
    cases gs with
    | cons _ _ => simp [parsOk] at hok
    | nil =>
      cases vs with
      | cons _ _ => simp [collect] at hc
      | nil =>
        simp only [collect] at hc
        injection hc with hc; subst hc
        cases args with
        | cons _ _ => exact hv.elim
        | nil => exact ⟨[], trivial, fun p hp => (by cases hp), rfl, rfl, fun home _ => rfl⟩
  | cons p ps ih =>
    intro gs vs raw args hok hc hv
    cases gs with
    | nil => cases p <;> simp [parsOk] at hok
    | cons q gs =>
      cases vs with
      | nil => cases p with
        | val g n => cases g <;> simp [collect] at hc
        | box o n => simp [collect] at hc
      | cons v vs =>
        cases args with
        | nil => exact hv.elim
        | cons arg args =>
          cases p with
          | val g n =>
            cases q with
            | box _ _ => simp [parsOk] at hok
            | val g' n' =>
              simp only [parsOk, Bool.and_eq_true] at hok
              obtain ⟨h1, h2, h3, h4⟩ := hok
              have h1 : g = g' := by simpa using h1
              have h2 := Nat.eq_of_beq_eq_true h2
              subst h1; subst h2
              cases g with
              | true =>
                cases v with
                | agg cs =>
                  simp only [collect] at hc
                  split at hc <;> try (cases hc; done)
                  rename_i hl
                  split at hc <;> try (cases hc; done)
                  rename_i r hr
                  injection hc with hc; subst hc
                  obtain ⟨rawv, e1, e2, e3, e4, e5⟩ := ih h4 hr hv.2
                  obtain ⟨us, hu, hcs⟩ := hv.1
                  refine ⟨us ++ rawv, hcs.append e1, e2, e3, e4, fun home hh => ⟨us, rawv, hu, ?_, rfl, e5 home hh⟩⟩
                  rw [← hcs.len]; exact Nat.eq_of_beq_eq_true hl
                | _ => simp [collect] at hc
              | false =>
                cases v with
                | one c =>
                  simp only [collect] at hc
                  split at hc <;> try (cases hc; done)
                  rename_i r hr
                  injection hc with hc; subst hc
                  obtain ⟨rawv, e1, e2, e3, e4, e5⟩ := ih h4 hr hv.2
                  exact ⟨arg :: rawv, ⟨hv.1, e1⟩, e2, e3, e4, fun home hh => ⟨rawv, by simpa using h3, rfl, e5 home hh⟩⟩
                | _ => simp [collect] at hc
          | box o n =>
            cases q with
            | val _ _ => simp [parsOk] at hok
            | box oc n' =>
              simp only [parsOk, Bool.and_eq_true] at hok
              have h2 := Nat.eq_of_beq_eq_true hok.1
              subst h2
              cases v with
              | one cl =>
                cases cl with
                | ptr o' st off =>
                  cases off with
                  | succ k => simp [collect] at hc
                  | zero =>
                    simp only [collect] at hc
                    split at hc <;> try (cases hc; done)
                    rename_i st' hm cs hx
                    split at hc <;> try (cases hc; done)
                    rename_i hb
                    split at hc <;> try (cases hc; done)
                    rename_i r hr
                    injection hc with hc; subst hc
                    simp only [Bool.and_eq_true] at hb
                    obtain ⟨rawv, e1, e2, e3, e4, e5⟩ := ih hok.2 hr hv.2
                    obtain ⟨b, us, T, g1, g2, g3, g4, g5⟩ := box_args h hs hx (Nat.eq_of_beq_eq_true hb.1) (Nat.eq_of_beq_eq_true hb.2.1) hv.1
                    refine ⟨us ++ rawv, g4.append e1, fun p hp => ?_, by simp [parAL, parObjs, e3], by simp [parAL, xparObjs, e4], fun home hh => ?_⟩
                    · cases hp with
                      | head => exact ⟨g5, rfl⟩
                      | tail _ hp => exact e2 p hp
                    · refine ⟨b, us, T, rawv, ?_, g2, g3, ?_, rfl, e5 home fun p hp => hh p (.tail _ hp)⟩
                      · rw [hh _ (.head _)]; exact g1
                      · rw [← g4.len]; exact Nat.eq_of_beq_eq_true hb.2.2
                | _ => simp [collect] at hc
              | _ => simp [collect] at hc

/-- what stands for the data of a cell is kept, with fewer blocks barred -/
theorem flat_lent (h : RepM tm F μ s a w) (hs : Sees look s.obj) {M' : Nat → Prop} (hM : ∀ b, M' b → (s.cx μ w F).M b) {kp : Bool} {c c' d : Cell} {v : Value} (hf : flat look c = some c') (hd : Same kp c' d) (hc : RepCell (s.cx μ w F) c v)
    (hl : ∀ o st e, c = .ref o st e → ∀ b base, μ o = some (b, base) → ¬ M' b) {B : Nat} (hB : kp = true → B ≤ F.B) (hnr : kp = true → ∀ o st e, c ≠ .ref o st e) : FlatRep w M' B d v := by
  have key : ∀ {t : Ty} {xs : List t.den} {g : Bool}, (kp = true → g = true) → RepDen w (s.cx μ w F).M ((s.cx μ w F).L g) (.list t) xs [v] → RepDen w M' (if kp then B else 0) (.list t) xs [v] :=
    fun hg hh => hh.keep (Stp.refl _ _) (fun b _ hb => hM b hb) (by
      cases kp with
      | false => simp
      | true => rw [hg rfl]; simp only [Cx.L, if_true]; exact hB rfl)
  cases c with
  | int k n => simp only [flat] at hf; injection hf with hf; subst hf; exact FlatRep.same (c := .int k n) (by exact hc) hd
  | bool b => simp only [flat] at hf; injection hf with hf; subst hf; exact FlatRep.same (c := .bool b) (by exact hc) hd
  | str b => simp only [flat] at hf; injection hf with hf; subst hf; exact FlatRep.same (c := .str b) (by exact hc) hd
  | nil => simp only [flat] at hf; injection hf with hf; subst hf; exact FlatRep.same (c := .nil) (by exact hc) hd
  | sl g t xs =>
    simp only [flat] at hf; injection hf with hf; subst hf
    obtain ⟨rfl, hg⟩ := hd
    exact key hg hc
  | ref o st e =>
    simp only [flat] at hf
    split at hf <;> try (cases hf; done)
    rename_i st' hm fr' ec t xs hx
    split at hf <;> try (cases hf; done)
    rename_i hst
    have hst := Nat.eq_of_beq_eq_true hst
    subst hst
    injection hf with hf; subst hf
    obtain ⟨rfl, _⟩ := hd
    cases kp with
    | true => exact absurd rfl (hnr rfl _ _ _)
    | false =>
    have hob := hs.row hx trivial
    have hpo : present (s.obj o) := by rw [hob]; trivial
    have hM2 : ∀ b, (Cx.mk μ (fun _ => .absent 0) w B M').M b → M' b := by
      rintro b (hb | ⟨_, _, hp, _⟩)
      · exact hb
      · exact hp.elim
    have hob' : RepObj tm (Cx.mk μ s.obj w 0 F.X) (μ o) (.row st hm fr' ec t xs) := by
      have := h.objs o
      rw [hob] at this
      rcases this with this | ⟨b, base, cur, k1, k2, k3, k4⟩
      · exact .inl this
      · exact .inr ⟨b, base, cur, k1, k2, k3, fun i x hxi => RepDen.keep (Stp.refl _ _) (fun _ _ hb => hb) (by simp [Cx.L]) (k4 i x hxi)⟩
    have := row_den (tm := tm) (C := Cx.mk μ s.obj w 0 F.X) (C' := Cx.mk μ (fun _ => .absent 0) w 0 M') (fr' := false) (by show RepObj tm _ (μ o) (s.obj o); rw [hob]; exact hob') hob (by
      obtain ⟨c1, c2, c3⟩ := hc
      exact ⟨c1, c2, c3⟩) rfl rfl (fun b hb => hM b (by
        rcases hb with hb | ⟨_, _, hp, _⟩
        · exact hb
        · exact hp.elim)) (fun b base hmu hb => hl o _ e rfl b base hmu (by
        rcases hb with hb | ⟨_, _, hp, _⟩
        · exact hb
        · exact hp.elim)) (fun b base hmu => h.lt o b base hpo hmu) (by intro hh; cases hh) (by intro hh; cases hh)
    have this : RepDen w (Cx.mk μ (fun _ => .absent 0) w 0 M').M _ (.list t) (e.cut xs) [v] := this
    exact this.keep (Stp.refl _ _) (fun b _ hb => Or.inl hb) (by simp [Cx.L])
  | ptr _ _ _ => simp [flat] at hf
  | dptr _ _ _ _ => simp [flat] at hf
  | eptr _ _ _ _ => simp [flat] at hf
  | junk => simp [flat] at hf

theorem handIn_rep (h : RepM tm F μ s a w) (hs : Sees look s.obj) {M' : Nat → Prop} {B : Nat} (hM : ∀ b, M' b → (s.cx μ w F).M b) {kp : Bool} (hB : kp = true → B ≤ F.B) :
    ∀ {rows gr : List (Option (Nat × Nat))} {raw inp ds : List Cell} {rawv : List Value}, handIn look rows raw = some inp → rowsOk rows gr = true → RepCells (s.cx μ w F) raw rawv → Sames kp inp ds →
      (∀ o, o ∈ lentRefs rows raw → ∀ b base, μ o = some (b, base) → ¬ M' b) → (kp = true → lentRefs rows raw = []) →
      (∀ p ∈ rowAL μ rows gr raw, ∀ b base, p.2.2 = some (b, base) → present (s.obj p.2.1) ∧ μ p.2.1 = some (b, base)) ∧
      (rowAL μ rows gr raw).map (·.1) = rowObjs gr ∧ (rowAL μ rows gr raw).map (·.2.1) = rowObjs rows ∧ (shapeAL gr ds).map (·.1) = rowObjs gr ∧
      ∀ (home : Nat → Option (Nat × Nat)) (shape : Nat → Option (Nat × Ty × Nat)), (∀ p ∈ rowAL μ rows gr raw, home p.1 = p.2.2) → (∀ p ∈ shapeAL gr ds, shape p.1 = p.2) →
        InR tm w M' B home shape gr ds rawv := by
  intro rows
  induction rows with
  | nil =>
    intro gr raw inp ds rawv hh hok hc hsm hl hn
    cases gr with
    | cons _ _ => simp [rowsOk] at hok
    | nil =>
      cases raw with
      | cons _ _ => simp [handIn] at hh
      | nil =>
        simp only [handIn] at hh
        injection hh with hh; subst hh
        cases ds with
        | cons _ _ => exact hsm.elim
        | nil =>
          cases rawv with
          | cons _ _ => exact hc.elim
          | nil => exact ⟨fun p hp => (by cases hp), rfl, rfl, rfl, fun _ _ _ _ => trivial⟩
  | cons k rows ih =>
    intro gr raw inp ds rawv hh hok hc hsm hl hn
    cases gr with
    | nil => cases k <;> simp [rowsOk] at hok
    | cons q gr =>
      cases raw with
      | nil => cases k <;> simp [handIn] at hh
      | cons c raw =>
        cases rawv with
        | nil => exact hc.elim
        | cons v rawv =>
          cases k with
          | none =>
            cases q with
            | some _ => simp [rowsOk] at hok
            | none =>
              simp only [rowsOk] at hok
              simp only [handIn] at hh
              split at hh <;> try (cases hh; done)
              rename_i c' hf
              split at hh <;> try (cases hh; done)
              rename_i r hr
              injection hh with hh; subst hh
              cases ds with
              | nil => exact hsm.elim
              | cons d ds =>
                obtain ⟨e1, e2, e3, e4, e5⟩ := ih hr hok hc.2 hsm.2 (fun o ho => hl o (by cases c <;> simp only [lentRefs] <;> first | exact ho | exact .tail _ ho)) (fun hk => by have := hn hk; cases c <;> simp only [lentRefs] at this <;> first | exact this | cases this)
                refine ⟨e1, e2, e3, by simpa [shapeAL, rowObjs] using e4, fun home shape h1 h2 => ⟨?_, e5 home shape h1 (by simpa [shapeAL] using h2)⟩⟩
                exact flat_lent h hs hM hf hsm.1 hc.1 (fun o st e he => hl o (by subst he; simp [lentRefs])) hB (fun hk o st e he => by have := hn hk; subst he; simp [lentRefs] at this)
          | some p =>
            obtain ⟨o, e⟩ := p
            cases q with
            | none => simp [rowsOk] at hok
            | some p' =>
              obtain ⟨oc, e'⟩ := p'
              simp only [rowsOk, Bool.and_eq_true] at hok
              obtain ⟨hee, hok⟩ := hok
              have hee := Nat.eq_of_beq_eq_true hee
              subst hee
              cases c with
              | nil =>
                simp only [handIn] at hh
                split at hh <;> try (cases hh; done)
                rename_i st hab
                split at hh <;> try (cases hh; done)
                rename_i r hr
                injection hh with hh; subst hh
                cases ds with
                | nil => exact hsm.elim
                | cons d ds =>
                  obtain ⟨t, hd⟩ := hsm.1
                  subst hd
                  obtain ⟨e1, e2, e3, e4, e5⟩ := ih hr hok hc.2 hsm.2 (fun o ho => hl o (by simp only [lentRefs]; exact ho)) (fun hk => by have := hn hk; simpa only [lentRefs] using this)
                  have hv : v = .slice none 0 0 := hc.1
                  refine ⟨fun p hp b base hpb => ?_, by simp [rowAL, rowObjs, e2], by simp [rowAL, rowObjs, e3], by simp [shapeAL, rowObjs, e4], fun home shape h1 h2 => ?_⟩
                  · cases hp with
                    | head => cases hpb
                    | tail _ hp => exact e1 p hp b base hpb
                  · have g1 := h1 _ (.head _)
                    have g2 := h2 _ (.head _)
                    have g1 : home oc = none := g1
                    refine ⟨⟨by rw [g1]; exact .inl ⟨rfl, rfl, hv⟩, by rw [g1]; exact .inl ⟨rfl, rfl⟩, g2⟩, e5 home shape (fun p hp => h1 p (.tail _ hp)) fun p hp => h2 p (.tail _ hp)⟩
              | ref o' st ex =>
                cases ex with
                | all =>
                  simp only [handIn] at hh
                  split at hh <;> try (cases hh; done)
                  rename_i st' hm fr e2 t xs hx
                  split at hh <;> try (cases hh; done)
                  rename_i hb
                  split at hh <;> try (cases hh; done)
                  rename_i r hr
                  injection hh with hh; subst hh
                  simp only [Bool.and_eq_true] at hb
                  have b1 := Nat.eq_of_beq_eq_true hb.1
                  have b2 := Nat.eq_of_beq_eq_true hb.2.1
                  have b3 := Nat.eq_of_beq_eq_true hb.2.2
                  subst b1; subst b2; subst b3
                  cases ds with
                  | nil => exact hsm.elim
                  | cons d ds =>
                    obtain ⟨hd, hgf⟩ := hsm.1
                    subst hd
                    obtain ⟨e1, e2, e3, e4, e5⟩ := ih hr hok hc.2 hsm.2 (fun o ho => hl o (by simp only [lentRefs]; exact ho)) (fun hk => by have := hn hk; simpa only [lentRefs] using this)
                    have hob := hs.row hx trivial
                    have hpo : present (s.obj o) := by rw [hob]; trivial
                    obtain ⟨_, _, hrow⟩ := hc.1
                    obtain ⟨_, hrow⟩ := hrow hm fr e t xs hob
                    refine ⟨fun p hp b base hpb => ?_, by simp [rowAL, rowObjs, e2], by simp [rowAL, rowObjs, e3], by simp [shapeAL, rowObjs, e4], fun home shape h1 h2 => ?_⟩
                    · cases hp with
                      | head => exact ⟨hpo, hpb⟩
                      | tail _ hp => exact e1 p hp b base hpb
                    · have g1 : home oc = μ o := h1 _ (.head _)
                      have g2 := h2 _ (.head _)
                      refine ⟨⟨by rw [g1]; exact hrow, ?_, g2⟩, e5 home shape (fun p hp => h1 p (.tail _ hp)) fun p hp => h2 p (.tail _ hp)⟩
                      rw [g1]
                      have := h.objs o
                      rw [hob] at this
                      rcases this with this | ⟨b, base, cur, k1, k2, k3, k4⟩
                      · exact .inl this
                      · exact .inr ⟨b, base, cur, k1, k2, k3, fun i x hxi => RepDen.keep (Stp.refl _ _) (fun b _ hb => hM b hb) (by
                          cases kp with
                          | false => simp
                          | true =>
                            have hfr := hgf rfl
                            simp at hfr
                            rw [hfr.1]; simp only [Cx.L, if_true]; exact hB rfl) (k4 i x hxi)⟩
                | tail _ => simp [handIn] at hh
                | part _ _ => simp [handIn] at hh
              | int _ _ => simp [handIn] at hh
              | bool _ => simp [handIn] at hh
              | str _ => simp [handIn] at hh
              | sl _ _ _ => simp [handIn] at hh
              | ptr _ _ _ => simp [handIn] at hh
              | dptr _ _ _ _ => simp [handIn] at hh
              | eptr _ _ _ _ => simp [handIn] at hh
              | junk => simp [handIn] at hh

end
end Go.Kb

/- Calls, from the caller's side: what comes back. -/
namespace Go.Kb

abbrev TL := List (Option Nat × Option (Nat × Nat))

theorem den_above {w : World} {M : Nat → Prop} {L : Nat} : ∀ {t : Ty} {x : t.den} {vs : List Value}, RepDen w M L t x vs → RepDen w (fun b => M b ∨ b < L) L t x vs := by
  intro t
  induction t with
  | int k => exact fun h => h
  | bool => exact fun h => h
  | str => exact fun h => h
  | unit => exact fun h => h
  | pair t u iht ihu =>
    intro x vs h
    obtain ⟨p, q, rfl, hp, hq⟩ := h
    exact ⟨p, q, rfl, iht hp, ihu hq⟩
  | list t ih =>
    intro xs vs h
    obtain ⟨a, cap, rfl, hc, hb, hcells⟩ := h
    refine ⟨a, cap, rfl, hc, ?_, ?_⟩
    · rcases hb with h0 | ⟨ad, rfl, h1, h2, h3⟩
      · exact .inl h0
      · exact .inr ⟨ad, rfl, h1, h2, fun hm => hm.elim h3 fun h => by omega⟩
    · intro i x hx
      obtain ⟨ad, us, rfl, hl, hcell, hd⟩ := hcells i x hx
      exact ⟨ad, us, rfl, hl, hcell, ih hd⟩

/-- at level 0 the marks say nothing -/
theorem flat_zero {w : World} {M : Nat → Prop} {B : Nat} {c : Cell} {v : Value} : FlatRep w M B (unfl c) v ↔ FlatRep w M 0 c v := by
  cases c <;> simp [unfl, FlatRep]

theorem InR.up {tm : Nat → TypeId} {w : World} {M : Nat → Prop} {B : Nat} {home : Nat → Option (Nat × Nat)} {shape : Nat → Option (Nat × Ty × Nat)} : ∀ {rows : List (Option (Nat × Nat))} {cs : List Cell} {vs : List Value}, InR tm w M B home shape rows (cs.map unfl) vs → InR tm w M 0 home shape rows cs vs := by
  intro rows
  induction rows with
  | nil => intro cs vs h; cases cs <;> cases vs <;> first | exact h | exact h.elim
  | cons k rows ih =>
    intro cs vs h
    cases cs with
    | nil => cases k <;> exact h.elim
    | cons c cs =>
      cases vs with
      | nil =>
        cases k with
        | none => exact h.elim
        | some p => cases c <;> exact h.elim
      | cons v vs =>
        cases k with
        | none => exact ⟨flat_zero.1 h.1, ih h.2⟩
        | some p =>
          cases c <;> try (exact h.elim)
          obtain ⟨⟨h1, h2, h3⟩, h4⟩ := h
          refine ⟨⟨h1, ?_, h3⟩, ih h4⟩
          rcases h2 with h2 | ⟨b, base, cur, k1, k2, k3, k4⟩
          · exact .inl h2
          · exact .inr ⟨b, base, cur, k1, k2, k3, fun i x hx => by simpa using k4 i x hx⟩

theorem OutR.down {tm : Nat → TypeId} {w : World} {M : Nat → Prop} {B : Nat} {home : Nat → Option (Nat × Nat)} {shape : Nat → Option (Nat × Ty × Nat)} : ∀ {outs : List OutF} {cs : List Cell} {vs : List Value} {L : List (Option (Nat × Nat))}, OutR tm w M 0 home shape outs cs vs L → OutR tm w M B home shape outs (cs.map unfl) vs L := by
  intro outs
  induction outs with
  | nil => intro cs vs L h; cases cs <;> cases vs <;> first | exact h | exact h.elim
  | cons k outs ih =>
    intro cs vs L h
    have hrow : ∀ {m : Option (Nat × Nat)} {fr : Bool} {e : Nat} {t : Ty} {xs : List t.den}, RowAt tm w M 0 m fr e t xs → RowAt tm w M B m false e t xs := by
      intro m fr e t xs h
      rcases h with h | ⟨b, base, cur, h1, h2, h3, h4⟩
      · exact .inl h
      · exact .inr ⟨b, base, cur, h1, h2, h3, fun i x hx => by simpa using h4 i x hx⟩
    cases k with
    | imm =>
      cases cs with
      | nil => exact h.elim
      | cons c cs =>
        cases vs with
        | nil => exact h.elim
        | cons v vs => exact ⟨flat_zero.2 h.1, ih h.2⟩
    | own e =>
      cases cs with
      | nil => exact h.elim
      | cons c cs =>
        cases vs with
        | nil => cases c <;> exact h.elim
        | cons v vs =>
          cases c <;> try (exact h.elim)
          obtain ⟨m, L', h1, ⟨h2, h3, h4⟩, h5⟩ := h
          exact ⟨m, L', h1, ⟨h2, hrow h3, fun hh => by cases hh⟩, ih h5⟩
    | back o =>
      cases cs with
      | nil => exact h.elim
      | cons c cs =>
        cases c <;> try (exact h.elim)
        obtain ⟨⟨e, h1, h2⟩, h3⟩ := h
        exact ⟨⟨e, h1, hrow h2⟩, ih h3⟩

theorem cells_flag {fr : Bool} : ∀ {t : Ty} {x : t.den} {g : Bool} {u : Ty} {xs : List u.den}, Cell.sl g u xs ∈ t.cells fr x → g = fr := by
  intro t
  induction t with
  | int k => intro x g u xs h; simp [Ty.cells] at h
  | bool => intro x g u xs h; simp [Ty.cells] at h
  | str => intro x g u xs h; simp [Ty.cells] at h
  | unit => intro x g u xs h; simp [Ty.cells] at h
  | pair t u iht ihu =>
    intro x g v xs h
    simp only [Ty.cells, List.mem_append] at h
    exact h.elim iht ihu
  | list t _ =>
    intro x g u xs h
    simp only [Ty.cells, List.mem_singleton] at h
    injection h

section
variable {tm : Nat → TypeId} {w : World} {M : Nat → Prop} {B : Nat} {home : Nat → Option (Nat × Nat)} {shape : Nat → Option (Nat × Ty × Nat)}

theorem row_above {m : Option (Nat × Nat)} {e : Nat} {t : Ty} {xs : List t.den} (h : RowAt tm w M B m true e t xs) : RowAt tm w (fun b => M b ∨ b < B) B m true e t xs := by
  rcases h with h | ⟨b, base, cur, h1, h2, h3, h4⟩
  · exact .inl h
  · exact .inr ⟨b, base, cur, h1, h2, h3, fun i x hx => den_above (h4 i x hx)⟩

theorem OutR.above : ∀ {outs : List OutF} {cs : List Cell} {vs : List Value} {L : List (Option (Nat × Nat))}, (∀ g u xs, Cell.sl g u xs ∈ cs → g = true) → OutR tm w M B home shape outs cs vs L →
    OutR tm w (fun b => M b ∨ b < B) B home shape outs cs vs L := by
  intro outs
  induction outs with
  | nil => intro cs vs L _ h; cases cs <;> cases vs <;> first | exact h | exact h.elim
  | cons k outs ih =>
    intro cs vs L hg h
    have hg' : ∀ c r, cs = c :: r → ∀ g u xs, Cell.sl g u xs ∈ r → g = true := fun c r hc g u xs hm => hg g u xs (hc ▸ .tail _ hm)
    cases k with
    | imm =>
      cases cs with
      | nil => exact h.elim
      | cons c cs =>
        cases vs with
        | nil => exact h.elim
        | cons v vs =>
          refine ⟨?_, ih (hg' _ _ rfl) h.2⟩
          have h1 := h.1
          cases c with
          | sl g t xs => have := hg g t xs (.head _); subst this; exact den_above (show RepDen w M B (.list t) xs [v] from h1)
          | int => exact h1
          | bool => exact h1
          | str => exact h1
          | nil => exact h1
          | _ => exact h1.elim
    | own e =>
      cases cs with
      | nil => exact h.elim
      | cons c cs =>
        cases vs with
        | nil => cases c <;> exact h.elim
        | cons v vs =>
          cases c <;> try (exact h.elim)
          rename_i fr t xs
          have := hg fr t xs (.head _)
          subst this
          obtain ⟨m, L', h1, ⟨h2, h3, h4⟩, h5⟩ := h
          exact ⟨m, L', h1, ⟨h2, row_above h3, h4⟩, ih (hg' _ _ rfl) h5⟩
    | back o =>
      cases cs with
      | nil => exact h.elim
      | cons c cs =>
        cases c <;> try (exact h.elim)
        rename_i fr t xs
        have := hg fr t xs (.head _)
        subst this
        obtain ⟨⟨e, h1, h2⟩, h3⟩ := h
        exact ⟨⟨e, h1, row_above h2⟩, ih (hg' _ _ rfl) h3⟩

/-- a row that comes back, and what is known of it -/
def CameRow (tm : Nat → TypeId) (look : Nat → Obj) (w : World) (M : Nat → Prop) (B : Nat) (own : Bool) (o : Nat) (y : Obj) (m : Option (Nat × Nat)) : Prop :=
  ∃ e t xs fr fr', RowAt tm w M B m fr' e t xs ∧ (fr = true → fr' = true) ∧ match own with
    | true => y = .row ((look o).stamp + 1) false fr e t xs ∧ (fr = true → ∀ b base, m = some (b, base) → B ≤ b)
    | false => ∃ st hm fr0 xs0, look o = .row st hm fr0 e t xs0 ∧ xs0.length = xs.length ∧ y = .row st hm fr e t xs ∧ (fr = true → fr0 = true ∨ hm = true)

theorem place_rep {look : Nat → Obj} {c : CallSpec} {g : Sig}
    (hpair : ∀ o oc st hm fr e t xs, pairOk c.rowsIn g.rowsIn o oc = true → look o = .row st hm fr e t xs → shape oc = some (e, t, xs.length)) :
    ∀ {outs : List OutC} {gouts : List OutF} {ds : List Cell} {vs : List Value} {ms : List (Option (Nat × Nat))} {cs : List Cell} {u : List (Nat × Obj)},
      outsOk c g outs gouts = true → place look outs ds = some (cs, u) → OutR tm w M B home shape gouts ds vs ms →
      ∃ T1 T2 : TL, T1.map (·.2) = ms ∧ T2.map (·.2) = (backObjs gouts).map home ∧ T1.filterMap (·.1) = ownC outs ∧ T2.filterMap (·.1) = backC outs ∧ u.map (·.1) = outKeys outs ∧
        (∀ o y, (o, y) ∈ u → ∃ m, ((some o, m) ∈ T1 ∧ CameRow tm look w M B true o y m) ∨ ((some o, m) ∈ T2 ∧ CameRow tm look w M B false o y m)) ∧
        (∀ p, p ∈ T2 → ∃ o oc, p = (some o, home oc) ∧ pairOk c.rowsIn g.rowsIn o oc = true ∧ ∃ st hm fr e t xs, look o = .row st hm fr e t xs) ∧
        ∀ C' : Cx, C'.w = w → C'.B ≤ B → (∀ b, C'.M b → M b) → (∀ o y, (o, y) ∈ u → C'.h o = y) → (∀ o m, (some o, m) ∈ T1 → C'.μ o = m) → (∀ b base, (none, some (b, base)) ∈ T1 → b < w.heap.size ∧ ¬ C'.M b) → RepCells C' cs vs := by
  intro outs
  induction outs with
  | nil =>
    intro gouts ds vs ms cs u hok hp ho
    cases gouts with
    | cons k _ => cases k <;> simp [outsOk] at hok
    | nil =>
      cases ds with
      | cons _ _ => simp [place] at hp
      | nil =>
        simp only [place] at hp
        injection hp with hp; injection hp with e1 e2; subst e1; subst e2
        cases vs with
        | cons _ _ => exact ho.elim
        | nil =>
          have ho : ms = [] := ho
          subst ho
          exact ⟨[], [], rfl, rfl, rfl, rfl, rfl, (fun o y h => by cases h), (fun p h => by cases h), fun _ _ _ _ _ _ _ => trivial⟩
  | cons k outs ih =>
    intro gouts ds vs ms cs u hok hp ho
    cases gouts with
    | nil => cases k <;> simp [outsOk] at hok
    | cons q gouts =>
      cases ds with
      | nil => cases k <;> simp [place] at hp
      | cons d ds =>
        cases k with
        | imm =>
          simp only [place] at hp
          split at hp <;> try (cases hp; done)
          rename_i l u' hl
          injection hp with hp; injection hp with e1 e2; subst e1; subst e2
          cases q with
          | back _ => simp [outsOk] at hok
          | imm =>
            simp only [outsOk] at hok
            cases vs with
            | nil => exact ho.elim
            | cons v vs =>
              obtain ⟨T1, T2, t1, t2, t3, t4, t5, t6, t7, t8⟩ := ih hok hl ho.2
              refine ⟨T1, T2, t1, t2, t3, t4, t5, t6, t7, fun C' hw hB hM hh hmu hn => ⟨?_, t8 C' hw hB hM hh hmu hn⟩⟩
              have h1 := ho.1
              cases d with
              | sl g t xs =>
                show RepDen C'.w C'.M (C'.L g) (.list t) xs [v]
                rw [hw]
                refine RepDen.keep (Stp.refl _ _) (fun b _ hb => hM b hb) ?_ (show RepDen w M (if g then B else 0) (.list t) xs [v] from h1)
                cases g <;> simp [Cx.L, hB]
              | int => exact h1
              | bool => exact h1
              | str => exact h1
              | nil => exact h1
              | _ => exact h1.elim
          | own e =>
            simp only [outsOk] at hok
            cases vs with
            | nil => cases d <;> exact ho.elim
            | cons v vs =>
              cases d <;> try (exact ho.elim)
              rename_i fr t xs
              obtain ⟨m, L', rfl, ⟨h2, h3, h4⟩, h5⟩ := ho
              obtain ⟨T1, T2, t1, t2, t3, t4, t5, t6, t7, t8⟩ := ih hok hl h5
              refine ⟨(none, m) :: T1, T2, by simp [t1], t2, by simpa [ownC] using t3, t4, t5, fun o y hm => ?_, t7, fun C' hw hB hM hh hmu hn => ⟨?_, t8 C' hw hB hM hh (fun o m hm => hmu o m (.tail _ hm)) (fun b base hm => hn b base (.tail _ hm))⟩⟩
              · obtain ⟨m', h⟩ := t6 o y hm
                exact ⟨m', h.imp (fun h => ⟨.tail _ h.1, h.2⟩) id⟩
              · -- a row of the callee's, taken as a datum
                show RepDen C'.w C'.M (C'.L fr) (.list t) xs [v]
                rw [hw]
                have hLe : C'.L fr ≤ (if fr then B else 0) := by cases fr <;> simp [Cx.L, hB]
                rcases h2 with ⟨rfl, hl0, hv⟩ | ⟨b, base, a, cap, cur, T, rfl, hv, g1, g2, g3, g4, g5, g6, g7⟩
                · subst hv
                  have : xs = [] := List.eq_nil_of_length_eq_zero hl0
                  subst this
                  exact nil_den _ _ _ t
                · obtain ⟨hlt, hnM⟩ := hn b base (.head _)
                  rcases h3 with ⟨h3, _⟩ | ⟨b', base', cur', h3, g8, g9, g10⟩
                  · cases h3
                  injection h3 with h3; injection h3 with e1 e2; subst e1; subst e2
                  have hLb : C'.L fr ≤ b := by
                    cases fr with
                    | false => simp [Cx.L]
                    | true => have := h4 rfl b base rfl; simp [Cx.L]; omega
                  refine ⟨some a, cap, by rw [hv], g1, .inr ⟨a, rfl, by rw [g3]; exact hLb, by rw [g3]; exact hlt, by rw [g3]; exact hnM⟩, fun i x hx => ?_⟩
                  have hi : i < xs.length := (List.getElem?_eq_some_iff.1 hx).1
                  have hisz : i * t.sz + t.sz ≤ xs.length * t.sz := by
                    have : (i + 1) * t.sz ≤ xs.length * t.sz := Nat.mul_le_mul_right _ hi
                    rwa [Nat.add_mul, Nat.one_mul] at this
                  refine ⟨a, _, rfl, ?_, fun j y hy => ?_, RepDen.keep (Stp.refl _ _) (fun b _ hb => hM b hb) hLe (g10 i x hx)⟩
                  · simp; omega
                  · rw [addr_add g4, g5 (by omega), g3, cell_lit w b _ _ _ _ g8]
                    rw [List.getElem?_take, List.getElem?_drop] at hy
                    split at hy
                    · rw [← hy, Array.getElem?_toList]; congr 1; omega
                    · cases hy
        | own o e =>
          cases q with
          | imm => simp [outsOk] at hok
          | back _ => simp [outsOk] at hok
          | own e' =>
            simp only [outsOk, Bool.and_eq_true] at hok
            obtain ⟨he, hok⟩ := hok
            have he := Nat.eq_of_beq_eq_true he
            subst he
            cases d <;> simp only [place] at hp <;> try (cases hp; done)
            rename_i fr t xs
            split at hp <;> try (cases hp; done)
            rename_i l u' hl
            injection hp with hp; injection hp with e1 e2; subst e1; subst e2
            cases vs with
            | nil => exact ho.elim
            | cons v vs =>
              obtain ⟨m, L', rfl, ⟨h2, h3, h4⟩, h5⟩ := ho
              obtain ⟨T1, T2, t1, t2, t3, t4, t5, t6, t7, t8⟩ := ih hok hl h5
              refine ⟨(some o, m) :: T1, T2, by simp [t1], t2, by simpa [ownC] using t3, t4, by simp [outKeys, t5], fun o' y hm => ?_, t7, fun C' hw hB hM hh hmu hn =>
                ⟨?_, t8 C' hw hB hM (fun o y hm => hh o y (.tail _ hm)) (fun o m hm => hmu o m (.tail _ hm)) (fun b base hm => hn b base (.tail _ hm))⟩⟩
              · cases hm with
                | head => exact ⟨m, .inl ⟨.head _, e, t, xs, fr, fr, h3, id, rfl, h4⟩⟩
                | tail _ hm =>
                  obtain ⟨m', h⟩ := t6 o' y hm
                  exact ⟨m', h.imp (fun h => ⟨.tail _ h.1, h.2⟩) id⟩
              · have hho := hh o _ (.head _)
                have hmo := hmu o m (.head _)
                refine ⟨?_, ?_, fun hm fr' ec t' xs' hx => ?_⟩
                · rcases h2 with ⟨_, _, rfl⟩ | ⟨_, _, a, cap, _, _, _, rfl, _⟩
                  · exact ⟨_, _, _, rfl⟩
                  · exact ⟨_, _, _, rfl⟩
                · rw [hho]; exact Nat.le_refl _
                · rw [hho] at hx
                  injection hx with _ _ _ _ hx1 hx2
                  subst hx1
                  have hx2 := eq_of_heq hx2
                  subst hx2
                  refine ⟨trivial, ?_⟩
                  rw [hmo, hw]
                  exact h2
        | back o =>
          cases q with
          | imm => simp [outsOk] at hok
          | own _ => simp [outsOk] at hok
          | back oc =>
            simp only [outsOk, Bool.and_eq_true] at hok
            obtain ⟨hpo, hok⟩ := hok
            cases d <;> simp only [place] at hp <;> try (cases hp; done)
            rename_i fr t xs
            split at hp <;> try (cases hp; done)
            rename_i st hm fr0 e t0 xs0 hlook
            split at hp <;> try (cases hp; done)
            rename_i l u' hl
            injection hp with hp; injection hp with e1 e2; subst e1; subst e2
            obtain ⟨⟨e', hsh, hra⟩, h5⟩ := ho
            have hsh0 := hpair o oc st hm fr0 e t0 xs0 hpo hlook
            rw [hsh] at hsh0
            injection hsh0 with hsh0; injection hsh0 with e1 e2; injection e2 with e2 e3
            subst e1; subst e2
            obtain ⟨T1, T2, t1, t2, t3, t4, t5, t6, t7, t8⟩ := ih hok hl h5
            refine ⟨T1, (some o, home oc) :: T2, t1, by simp [backObjs, t2], t3, by simpa [backC] using t4, by simp [outKeys, t5], fun o' y hm => ?_, fun p hp => ?_, fun C' hw hB hM hh hmu hn =>
                t8 C' hw hB hM (fun o y hm => hh o y (.tail _ hm)) hmu hn⟩
            · cases hm with
              | head => exact ⟨home oc, .inr ⟨.head _, e', t, xs, _, fr, hra, (by intro h; simp at h; exact h.1), st, hm, fr0, xs0, hlook, e3.symm, rfl, (by intro h; simp at h; exact h.2)⟩⟩
              | tail _ hm =>
                obtain ⟨m', h⟩ := t6 o' y hm
                exact ⟨m', h.imp id (fun h => ⟨.tail _ h.1, h.2⟩)⟩
            · cases hp with
              | head => exact ⟨o, oc, rfl, hpo, _, _, _, _, _, _, hlook⟩
              | tail _ hp => exact t7 p hp

end
end Go.Kb

/- Calls: what a caller takes back keeps its state. -/
namespace Go.Kb

def retTL : List RetC → List Nat → TL
  | .val _ _ :: r, bs => retTL r bs
  | .box o _ :: r, b :: bs => (some o, some (b, 0)) :: retTL r bs
  | _, _ => []

def parTL (home : Nat → Option (Nat × Nat)) : List XPar → List FPar → TL
  | .box o _ :: r, .box oc _ :: q => (some o, home oc) :: parTL home r q
  | _ :: r, _ :: q => parTL home r q
  | _, _ => []

theorem parTL_spec (home : Nat → Option (Nat × Nat)) : ∀ {ps : List XPar} {gs : List FPar}, parsOk ps gs = true → (parTL home ps gs).map (·.2) = (parObjs gs).map home ∧ (parTL home ps gs).filterMap (·.1) = xparObjs ps := by
  intro ps
  induction ps with
  | nil => intro gs h; cases gs <;> simp [parsOk] at h; exact ⟨rfl, rfl⟩
  | cons p ps ih =>
    intro gs h
    cases gs with
    | nil => cases p <;> simp [parsOk] at h
    | cons q gs =>
      cases p <;> cases q <;> simp only [parsOk, Bool.and_eq_true] at h <;> try (cases h; done)
      · exact ih h.2.2.2
      · obtain ⟨h1, h2⟩ := ih h.2
        exact ⟨by simp [parTL, parObjs, h1], by simp [parTL, xparObjs, h2]⟩

theorem RepG.mk {C : Cx} {g : Bool} {cs : List Cell} {v : Value} (h : RepG C g cs v) : RepV C (mkV g cs) v := by
  cases g with
  | true => exact h
  | false => obtain ⟨c, rfl, h⟩ := h; exact h

theorem retV_rep {C : Cx} {l : List (Bool × List Cell)} {vals : List Value} (h : RepGs C l vals) : RepV C (retV l) (oneOrTuple vals) := by
  match l, vals, h with
  | [], [], h => exact ⟨[], rfl, h⟩
  | [(g, cs)], [v], h => exact RepG.mk h.1
  | p :: q :: r, u :: v :: vs, h => exact ⟨u :: v :: vs, rfl, h⟩
  | [], _ :: _, h => exact h.elim
  | _ :: _, [], h => exact h.elim
  | [_], _ :: _ :: _, h => exact h.2.elim
  | _ :: _ :: _, [_], h => exact h.2.elim

section
variable {tm : Nat → TypeId} {w : World} {C' : Cx}

theorem takeRets_rep {look : Nat → Obj} : ∀ {rets : List RetC} {rs : List RetS} {vals rawA rawB : List Value} {bs : List Nat} {cs rest : List Cell} {l : List (Bool × List Cell)} {z : List (Nat × Obj)},
    retsOk rets rs = true → takeRets look rets cs = (l, z, rest) → RetR w rs vals rawA bs → C'.w = w → RepCells C' cs (rawA ++ rawB) →
    (∀ o y, (o, y) ∈ z → C'.h o = y) → (∀ o m, (some o, m) ∈ retTL rets bs → C'.μ o = m) →
    RepGs C' l vals ∧ RepCells C' rest rawB ∧ ∀ o y, (o, y) ∈ z → ∃ m, (some o, m) ∈ retTL rets bs ∧ RepObj tm C' m y ∧ ∃ cs', y = .box ((look o).stamp + 1) false cs' := by
  intro rets
  induction rets with
  | nil =>
    intro rs vals rawA rawB bs cs rest l z hok ht hr hw hc hh hm
    cases rs with
    | cons k _ => cases k <;> simp [retsOk] at hok
    | nil =>
      simp only [takeRets] at ht
      injection ht with e1 ht; injection ht with e2 e3; subst e1; subst e2; subst e3
      cases vals with
      | cons _ _ => exact hr.elim
      | nil =>
        obtain ⟨rfl, rfl⟩ := hr
        exact ⟨trivial, hc, fun o y h => by cases h⟩
  | cons k rets ih =>
    intro rs vals rawA rawB bs cs rest l z hok ht hr hw hc hh hm
    cases rs with
    | nil => cases k <;> simp [retsOk] at hok
    | cons q rs =>
      cases k with
      | val g n =>
        cases q with
        | ptr _ => simp [retsOk] at hok
        | val g' n' =>
          simp only [retsOk, Bool.and_eq_true] at hok
          obtain ⟨h1, h2, hok⟩ := hok
          have h1 : g = g' := by simpa using h1
          have h2 := Nat.eq_of_beq_eq_true h2
          subst h1; subst h2
          simp only [takeRets] at ht
          obtain ⟨l', z', rest', hl⟩ : ∃ l' z' rest', takeRets look rets (cs.drop n) = (l', z', rest') := ⟨_, _, _, rfl⟩
          rw [hl] at ht
          injection ht with e1 ht; injection ht with e2 e3; subst e1; subst e2; subst e3
          cases vals with
          | nil => cases g <;> exact hr.elim
          | cons v vals =>
            cases g with
            | true =>
              obtain ⟨us, rest0, rfl, rfl, rfl, hr⟩ := hr
              have hd := RepCells.drop us.length hc
              rw [List.append_assoc, List.drop_left' rfl] at hd
              have htk := RepCells.take us.length hc
              rw [List.append_assoc, List.take_left' rfl] at htk
              obtain ⟨h3, h4, h5⟩ := ih hok hl hr hw hd hh hm
              exact ⟨⟨⟨us, rfl, htk⟩, h3⟩, h4, h5⟩
            | false =>
              obtain ⟨rest0, rfl, rfl, hr⟩ := hr
              cases cs with
              | nil => exact hc.elim
              | cons c cs =>
                obtain ⟨h3, h4, h5⟩ := ih hok hl hr hw hc.2 hh hm
                exact ⟨⟨⟨c, rfl, hc.1⟩, h3⟩, h4, h5⟩
      | box o n =>
        cases q with
        | val _ _ => simp [retsOk] at hok
        | ptr n' =>
          simp only [retsOk, Bool.and_eq_true] at hok
          have h2 := Nat.eq_of_beq_eq_true hok.1
          subst h2
          simp only [takeRets] at ht
          obtain ⟨l', z', rest', hl⟩ : ∃ l' z' rest', takeRets look rets (cs.drop n) = (l', z', rest') := ⟨_, _, _, rfl⟩
          rw [hl] at ht
          injection ht with e1 ht; injection ht with e2 e3; subst e1; subst e2; subst e3
          cases vals with
          | nil => exact hr.elim
          | cons v vals =>
            obtain ⟨b, us, T, rest0, bs', rfl, hheap, rfl, rfl, rfl, hr⟩ := hr
            have hd := RepCells.drop us.length hc
            rw [List.append_assoc, List.drop_left' rfl] at hd
            have htk := RepCells.take us.length hc
            rw [List.append_assoc, List.take_left' rfl] at htk
            obtain ⟨h3, h4, h5⟩ := ih hok.2 hl hr hw hd (fun o y h => hh o y (.tail _ h)) (fun o m h => hm o m (.tail _ h))
            have hho := hh o _ (.head _)
            have hmo := hm o _ (.head _)
            refine ⟨⟨⟨_, rfl, ⟨_, rfl⟩, by rw [hho]; exact Nat.le_refl _, fun hm cs hx => ⟨b, hmo, rfl⟩⟩, h3⟩, h4, fun o' y hy => ?_⟩
            cases hy with
            | head => exact ⟨_, .head _, ⟨b, us.toArray, T, rfl, by rw [hw]; exact hheap, by simpa using htk⟩, _, rfl⟩
            | tail _ hy =>
              obtain ⟨m, g1, g2⟩ := h5 o' y hy
              exact ⟨m, .tail _ g1, g2⟩

theorem retTL_spec : ∀ {rets : List RetC} {rs : List RetS} {vals rawA : List Value} {bs : List Nat}, retsOk rets rs = true → RetR w rs vals rawA bs →
    (retTL rets bs).map (·.2) = bs.map (fun b => some (b, 0)) ∧ (retTL rets bs).filterMap (·.1) = boxC rets := by
  intro rets
  induction rets with
  | nil =>
    intro rs vals rawA bs hok hr
    cases rs with
    | cons k _ => cases k <;> simp [retsOk] at hok
    | nil =>
      cases vals with
      | cons _ _ => exact hr.elim
      | nil => obtain ⟨rfl, rfl⟩ := hr; exact ⟨rfl, rfl⟩
  | cons k rets ih =>
    intro rs vals rawA bs hok hr
    cases rs with
    | nil => cases k <;> simp [retsOk] at hok
    | cons q rs =>
      cases k with
      | val g n =>
        cases q with
        | ptr _ => simp [retsOk] at hok
        | val g' n' =>
          simp only [retsOk, Bool.and_eq_true] at hok
          have h1 : g = g' := by simpa using hok.1
          subst h1
          cases vals with
          | nil => cases g <;> exact hr.elim
          | cons v vals =>
            cases g with
            | true => obtain ⟨_, _, _, _, _, hr⟩ := hr; exact ih hok.2.2 hr
            | false => obtain ⟨_, _, _, hr⟩ := hr; exact ih hok.2.2 hr
      | box o n =>
        cases q with
        | val _ _ => simp [retsOk] at hok
        | ptr n' =>
          simp only [retsOk, Bool.and_eq_true] at hok
          cases vals with
          | nil => exact hr.elim
          | cons v vals =>
            obtain ⟨b, us, T, rest0, bs', _, _, _, _, rfl, hr⟩ := hr
            obtain ⟨h1, h2⟩ := ih hok.2 hr
            exact ⟨by simp [retTL, h1], by simp [retTL, boxC, h2]⟩

theorem takeRets_keys {look : Nat → Obj} : ∀ {rets : List RetC} {cs rest : List Cell} {l : List (Bool × List Cell)} {z : List (Nat × Obj)}, takeRets look rets cs = (l, z, rest) → z.map (·.1) = boxC rets := by
  intro rets
  induction rets with
  | nil => intro cs rest l z h; simp only [takeRets] at h; injection h with _ h; injection h with h _; subst h; rfl
  | cons k rets ih =>
    intro cs rest l z h
    cases k with
    | val g n =>
      simp only [takeRets] at h
      obtain ⟨l', z', rest', hl⟩ : ∃ l' z' rest', takeRets look rets (cs.drop n) = (l', z', rest') := ⟨_, _, _, rfl⟩
      rw [hl] at h
      injection h with _ h; injection h with h _; subst h
      exact ih hl
    | box o n =>
      simp only [takeRets] at h
      obtain ⟨l', z', rest', hl⟩ : ∃ l' z' rest', takeRets look rets (cs.drop n) = (l', z', rest') := ⟨_, _, _, rfl⟩
      rw [hl] at h
      injection h with _ h; injection h with h _; subst h
      simp [boxC, ih hl]

theorem boxUps_rep {look : Nat → Obj} {home : Nat → Option (Nat × Nat)} : ∀ {ps : List XPar} {gs : List FPar} {rest : List Cell} {raw : List Value} {u : List (Nat × Obj)},
    parsOk ps gs = true → boxUps look ps rest = some u → BoxR w home gs raw → C'.w = w → RepCells C' rest raw →
    u.map (·.1) = xparObjs ps ∧ ∀ o y, (o, y) ∈ u → ∃ m, (some o, m) ∈ parTL home ps gs ∧ RepObj tm C' m y ∧ ∃ st hm cs cs', look o = .box st hm cs ∧ y = .box st hm cs' := by
  intro ps
  induction ps with
  | nil =>
    intro gs rest raw u hok hb hr hw hc
    cases rest with
    | cons _ _ => simp [boxUps] at hb
    | nil => simp only [boxUps] at hb; injection hb with hb; subst hb; exact ⟨rfl, fun o y h => by cases h⟩
  | cons p ps ih =>
    intro gs rest raw u hok hb hr hw hc
    cases gs with
    | nil => cases p <;> simp [parsOk] at hok
    | cons q gs =>
      cases p with
      | val g n =>
        cases q with
        | box _ _ => simp [parsOk] at hok
        | val g' n' =>
          simp only [parsOk, Bool.and_eq_true] at hok
          simp only [boxUps] at hb
          exact ih hok.2.2.2 hb hr hw hc
      | box o n =>
        cases q with
        | val _ _ => simp [parsOk] at hok
        | box oc n' =>
          simp only [parsOk, Bool.and_eq_true] at hok
          have h2 := Nat.eq_of_beq_eq_true hok.1
          subst h2
          simp only [boxUps] at hb
          split at hb <;> try (cases hb; done)
          rename_i st hm cs0 hlook
          split at hb <;> try (cases hb; done)
          rename_i u' hu
          injection hb with hb; subst hb
          obtain ⟨b, us, T, rest0, hhome, hheap, rfl, rfl, hr⟩ := hr
          have hd := RepCells.drop us.length hc
          rw [List.drop_left' rfl] at hd
          have htk := RepCells.take us.length hc
          rw [List.take_left' rfl] at htk
          obtain ⟨h1, h2⟩ := ih hok.2 hu hr hw hd
          refine ⟨by simp [xparObjs, h1], fun o' y hy => ?_⟩
          cases hy with
          | head => exact ⟨home oc, .head _, ⟨b, us.toArray, T, hhome, by rw [hw]; exact hheap, by simpa using htk⟩, st, hm, cs0, _, hlook, rfl⟩
          | tail _ hy =>
            obtain ⟨m, g1, g2⟩ := h2 o' y hy
            exact ⟨m, .tail _ g1, g2⟩

theorem gone_spec (look : Nat → Obj) : ∀ (rows : List (Option (Nat × Nat))), (gone look rows).map (·.1) = rowObjs rows ∧ ∀ o y, (o, y) ∈ gone look rows → y = .absent ((look o).stamp + 1)
  | [] => ⟨rfl, fun o y h => by cases h⟩
  | none :: r => gone_spec look r
  | some (o, e) :: r => by
    obtain ⟨h1, h2⟩ := gone_spec look r
    refine ⟨by simp [gone, rowObjs, h1], fun o' y h => ?_⟩
    cases h with
    | head => rfl
    | tail _ h => exact h2 o' y h

theorem ups_append : ∀ (a b : List (Nat × Obj)) (s : S), s.ups (a ++ b) = (s.ups a).ups b
  | [], _, _ => rfl
  | (o, x) :: r, b, s => by simp only [List.cons_append, S.ups]; exact ups_append r b _

theorem outKeys_mem : ∀ {outs : List OutC} {o : Nat}, o ∈ outKeys outs ↔ o ∈ ownC outs ∨ o ∈ backC outs
  | [], o => by simp [outKeys, ownC, backC]
  | .imm :: r, o => outKeys_mem (outs := r)
  | .own a e :: r, o => by simp [outKeys, ownC, backC, outKeys_mem (outs := r), or_assoc]
  | .back a :: r, o => by
    simp only [outKeys, ownC, backC, List.mem_cons, outKeys_mem (outs := r)]
    constructor
    · rintro (h | h | h)
      · exact .inr (.inl h)
      · exact .inl h
      · exact .inr (.inr h)
    · rintro (h | h | h)
      · exact .inr (.inl h)
      · exact .inl h
      · exact .inr (.inr h)

theorem own_not_back : ∀ {outs : List OutC} {o : Nat}, (outKeys outs).Nodup → o ∈ ownC outs → o ∉ backC outs
  | [], o, _, h => by cases h
  | .imm :: r, o, hn, h => own_not_back (outs := r) hn h
  | .own a e :: r, o, hn, h => by
    obtain ⟨h1, h2⟩ := List.nodup_cons.1 hn
    intro hb
    cases h with
    | head => exact h1 (outKeys_mem.2 (.inr hb))
    | tail _ h => exact own_not_back (outs := r) h2 h hb
  | .back a :: r, o, hn, h => by
    obtain ⟨h1, h2⟩ := List.nodup_cons.1 hn
    intro hb
    cases hb with
    | head => exact h1 (outKeys_mem.2 (.inl h))
    | tail _ hb => exact own_not_back (outs := r) h2 h hb

theorem ownC_nodup : ∀ {outs : List OutC}, (outKeys outs).Nodup → (ownC outs).Nodup
  | [], _ => List.nodup_nil
  | .imm :: r, hn => ownC_nodup (outs := r) hn
  | .own a e :: r, hn => by
    obtain ⟨h1, h2⟩ := List.nodup_cons.1 hn
    exact List.nodup_cons.2 ⟨fun h => h1 (outKeys_mem.2 (.inl h)), ownC_nodup h2⟩
  | .back a :: r, hn => ownC_nodup (outs := r) (List.nodup_cons.1 hn).2

theorem pairOk_mem : ∀ {rows gr : List (Option (Nat × Nat))} {o oc : Nat}, pairOk rows gr o oc = true → o ∈ rowObjs rows ∧ oc ∈ rowObjs gr := by
  intro rows
  induction rows with
  | nil => intro gr o oc h; cases gr <;> simp [pairOk] at h
  | cons k rows ih =>
    intro gr o oc h
    cases gr with
    | nil => cases k with
      | none => simp [pairOk] at h
      | some p => obtain ⟨a, b⟩ := p; simp [pairOk] at h
    | cons q gr =>
      cases k with
      | none =>
        cases q with
        | some p => obtain ⟨a, b⟩ := p; simp [pairOk] at h
        | none => simp only [pairOk] at h; exact ih (gr := gr) h
      | some p =>
        obtain ⟨a, b⟩ := p
        cases q with
        | none => simp [pairOk] at h
        | some p' =>
          obtain ⟨a', b'⟩ := p'
          simp only [pairOk, Bool.or_eq_true, Bool.and_eq_true] at h
          rcases h with ⟨h1, h2⟩ | h
          · have h1 := Nat.eq_of_beq_eq_true h1
            have h2 := Nat.eq_of_beq_eq_true h2
            subst h1; subst h2
            exact ⟨.head _, .head _⟩
          · obtain ⟨h1, h2⟩ := ih h
            exact ⟨.tail _ h1, .tail _ h2⟩

theorem handIn_pair {look : Nat → Obj} {μ : Nat → Option (Nat × Nat)} : ∀ {rows gr : List (Option (Nat × Nat))} {raw inp ds : List Cell} {o oc st e : Nat} {hm fr : Bool} {t : Ty} {xs : List t.den}, handIn look rows raw = some inp → rowsOk rows gr = true → Sames false inp ds →
    pairOk rows gr o oc = true → look o = .row st hm fr e t xs → (oc, o, μ o) ∈ rowAL μ rows gr raw ∧ (oc, some (e, t, xs.length)) ∈ shapeAL gr ds := by
  intro rows
  induction rows with
  | nil => intro gr raw inp ds o oc st e hm fr t xs _ _ _ h; cases gr <;> simp [pairOk] at h
  | cons k rows ih =>
    intro gr raw inp ds o oc st e hm fr t xs hh hok hs hp hl
    cases gr with
    | nil => cases k <;> simp [rowsOk] at hok
    | cons q gr =>
      cases raw with
      | nil => cases k <;> simp [handIn] at hh
      | cons c raw =>
        cases k with
        | none =>
          cases q with
          | some _ => simp [rowsOk] at hok
          | none =>
            simp only [rowsOk] at hok
            simp only [pairOk] at hp
            simp only [handIn] at hh
            split at hh <;> try (cases hh; done)
            split at hh <;> try (cases hh; done)
            rename_i r hr
            injection hh with hh; subst hh
            cases ds with
            | nil => exact hs.elim
            | cons d ds =>
              obtain ⟨h1, h2⟩ := ih hr hok hs.2 hp hl
              exact ⟨by simpa [rowAL] using h1, by simpa [shapeAL] using h2⟩
        | some p =>
          obtain ⟨a, e1⟩ := p
          cases q with
          | none => simp [rowsOk] at hok
          | some p' =>
            obtain ⟨a', e2⟩ := p'
            simp only [rowsOk, Bool.and_eq_true] at hok
            have hee := Nat.eq_of_beq_eq_true hok.1
            subst hee
            simp only [pairOk, Bool.or_eq_true, Bool.and_eq_true] at hp
            cases c with
            | nil =>
              simp only [handIn] at hh
              split at hh <;> try (cases hh; done)
              rename_i st2 hab
              split at hh <;> try (cases hh; done)
              rename_i r hr
              injection hh with hh; subst hh
              cases ds with
              | nil => exact hs.elim
              | cons d ds =>
                obtain ⟨u, hd⟩ := hs.1
                subst hd
                rcases hp with ⟨h1, h2⟩ | hp
                · have h1 := Nat.eq_of_beq_eq_true h1
                  subst h1
                  rw [hl] at hab; cases hab
                · obtain ⟨h1, h2⟩ := ih hr hok.2 hs.2 hp hl
                  exact ⟨.tail _ h1, .tail _ h2⟩
            | ref o' st' ex =>
              cases ex with
              | all =>
                simp only [handIn] at hh
                split at hh <;> try (cases hh; done)
                rename_i st2 hm2 fr2 e2 t2 xs2 hx
                split at hh <;> try (cases hh; done)
                rename_i hb
                split at hh <;> try (cases hh; done)
                rename_i r hr
                injection hh with hh; subst hh
                simp only [Bool.and_eq_true] at hb
                have b3 := Nat.eq_of_beq_eq_true hb.2.2
                subst b3
                cases ds with
                | nil => exact hs.elim
                | cons d ds =>
                  obtain ⟨hd, _⟩ := hs.1
                  subst hd
                  rcases hp with ⟨h1, h2⟩ | hp
                  · have h1 := Nat.eq_of_beq_eq_true h1
                    have h2 := Nat.eq_of_beq_eq_true h2
                    subst h1; subst h2
                    rw [hl] at hx
                    injection hx with _ _ _ x1 x2 x3
                    subst x1; subst x2
                    have x3 := eq_of_heq x3
                    subst x3
                    exact ⟨.head _, .head _⟩
                  · obtain ⟨h1, h2⟩ := ih hr hok.2 hs.2 hp hl
                    exact ⟨.tail _ h1, .tail _ h2⟩
              | tail _ => simp [handIn] at hh
              | part _ _ => simp [handIn] at hh
            | int _ _ => simp [handIn] at hh
            | bool _ => simp [handIn] at hh
            | str _ => simp [handIn] at hh
            | sl _ _ _ => simp [handIn] at hh
            | ptr _ _ _ => simp [handIn] at hh
            | dptr _ _ _ _ => simp [handIn] at hh
            | eptr _ _ _ _ => simp [handIn] at hh
            | junk => simp [handIn] at hh

theorem shapeAL_unfl : ∀ (gr : List (Option (Nat × Nat))) (cs : List Cell), shapeAL gr (cs.map unfl) = shapeAL gr cs := by
  intro gr
  induction gr with
  | nil => intro cs; cases cs <;> rfl
  | cons q gr ih =>
    intro cs
    cases cs with
    | nil => cases q <;> rfl
    | cons c cs =>
      cases q with
      | none => simp only [List.map_cons, shapeAL]; exact ih cs
      | some p =>
        obtain ⟨a, e⟩ := p
        cases c <;> simp only [List.map_cons, unfl, shapeAL] <;> rw [ih cs]

theorem handIn_fresh {look : Nat → Obj} {μ : Nat → Option (Nat × Nat)} : ∀ {rows gr : List (Option (Nat × Nat))} {raw inp ds : List Cell}, handIn look rows raw = some inp → rowsOk rows gr = true → Sames true inp ds →
    ∀ p ∈ rowAL μ rows gr raw, ∀ b base, p.2.2 = some (b, base) → μ p.2.1 = some (b, base) ∧ ∃ st e t xs, look p.2.1 = .row st false true e t xs := by
  intro rows
  induction rows with
  | nil => intro gr raw inp ds _ _ _ p hp; cases gr <;> simp [rowAL] at hp
  | cons k rows ih =>
    intro gr raw inp ds hh hok hs p hp b base hpb
    cases gr with
    | nil => cases k <;> simp [rowsOk] at hok
    | cons q gr =>
      cases raw with
      | nil => cases k <;> simp [handIn] at hh
      | cons c raw =>
        cases k with
        | none =>
          cases q with
          | some _ => simp [rowsOk] at hok
          | none =>
            simp only [rowsOk] at hok
            simp only [handIn] at hh
            split at hh <;> try (cases hh; done)
            split at hh <;> try (cases hh; done)
            rename_i r hr
            injection hh with hh; subst hh
            cases ds with
            | nil => exact hs.elim
            | cons d ds =>
              simp only [rowAL] at hp
              exact ih hr hok hs.2 p hp b base hpb
        | some x =>
          obtain ⟨o, e1⟩ := x
          cases q with
          | none => simp [rowsOk] at hok
          | some y =>
            obtain ⟨oc, e2⟩ := y
            simp only [rowsOk, Bool.and_eq_true] at hok
            cases c with
            | nil =>
              simp only [handIn] at hh
              split at hh <;> try (cases hh; done)
              split at hh <;> try (cases hh; done)
              rename_i r hr
              injection hh with hh; subst hh
              cases ds with
              | nil => exact hs.elim
              | cons d ds =>
                simp only [rowAL] at hp
                rcases List.mem_cons.1 hp with rfl | hp
                · cases hpb
                · exact ih hr hok.2 hs.2 p hp b base hpb
            | ref o' st ex =>
              cases ex with
              | all =>
                simp only [handIn] at hh
                split at hh <;> try (cases hh; done)
                rename_i st' hm fr e3 t xs hx
                split at hh <;> try (cases hh; done)
                split at hh <;> try (cases hh; done)
                rename_i r hr
                injection hh with hh; subst hh
                cases ds with
                | nil => exact hs.elim
                | cons d ds =>
                  simp only [rowAL] at hp
                  rcases List.mem_cons.1 hp with rfl | hp
                  · have hf := hs.1.2 rfl
                    simp at hf
                    refine ⟨hpb, st', e3, t, xs, ?_⟩
                    rw [hx, hf.1, hf.2]
                  · exact ih hr hok.2 hs.2 p hp b base hpb
              | _ => simp [handIn] at hh
            | _ => simp [handIn] at hh

theorem lent_present {look h : Nat → Obj} (hs : Sees look h) : ∀ {rows : List (Option (Nat × Nat))} {raw inp : List Cell} {o : Nat}, handIn look rows raw = some inp → o ∈ lentRefs rows raw → present (h o) := by
  intro rows
  induction rows with
  | nil => intro raw inp o _ h; cases raw <;> simp [lentRefs] at h
  | cons k rows ih =>
    intro raw inp o hh hl
    cases raw with
    | nil => cases k <;> simp [lentRefs] at hl
    | cons c raw =>
      cases k with
      | none =>
        simp only [handIn] at hh
        split at hh <;> try (cases hh; done)
        rename_i c' hf
        split at hh <;> try (cases hh; done)
        rename_i r hr
        cases c <;> simp only [lentRefs] at hl <;> try (exact ih hr hl)
        rename_i o' st e
        cases hl with
        | head =>
          simp only [flat] at hf
          split at hf <;> try (cases hf; done)
          rename_i hx
          rw [hs.row hx trivial]; trivial
        | tail _ hl => exact ih hr hl
      | some p =>
        obtain ⟨a, e1⟩ := p
        simp only [lentRefs] at hl
        cases c with
        | nil =>
          simp only [handIn] at hh
          split at hh <;> try (cases hh; done)
          split at hh <;> try (cases hh; done)
          rename_i r hr
          exact ih hr hl
        | ref o' st' ex =>
          cases ex with
          | all =>
            simp only [handIn] at hh
            split at hh <;> try (cases hh; done)
            split at hh <;> try (cases hh; done)
            split at hh <;> try (cases hh; done)
            rename_i r hr
            exact ih hr hl
          | tail _ => simp [handIn] at hh
          | part _ _ => simp [handIn] at hh
        | int _ _ => simp [handIn] at hh
        | bool _ => simp [handIn] at hh
        | str _ => simp [handIn] at hh
        | sl _ _ _ => simp [handIn] at hh
        | ptr _ _ _ => simp [handIn] at hh
        | dptr _ _ _ _ => simp [handIn] at hh
        | eptr _ _ _ _ => simp [handIn] at hh
        | junk => simp [handIn] at hh

end
end Go.Kb

/- Calls: a call does what its function's contract says. -/
namespace Go.Kb

theorem pairwise_ne {α : Type} {R : α → α → Prop} (hs : ∀ a b, R a b → R b a) : ∀ {l : List α} {a b : α}, l.Pairwise R → a ∈ l → b ∈ l → a ≠ b → R a b
  | x :: l, a, b, hp, ha, hb, hne => by
    obtain ⟨h1, h2⟩ := List.pairwise_cons.1 hp
    cases ha with
    | head =>
      cases hb with
      | head => exact absurd rfl hne
      | tail _ hb => exact h1 b hb
    | tail _ ha =>
      cases hb with
      | head => exact hs _ _ (h1 a ha)
      | tail _ hb => exact pairwise_ne hs h2 ha hb hne

theorem alook_none {α : Type} (d : α) : ∀ {l : List (Nat × α)} {k : Nat}, k ∉ l.map (·.1) → alook d l k = d
  | [], _, _ => rfl
  | (m, y) :: r, k, h => by
    have h1 : k ≠ m := fun e => h (by simp [e])
    simp only [alook, if_neg h1]
    exact alook_none d fun hm => h (List.mem_cons_of_mem _ hm)

def tlKeys : TL → List (Nat × Option (Nat × Nat))
  | [] => []
  | (some o, m) :: r => (o, m) :: tlKeys r
  | (none, _) :: r => tlKeys r

theorem tlKeys_fst : ∀ (T : TL), (tlKeys T).map (·.1) = T.filterMap (·.1)
  | [] => rfl
  | (some o, m) :: r => by simp [tlKeys, tlKeys_fst r]
  | (none, _) :: r => by simp [tlKeys, tlKeys_fst r]

theorem tlKeys_mem : ∀ {T : TL} {o : Nat} {m : Option (Nat × Nat)}, (some o, m) ∈ T → (o, m) ∈ tlKeys T
  | (some a, b) :: r, o, m, h => by
    cases h with
    | head => exact .head _
    | tail _ h => exact .tail _ (tlKeys_mem h)
  | (none, b) :: r, o, m, h => by
    cases h with
    | tail _ h => exact tlKeys_mem (T := r) h

theorem tl_key {T : TL} {o : Nat} {m : Option (Nat × Nat)} (h : (some o, m) ∈ T) : o ∈ T.filterMap (·.1) := List.mem_filterMap.2 ⟨_, h, rfl⟩

theorem allIn_mem : ∀ {l r : List Nat} {n : Nat}, allIn l r = true → n ∈ l → memb n r = true
  | k :: l, r, n, h, hm => by
    simp only [allIn, Bool.and_eq_true] at h
    cases hm with
    | head => exact h.1
    | tail _ hm => exact allIn_mem h.2 hm

theorem isNil_eq : ∀ {l : List Nat}, isNil l = true → l = []
  | [], _ => rfl
  | _ :: _, h => by cases h

theorem apartL_mem : ∀ {l r : List Nat} {n : Nat}, apartL l r = true → n ∈ l → n ∉ r
  | k :: l, r, n, h, hm => by
    simp only [apartL, Bool.and_eq_true, Bool.not_eq_true'] at h
    cases hm with
    | head => intro hr; rw [memb_iff.2 hr] at h; cases h.1
    | tail _ hm => exact apartL_mem h.2 hm

theorem Apart.symm {m m' : Option (Nat × Nat)} (h : Apart m m') : Apart m' m := fun b base base' h1 h2 => h b base' base h2 h1

theorem parTL_mem {μ home : Nat → Option (Nat × Nat)} : ∀ {ps : List XPar} {gs : List FPar} {o : Nat} {m : Option (Nat × Nat)}, (some o, m) ∈ parTL home ps gs → ∃ oc, (oc, o, μ o) ∈ parAL μ ps gs ∧ m = home oc
  | [], _, o, m, h => by cases h
  | .val _ _ :: _, [], o, m, h => by cases h
  | .box _ _ :: _, [], o, m, h => by cases h
  | .val _ _ :: r, .val _ _ :: q, o, m, h => parTL_mem (ps := r) (gs := q) h
  | .val _ _ :: r, .box _ _ :: q, o, m, h => parTL_mem (ps := r) (gs := q) h
  | .box _ _ :: r, .val _ _ :: q, o, m, h => parTL_mem (ps := r) (gs := q) h
  | .box a _ :: r, .box ac _ :: q, o, m, h => by
    cases h with
    | head => exact ⟨ac, .head _, rfl⟩
    | tail _ h =>
      obtain ⟨oc, h1, h2⟩ := parTL_mem (ps := r) (gs := q) h
      exact ⟨oc, .tail _ h1, h2⟩

theorem boxUps_keys {look : Nat → Obj} : ∀ {ps : List XPar} {cs : List Cell} {u : List (Nat × Obj)}, boxUps look ps cs = some u → u.map (·.1) = xparObjs ps
  | [], [], u, h => by simp only [boxUps] at h; injection h with h; subst h; rfl
  | [], _ :: _, u, h => by simp [boxUps] at h
  | .val _ _ :: r, cs, u, h => by simp only [boxUps] at h; exact boxUps_keys (ps := r) h
  | .box o n :: r, cs, u, h => by
    simp only [boxUps] at h
    split at h <;> try (cases h; done)
    split at h <;> try (cases h; done)
    rename_i u' hu
    injection h with h; subst h
    simp [xparObjs, boxUps_keys hu]

theorem nodup_map_inj {α β : Type} {f : α → β} : ∀ {l : List α} {a b : α}, (l.map f).Nodup → a ∈ l → b ∈ l → f a = f b → a = b
  | x :: l, a, b, hn, ha, hb, he => by
    obtain ⟨h1, h2⟩ := List.nodup_cons.1 hn
    cases ha with
    | head =>
      cases hb with
      | head => rfl
      | tail _ hb => exact absurd (List.mem_map.2 ⟨b, hb, he.symm⟩) h1
    | tail _ ha =>
      cases hb with
      | head => exact absurd (List.mem_map.2 ⟨a, ha, he⟩) h1
      | tail _ hb => exact nodup_map_inj h2 ha hb he

/-- what is known of the functions that are called -/
def Known (E : Env1) (fs : Nat → FS) : Prop := ∀ n g fresh, E.sg n = some (g, fresh) → Sound E.P E.tm E.G E.Q (E.fm n) g (fs n) ∧ ((fs n).fresh && !(fs n).keep) = fresh

set_option maxHeartbeats 2000000 in
theorem call_does {E : Env1} {F : Fx} {fs : Nat → FS} {nobj : Nat} (hK : Known E fs) (hQs : ∀ w w' : World, (∀ b, E.G b → w'.heap[b]? = w.heap[b]?) → E.Q w → E.Q w') (hG0 : ∀ b, E.G b → b < F.w0.heap.size ∧ ¬ F.M0 b) (hQ0 : E.Q F.w0) : CallOk E F fs nobj := by
  intro o x c hkind hok s p hn hbody
  unfold opOk at hok
  simp only [Bool.and_eq_true] at hok
  obtain ⟨hdst, hwo, hok⟩ := hok
  have hdst : o.dst = x.dst := by simpa using hdst
  rw [hkind] at hok
  have hq : quietOk E.P E.eqT (.call c) o.op = none := by
    cases o.op <;> rfl
  rw [hq] at hok
  simp only [effOk, hkind] at hok
  unfold callOk at hok
  split at hok <;> try (cases hok; done)
  rename_i cl hop
  split at hok <;> try (cases hok; done)
  rename_i fid hcallee
  split at hok <;> try (cases hok; done)
  rename_i fn g fresh hfn hsg
  simp only [Bool.and_eq_true, Bool.not_eq_true'] at hok
  obtain ⟨hname, hbd, hfid, hfresh, hargs, hsig⟩ := hok
  have hfid : fid = E.fm c.fn := by simpa using hfid
  have hfresh : c.fresh = fresh := by simpa using hfresh
  subst hfid; subst hfresh
  unfold sigOk at hsig
  simp only [Bool.and_eq_true] at hsig
  obtain ⟨s1, s2, s3, s4, s5, s6, s7, s8, s9⟩ := hsig
  have s5 := nodup_spec s5
  have s6 := nodup_spec s6
  have s7 := nodup_spec s7
  obtain ⟨hsound, hfr⟩ := hK _ _ _ hsg
  -- what the abstract call does
  unfold XOp.bodyO XOp.res at hbody
  rw [hkind] at hbody
  simp only [XK.eval, Kb.E.call] at hbody
  obtain ⟨look, hlook⟩ : ∃ look, look = x.look s := ⟨_, rfl⟩
  rw [← hlook] at hbody
  have hsees : Sees look s.obj := by rw [hlook]; exact sees_look x s
  have hro : ∀ i, memb i x.ro = true → look i = s.obj i := fun i hi => by rw [hlook]; simp [XOp.look, hi]
  cases hcol : collect look c.pars (evalArgs s x.args) with
  | none => rw [hcol] at hbody; cases hbody
  | some raw =>
  rw [hcol] at hbody
  simp only [] at hbody
  cases hin : handIn look c.rowsIn raw with
  | none => rw [hin] at hbody; cases hbody
  | some inp =>
  rw [hin] at hbody
  cases hlent : lentOk c raw with
  | false => rw [hlent] at hbody; cases hbody
  | true =>
  rw [hlent] at hbody
  simp only [] at hbody
  obtain ⟨out, hout, hbody⟩ := bindO_some hbody
  obtain ⟨p0, hp0, hchk⟩ := bindO_some hbody
  obtain ⟨rfl, hups⟩ := chk_some hchk
  unfold FS.callO at hout
  split at hout <;> try (cases hout; done)
  rename_i ff y hof
  obtain ⟨r, hF, hout⟩ := bindO_some hout
  injection hout with hout
  obtain ⟨pre, hpre, hsames⟩ := ofCells_sames false hof (by intro h; cases h)
  rw [List.append_nil] at hpre
  subst hpre
  unfold callFin at hp0
  cases hplace : place look c.outs out with
  | none => rw [hplace] at hp0; cases hp0
  | some pu =>
  obtain ⟨cs, u⟩ := pu
  rw [hplace] at hp0
  simp only [] at hp0
  obtain ⟨l, z, rest, htake⟩ : ∃ l z rest, takeRets look c.rets cs = (l, z, rest) := ⟨_, _, _, rfl⟩
  rw [htake] at hp0
  simp only [] at hp0
  cases hbox : boxUps look c.pars rest with
  | none => rw [hbox] at hp0; cases hp0
  | some wl =>
  rw [hbox] at hp0
  simp only [] at hp0
  injection hp0 with hp0
  subst hp0
  -- the model's side
  rintro a w Q ⟨μ, hr⟩
  have hv := args_rep hr hargs
  obtain ⟨rawv, e1, e2, e3, e4, e5⟩ := collect_rep hr hsees s1 hcol hv
  -- where the function's objects lie
  obtain ⟨AL1, hAL1⟩ : ∃ z, z = parAL μ c.pars g.pars := ⟨_, rfl⟩
  obtain ⟨AL2, hAL2⟩ : ∃ z, z = rowAL μ c.rowsIn g.rowsIn raw := ⟨_, rfl⟩
  let IN : Nat → Prop := fun b => ∃ o base, (o ∈ xparObjs c.pars ∨ o ∈ rowObjs c.rowsIn) ∧ present (s.obj o) ∧ μ o = some (b, base)
  let LENT : Nat → Prop := fun b => ∃ o base, o ∈ lentRefs c.rowsIn raw ∧ μ o = some (b, base)
  let X : Nat → Prop := fun b => (s.cx μ w F).M b ∧ ¬ IN b ∧ ¬ LENT b
  let home : Nat → Option (Nat × Nat) := alook none ((AL1 ++ AL2).map fun p => (p.1, p.2.2))
  let shape : Nat → Option (Nat × Ty × Nat) := alook none (shapeAL g.rowsIn ((fs c.fn).arg.cells false y))
  have hlentA : ∀ i, i ∈ lentRefs c.rowsIn raw → i ∉ xparObjs c.pars ∧ i ∉ rowObjs c.rowsIn := by
    intro i hi
    unfold lentOk at hlent
    simp only [Bool.and_eq_true] at hlent
    have := apartL_mem hlent.2 hi
    simpa using this
  have hMin : ∀ b, IN b → (s.cx μ w F).M b := by
    rintro b ⟨o, base, _, h1, h2⟩
    exact .inr ⟨o, base, h1, h2⟩
  have hX : ∀ b, (X b ∨ IN b) → (s.cx μ w F).M b := fun b h => h.elim (·.1) (hMin b)
  have hlow : ∀ b, (s.cx μ w F).M b → b < w.heap.size := by
    rintro b (hb | ⟨o, base, h1, h2⟩)
    · exact Nat.lt_of_lt_of_le (F.hX b hb).1 hr.frame.size
    · exact hr.lt o b base h1 h2
  obtain ⟨f1, f2, f3, f4, _⟩ := handIn_rep (B := w.heap.size) hr hsees (M' := fun _ => False) (fun b h => h.elim) (kp := false) (fun h => by cases h) hin s2 e1 hsames (fun o _ b base _ h => h) (fun h => by cases h)
  have hk1 : ((AL1 ++ AL2).map fun p => (p.1, p.2.2)).map (·.1) = parObjs g.pars ++ rowObjs g.rowsIn := by
    rw [List.map_map, List.map_append]
    show AL1.map (fun p => p.1) ++ AL2.map (fun p => p.1) = _
    rw [hAL1, hAL2, e3, f2]
  have hk2 : (AL1 ++ AL2).map (·.2.1) = xparObjs c.pars ++ rowObjs c.rowsIn := by
    rw [List.map_append, hAL1, hAL2, e4, f3]
  have hhome : ∀ q ∈ AL1 ++ AL2, home q.1 = q.2.2 := by
    intro q hq
    exact alook_get none (by rw [hk1]; exact s6) (List.mem_map.2 ⟨q, hq, rfl⟩)
  have hshape : ∀ q ∈ shapeAL g.rowsIn ((fs c.fn).arg.cells false y), shape q.1 = q.2 := by
    intro q hq
    exact alook_get none (by rw [f4]; exact (List.nodup_append.1 s6).2.1) hq
  have hblk : ∀ oc b base, oc ∈ g.inObjs → home oc = some (b, base) → ∃ i, (i ∈ xparObjs c.pars ∨ i ∈ rowObjs c.rowsIn) ∧ present (s.obj i) ∧ μ i = some (b, base) ∧ ∃ m, (oc, i, m) ∈ AL1 ++ AL2 := by
    intro oc b base hoc hh
    have hoc' : oc ∈ ((AL1 ++ AL2).map fun p => (p.1, p.2.2)).map (·.1) := by rw [hk1]; exact hoc
    obtain ⟨q0, hq0, hqe⟩ := List.mem_map.1 hoc'
    obtain ⟨q, hq, rfl⟩ := List.mem_map.1 hq0
    have hqe : q.1 = oc := hqe
    subst hqe
    rw [hhome q hq] at hh
    rcases List.mem_append.1 hq with h1 | h1
    · rw [hAL1] at h1
      obtain ⟨h2, h3⟩ := e2 q h1
      refine ⟨q.2.1, .inl ?_, h2, by rw [← h3]; exact hh, q.2.2, hq⟩
      rw [← e4]; exact List.mem_map.2 ⟨q, h1, rfl⟩
    · rw [hAL2] at h1
      obtain ⟨h2, h3⟩ := f1 q h1 b base hh
      refine ⟨q.2.1, .inr ?_, h2, h3, q.2.2, hq⟩
      rw [← f3]; exact List.mem_map.2 ⟨q, h1, rfl⟩
  have hinB : ∀ b, g.inBlocks home b → IN b := by
    rintro b ⟨oc, base, h1, h2⟩
    obtain ⟨i, h3, h4, h5, _⟩ := hblk oc b base h1 h2
    exact ⟨i, base, h3, h4, h5⟩
  have hnl : ∀ o, o ∈ lentRefs c.rowsIn raw → ∀ b base, μ o = some (b, base) → ¬ (X b ∨ g.inBlocks home b) := by
    intro o ho b base hmu hb
    rcases hb with hb | hb
    · exact hb.2.2 ⟨o, base, ho, hmu⟩
    · obtain ⟨o', base', hm, hp', hmu'⟩ := hinB b hb
      have := hr.inj o o' b base base' (lent_present hsees hin ho) hp' hmu hmu'
      subst this
      exact hm.elim (hlentA o ho).1 (hlentA o ho).2
  have hFw : F.B ≤ w.heap.size := Nat.le_trans F.hB hr.frame.size
  have hMX : ∀ b, (X b ∨ g.inBlocks home b) → (s.cx μ w F).M b := fun b h => h.elim (·.1) fun h => hMin b (hinB b h)
  have hHh : ∀ p ∈ rowAL μ c.rowsIn g.rowsIn raw, home p.1 = p.2.2 := fun q hq => hhome q (List.mem_append.2 (.inr (hAL2 ▸ hq)))
  -- the level that the function runs at, and what it means for what comes back
  obtain ⟨B, Bx, hB0, hB1, hB2, hIn, hBx, hOutB⟩ : ∃ B Bx, B ≤ w.heap.size ∧ ((fs c.fn).keep = false → B = w.heap.size) ∧ ((fs c.fn).keep = true → ∀ o b base, o ∈ rowObjs g.rowsIn → home o = some (b, base) → B ≤ b) ∧
      InR E.tm w (fun b => X b ∨ g.inBlocks home b) B home shape g.rowsIn ((fs c.fn).arg.cells (fs c.fn).keep y) rawv ∧ (F.B ≤ Bx ∧ Bx ≤ w.heap.size ∧ (c.fresh = true → Bx = w.heap.size)) ∧
      ∀ (w' : World) (M : Nat → Prop) (vs : List Value) (L : List (Option (Nat × Nat))), OutR E.tm w' M B home shape g.outs ((fs c.fn).ret.cells ((fs c.fn).fresh || (fs c.fn).keep) r) vs L → OutR E.tm w' M Bx home shape g.outs ((fs c.fn).ret.cells (((fs c.fn).fresh && !(fs c.fn).keep) || ((fs c.fn).keep && ff)) r) vs L := by
    cases hkp : (fs c.fn).keep with
    | false =>
      obtain ⟨_, _, _, _, f5⟩ := handIn_rep (B := w.heap.size) hr hsees (M' := fun b => X b ∨ g.inBlocks home b) hMX (kp := false) (fun h => by cases h) hin s2 e1 hsames hnl (fun h => by cases h)
      exact ⟨w.heap.size, w.heap.size, Nat.le_refl _, fun _ => rfl, fun h => (by cases h), f5 home shape hHh hshape, ⟨hFw, Nat.le_refl _, fun _ => rfl⟩, fun w' M vs L h => by simpa using h⟩
    | true =>
      have hcf : c.fresh = false := by rw [← hfr, hkp]; simp
      have hnolent : lentRefs c.rowsIn raw = [] := by
        unfold lentOk at hlent
        rw [hcf] at hlent
        simp only [Bool.false_or, Bool.and_eq_true] at hlent
        exact isNil_eq hlent.1
      cases hff : ff with
      | true =>
        subst hff
        obtain ⟨pre, hpre, hsT⟩ := ofCells_sames true hof (fun _ => rfl)
        rw [List.append_nil] at hpre
        subst hpre
        obtain ⟨_, _, _, _, f5⟩ := handIn_rep (B := F.B) hr hsees (M' := fun b => X b ∨ g.inBlocks home b) hMX (kp := true) (fun _ => Nat.le_refl _) hin s2 e1 hsT hnl (fun _ => hnolent)
        refine ⟨F.B, F.B, hFw, fun h => (by cases h), fun _ o b base ho hh => ?_, f5 home shape hHh (by rw [← shapeAL_unfl, cells_unfl]; exact hshape), ⟨Nat.le_refl _, hFw, fun h => by rw [hcf] at h; cases h⟩, fun w' M vs L h => by simpa using h⟩
        rw [← f2] at ho
        obtain ⟨q, hq, rfl⟩ := List.mem_map.1 ho
        rw [hHh q hq] at hh
        obtain ⟨h1, st, e, t, xs, h2⟩ := handIn_fresh (μ := μ) hin s2 hsT q hq b base hh
        have hob := hsees.row h2 trivial
        rcases hr.own q.2.1 b base (by rw [hob]; trivial) h1 with h3 | ⟨_, h3 | h3⟩
        · exact Nat.le_trans F.hB h3
        · rw [hob] at h3; cases h3 rfl
        · exact h3
      | false =>
        obtain ⟨_, _, _, _, f5⟩ := handIn_rep (B := w.heap.size) hr hsees (M' := fun b => X b ∨ g.inBlocks home b) hMX (kp := false) (fun h => by cases h) hin s2 e1 hsames hnl (fun h => by cases h)
        refine ⟨0, F.B, Nat.zero_le _, fun h => (by cases h), fun _ _ _ _ _ _ => Nat.zero_le _, InR.up (B := w.heap.size) (by rw [cells_unfl]; exact f5 home shape hHh hshape), ⟨Nat.le_refl _, hFw, fun h => by rw [hcf] at h; cases h⟩, fun w' M vs L h => ?_⟩
        have := OutR.down (B := F.B) h
        rw [cells_unfl] at this
        simpa using this
  have hGnot : ∀ b, E.G b → ¬ IN b := by
    rintro b hb ⟨i, base, _, hp, hm⟩
    have h1 := hG0 b hb
    rcases hr.own i b base hp hm with h2 | h2
    · omega
    · exact h1.2 h2.1
  have hGw : ∀ b, E.G b → b < w.heap.size ∧ ¬ g.inBlocks home b := fun b hb => ⟨Nat.lt_of_lt_of_le (hG0 b hb).1 hr.frame.size, fun hi => hGnot b hb (hinB b hi)⟩
  have hQw : E.Q w := hQs F.w0 w (fun b hb => hr.frame.block b (hG0 b hb).1 (hG0 b hb).2) hQ0
  have hcalls := hsound w B X home shape (cl.args.toList.map a.eval) rawv y r hGw hQw hB0 hB1 hB2
    (fun b hb => ⟨hlow b hb.1, fun h => hb.2.1 (hinB b h)⟩)
    (by
      intro o o' b base base' ho ho' h1 h2
      obtain ⟨i, _, i2, i3, m, i4⟩ := hblk o b base ho h1
      obtain ⟨j, _, j2, j3, m', j4⟩ := hblk o' b base' ho' h2
      have := hr.inj i j b base base' i2 j2 i3 j3
      subst this
      have := nodup_map_inj (f := fun q : Nat × Nat × Option (Nat × Nat) => q.2.1) (by rw [hk2]; exact s5) i4 j4 rfl
      injection this)
    (by
      intro o b base ho h1
      obtain ⟨i, _, i2, i3, _⟩ := hblk o b base ho h1
      exact hr.lt i b base i2 i3)
    (e5 home fun q hq => hhome q (List.mem_append.2 (.inl (hAL1 ▸ hq))))
    hIn hF
  have hrun : (execOp a.eval o).run E.P w = .ok (.enter (E.fm c.fn) (cl.args.toList.map a.eval).toArray) w := by
    obtain ⟨bd, hbd⟩ := Option.isSome_iff_exists.1 hbd
    have hae : a.eval (.func (E.fm c.fn)) = .func (.func (E.fm c.fn)) #[] #[] := rfl
    have hnm : ¬ fn.name = "runtime.NumGoroutine" := by simpa using hname
    simp [execOp, hop, resolve, hcallee, Deferred.ofValue, hae, invoke, callFunc, hfn, hnm, hbd]
    apply Array.ext'
    simp
  show o.upon _ _ _ _ _
  rw [hrun, Oper.upon_enter]
  refine hcalls.mono ?_
  rintro e w' ⟨v, rfl, hstep, vals, rawA, rawB, bs, ms, rfl, hret, hboxr, houtr, hapart, hwhere⟩
  subst hout
  -- what comes back
  obtain ⟨M2, hM2, hout2⟩ : ∃ M2 : Nat → Prop, (∀ b, ((X b ∨ ∃ base, some (b, base) ∈ g.outMs home bs ms) ∨ (c.fresh = true ∧ b < w.heap.size)) → M2 b) ∧
      OutR E.tm w' M2 Bx home shape g.outs ((fs c.fn).ret.cells (((fs c.fn).fresh && !(fs c.fn).keep) || ((fs c.fn).keep && ff)) r) (rawA ++ rawB) ms := by
    have houtr := hOutB _ _ _ _ houtr
    cases hcf : c.fresh with
    | false => exact ⟨_, fun b hb => hb.elim id (fun h => by cases h.1), houtr⟩
    | true =>
      have hbx := hBx.2.2 hcf
      refine ⟨_, fun b hb => hb.elim .inl (fun h => .inr (by rw [hbx]; exact h.2)), OutR.above ?_ houtr⟩
      intro gg uu xs hm
      have := cells_flag hm
      rw [this, hfr, hcf]; rfl
  have hpairS : ∀ o oc st hm fr e t xs, pairOk c.rowsIn g.rowsIn o oc = true → look o = .row st hm fr e t xs → shape oc = some (e, t, xs.length) := by
    intro o oc st hm fr e t xs h1 h2
    exact hshape _ (handIn_pair (μ := μ) hin s2 hsames h1 h2).2
  have hpairH : ∀ o oc st hm fr e t xs, pairOk c.rowsIn g.rowsIn o oc = true → look o = .row st hm fr e t xs → home oc = μ o := by
    intro o oc st hm fr e t xs h1 h2
    exact hhome _ (List.mem_append.2 (.inr (hAL2 ▸ (handIn_pair (μ := μ) hin s2 hsames h1 h2).1)))
  obtain ⟨T1, T2, t1, t2, t3, t4, t5, t6, t7, t8⟩ := place_rep hpairS s4 hplace hout2
  obtain ⟨T0, hT0⟩ : ∃ T, T = retTL c.rets bs := ⟨_, rfl⟩
  obtain ⟨T3, hT3⟩ : ∃ T, T = parTL home c.pars g.pars := ⟨_, rfl⟩
  obtain ⟨r1, r2⟩ := retTL_spec s3 hret
  obtain ⟨q1, q2⟩ := parTL_spec home s1
  rw [← hT0] at r1 r2
  rw [← hT3] at q1 q2
  have hTL : (T0 ++ (T1 ++ (T3 ++ T2))).map (·.2) = g.outMs home bs ms := by
    simp only [List.map_append, r1, t1, q1, t2, Sig.outMs]
  obtain ⟨TT, hTT⟩ : ∃ T, T = T0 ++ (T1 ++ (T3 ++ T2)) := ⟨_, rfl⟩
  rw [← hTT] at hTL
  have hTA : TT.Pairwise fun p q => Apart p.2 q.2 := by
    rw [← hTL, List.pairwise_map] at hapart; exact hapart
  have hTmem : ∀ q, q ∈ TT ↔ q ∈ T0 ∨ q ∈ T1 ∨ q ∈ T3 ∨ q ∈ T2 := by intro q; rw [hTT]; simp
  have hTout : ∀ q b base, q ∈ TT → q.2 = some (b, base) → some (b, base) ∈ g.outMs home bs ms := by
    intro q b base hq he; rw [← hTL, ← he]; exact List.mem_map.2 ⟨q, hq, rfl⟩
  have hTap : ∀ q q' b base base', q ∈ TT → q' ∈ TT → q ≠ q' → q.2 = some (b, base) → q'.2 = some (b, base') → False := by
    intro q q' b base base' hq hq' hne h1 h2
    exact pairwise_ne (fun _ _ h => Apart.symm h) hTA hq hq' hne b base base' h1 h2
  -- keys
  obtain ⟨n1, n2, n3⟩ := List.nodup_append.1 s7
  obtain ⟨n4, n5, n6⟩ := List.nodup_append.1 n2
  have nOB : ∀ o, o ∈ ownC c.outs → o ∉ boxC c.rets := fun o h1 h2 => n3 o (outKeys_mem.2 (.inl h1)) o (List.mem_append.2 (.inl h2)) rfl
  have nOP : ∀ o, o ∈ ownC c.outs → o ∉ xparObjs c.pars := fun o h1 h2 => n3 o (outKeys_mem.2 (.inl h1)) o (List.mem_append.2 (.inr h2)) rfl
  have nKB : ∀ o, o ∈ backC c.outs → o ∉ boxC c.rets := fun o h1 h2 => n3 o (outKeys_mem.2 (.inr h1)) o (List.mem_append.2 (.inl h2)) rfl
  have nBP : ∀ o, o ∈ boxC c.rets → o ∉ xparObjs c.pars := fun o h1 h2 => n6 o h1 o h2 rfl
  let μ' : Nat → Option (Nat × Nat) := fun o => alook (μ o) (tlKeys (T0 ++ T1)) o
  have hTK : (tlKeys (T0 ++ T1)).map (·.1) = boxC c.rets ++ ownC c.outs := by rw [tlKeys_fst, List.filterMap_append, r2, t3]
  have hTKn : ((tlKeys (T0 ++ T1)).map (·.1)).Nodup := by
    rw [hTK]; exact List.nodup_append.2 ⟨n4, ownC_nodup n1, fun o h1 o' h2 he => nOB o' h2 (he ▸ h1)⟩
  have hmuOld : ∀ o, o ∉ boxC c.rets → o ∉ ownC c.outs → μ' o = μ o := by
    intro o h1 h2
    exact alook_none _ (by rw [hTK]; simp [h1, h2])
  have hmu0 : ∀ o m, (some o, m) ∈ T0 → μ' o = m := fun o m h => alook_get _ hTKn (tlKeys_mem (List.mem_append.2 (.inl h)))
  have hmu1 : ∀ o m, (some o, m) ∈ T1 → μ' o = m := fun o m h => alook_get _ hTKn (tlKeys_mem (List.mem_append.2 (.inr h)))
  have hk0 : ∀ o m, (some o, m) ∈ T0 → o ∈ boxC c.rets := fun o m h => by have := tl_key h; rwa [r2] at this
  have hkk1 : ∀ o m, (some o, m) ∈ T1 → o ∈ ownC c.outs := fun o m h => by have := tl_key h; rwa [t3] at this
  have hkk2 : ∀ o m, (some o, m) ∈ T2 → o ∈ backC c.outs := fun o m h => by have := tl_key h; rwa [t4] at this
  have hkk3 : ∀ o m, (some o, m) ∈ T3 → o ∈ xparObjs c.pars := fun o m h => by have := tl_key h; rwa [q2] at this
  have hmu3 : ∀ o m, (some o, m) ∈ T3 → μ' o = m ∧ μ' o = μ o := by
    intro o m h
    have ho := hkk3 o m h
    have h1 := hmuOld o (fun hb => nBP o hb ho) (fun hb => nOP o hb ho)
    obtain ⟨oc, h2, rfl⟩ := parTL_mem (μ := μ) (hT3 ▸ h)
    have h3 := hhome _ (List.mem_append.2 (.inl (hAL1 ▸ h2)))
    exact ⟨h1.trans h3.symm, h1⟩
  have hmu2 : ∀ o m, (some o, m) ∈ T2 → μ' o = m ∧ μ' o = μ o := by
    intro o m h
    have ho := hkk2 o m h
    have h1 := hmuOld o (nKB o ho) (fun hb => own_not_back n1 hb ho)
    obtain ⟨o', oc, h2, h3, st, hm, fr, e, t, xs, h4⟩ := t7 _ h
    injection h2 with h2 h5
    injection h2 with h2
    subst h2; subst h5
    exact ⟨h1.trans (hpairH o oc st hm fr e t xs h3 h4).symm, h1⟩
  have hmuT : ∀ o m, (some o, m) ∈ TT → μ' o = m := by
    intro o m h
    rcases (hTmem _).1 h with h | h | h | h
    · exact hmu0 o m h
    · exact hmu1 o m h
    · exact (hmu3 o m h).1
    · exact (hmu2 o m h).1
  have hzk := takeRets_keys htake
  have hwk := boxUps_keys hbox
  have hkeys : (u ++ (z ++ wl)).map (·.1) = outKeys c.outs ++ (boxC c.rets ++ xparObjs c.pars) := by simp only [List.map_append, t5, hzk, hwk]
  have hkeyT : ∀ o, o ∈ (u ++ (z ++ wl)).map (·.1) → ∃ m, (some o, m) ∈ TT := by
    intro o ho
    rw [hkeys] at ho
    have conv : ∀ (T : TL), o ∈ T.filterMap (·.1) → ∃ m, (some o, m) ∈ T := by
      intro T h
      obtain ⟨⟨a, m⟩, h1, h2⟩ := List.mem_filterMap.1 h
      have h2 : a = some o := h2
      subst h2
      exact ⟨m, h1⟩
    rcases List.mem_append.1 ho with h | h
    · rcases outKeys_mem.1 h with h | h
      · obtain ⟨m, h⟩ := conv T1 (by rw [t3]; exact h); exact ⟨m, (hTmem _).2 (.inr (.inl h))⟩
      · obtain ⟨m, h⟩ := conv T2 (by rw [t4]; exact h); exact ⟨m, (hTmem _).2 (.inr (.inr (.inr h)))⟩
    · rcases List.mem_append.1 h with h | h
      · obtain ⟨m, h⟩ := conv T0 (by rw [r2]; exact h); exact ⟨m, (hTmem _).2 (.inl h)⟩
      · obtain ⟨m, h⟩ := conv T3 (by rw [q2]; exact h); exact ⟨m, (hTmem _).2 (.inr (.inr (.inl h)))⟩
  -- the new state
  obtain ⟨s', hs'⟩ : ∃ s', s' = s.eff x (retV l, gone look c.rowsIn ++ (u ++ (z ++ wl))) := ⟨_, rfl⟩
  rw [← hs']
  obtain ⟨g1, g2⟩ := gone_spec look c.rowsIn
  have hidx : ∀ o y, (o, y) ∈ gone look c.rowsIn ++ (u ++ (z ++ wl)) → o < s.h.length := fun o y h => by rw [hn]; exact allLt_memb hwo (memb_iff.2 (upsIn_mem hups h))
  have hsobj : ∀ o, s'.obj o = (((s.put x.dst (retV l)).ups (gone look c.rowsIn)).ups (u ++ (z ++ wl))).obj o := by
    intro o; rw [hs']; simp only [S.eff]; rw [ups_append]
  have hobjN : ∀ o y, (o, y) ∈ u ++ (z ++ wl) → s'.obj o = y := by
    intro o y h
    rw [hsobj]
    exact ups_get _ _ o y (by rw [hkeys]; exact s7) h (by rw [ups_len, put_h]; exact hidx o y (List.mem_append.2 (.inr h)))
  have hobjG : ∀ o, o ∈ rowObjs c.rowsIn → o ∉ (u ++ (z ++ wl)).map (·.1) → s'.obj o = .absent ((look o).stamp + 1) := by
    intro o h1 h2
    rw [hsobj, ups_obj _ _ o fun y hy => h2 (List.mem_map.2 ⟨_, hy, rfl⟩)]
    rw [← g1] at h1
    obtain ⟨⟨o', y'⟩, h3, rfl⟩ := List.mem_map.1 h1
    rw [ups_get _ _ o' y' (by rw [g1]; exact (List.nodup_append.1 s5).2.1) h3 (by rw [put_h]; exact hidx o' y' (List.mem_append.2 (.inl h3)))]
    exact g2 o' y' h3
  have hobjO : ∀ o, o ∉ rowObjs c.rowsIn → o ∉ (u ++ (z ++ wl)).map (·.1) → s'.obj o = s.obj o := by
    intro o h1 h2
    rw [hsobj, ups_obj _ _ o fun y hy => h2 (List.mem_map.2 ⟨_, hy, rfl⟩), ups_obj _ _ o fun y hy => h1 (by rw [← g1]; exact List.mem_map.2 ⟨_, hy, rfl⟩), put_obj]
  let ch : Nat → Prop := fun o => o ∈ rowObjs c.rowsIn ∨ o ∈ (u ++ (z ++ wl)).map (·.1)
  have hchx : ∀ o, o ∈ xparObjs c.pars → ch o := fun o h => .inr (by rw [hkeys]; simp [h])
  have hold : ∀ o b base, ¬ ch o → present (s.obj o) → μ o = some (b, base) → ¬ IN b := by
    rintro o b base hc hp hm ⟨i, base', hi, hpi, hmi⟩
    have := hr.inj o i b base base' hp hpi hm hmi
    subst this
    exact hc (hi.elim (hchx o) .inl)
  have hchT : ∀ o, ch o → present (s'.obj o) → ∃ m, (some o, m) ∈ TT ∧ μ' o = m := by
    intro o hc hp
    by_cases hk : o ∈ (u ++ (z ++ wl)).map (·.1)
    · obtain ⟨m, h⟩ := hkeyT o hk
      exact ⟨m, h, hmuT o m h⟩
    · rcases hc with h | h
      · rw [hobjG o h hk] at hp; exact hp.elim
      · exact absurd h hk
  have hnch : ∀ o, ¬ ch o → s'.obj o = s.obj o ∧ μ' o = μ o := by
    intro o hc
    refine ⟨hobjO o (fun h => hc (.inl h)) (fun h => hc (.inr h)), hmuOld o (fun h => hc (.inr ?_)) (fun h => hc (.inr ?_))⟩
    · rw [hkeys]; simp [h]
    · rw [hkeys]; exact List.mem_append.2 (.inl (outKeys_mem.2 (.inl h)))
  have hXnot : ∀ b, F.X b → ¬ IN b := by
    rintro b hb ⟨i, base, _, hp, hm⟩
    have h1 := F.hX b hb
    rcases hr.own i b base hp hm with h2 | h2
    · omega
    · exact h1.2 h2.1
  obtain ⟨C', hC'⟩ : ∃ C', C' = s'.cx μ' w' F := ⟨_, rfl⟩
  have hC'M : ∀ b, C'.M b → M2 b := by
    intro b hb
    apply hM2
    have old : (s.cx μ w F).M b → ¬ IN b → (X b ∨ ∃ base, some (b, base) ∈ g.outMs home bs ms) ∨ (c.fresh = true ∧ b < w.heap.size) := by
      intro h1 h2
      cases hcf : c.fresh with
      | true => exact .inr ⟨rfl, hlow b h1⟩
      | false =>
        refine .inl (.inl ⟨h1, h2, ?_⟩)
        rintro ⟨o, base, ho, _⟩
        unfold lentOk at hlent
        rw [hcf] at hlent
        simp only [Bool.false_or, Bool.and_eq_true] at hlent
        rw [isNil_eq hlent.1] at ho
        cases ho
    subst hC'
    rcases hb with hb | ⟨o, base, hp, hm⟩
    · exact old (.inl hb) (hXnot b hb)
    · simp only [S.cx] at hp hm
      by_cases hc : ch o
      · obtain ⟨m, h1, h2⟩ := hchT o hc hp
        rw [h2] at hm
        exact .inl (.inr ⟨base, hTout _ b base h1 hm⟩)
      · obtain ⟨h1, h2⟩ := hnch o hc
        rw [h1] at hp
        rw [h2] at hm
        exact old (.inr ⟨o, base, hp, hm⟩) (hold o b base hc hp hm)
  have hnone : ∀ b base, (none, some (b, base)) ∈ T1 → b < w'.heap.size ∧ ¬ C'.M b := by
    intro b base hm
    have hmT : (none, some (b, base)) ∈ TT := (hTmem _).2 (.inr (.inl hm))
    obtain ⟨h1, h2⟩ := hwhere b base (hTout _ b base hmT rfl)
    refine ⟨h2, fun hb => ?_⟩
    subst hC'
    rcases hb with hb | ⟨o, base', hp, hmo⟩
    · rcases h1 with h1 | h1
      · have := (F.hX b hb).1; have := hr.frame.size; omega
      · exact hXnot b hb (hinB b h1)
    · simp only [S.cx] at hp hmo
      by_cases hc : ch o
      · obtain ⟨m, h3, h4⟩ := hchT o hc hp
        rw [h4] at hmo
        exact hTap _ _ b base base' hmT h3 (by intro h; injection h with h _; cases h) rfl hmo
      · obtain ⟨h3, h4⟩ := hnch o hc
        rw [h3] at hp
        rw [h4] at hmo
        rcases h1 with h1 | h1
        · have := hr.lt o b base' hp hmo; omega
        · exact hold o b base' hc hp hmo (hinB b h1)
  have hCw : C'.w = w' := by subst hC'; rfl
  have hCB : C'.B = F.B := by subst hC'; rfl
  have hCh : ∀ o, C'.h o = s'.obj o := by subst hC'; exact fun _ => rfl
  have hCm : ∀ o, C'.μ o = μ' o := by subst hC'; exact fun _ => rfl
  have hcells := t8 C' hCw (by rw [hCB]; exact hBx.1) hC'M (fun o y h => by rw [hCh]; exact hobjN o y (List.mem_append.2 (.inl h))) (fun o m h => by rw [hCm]; exact hmu1 o m h) hnone
  obtain ⟨w1, w2, w3⟩ := takeRets_rep (tm := E.tm) s3 htake hret hCw hcells (fun o y h => by rw [hCh]; exact hobjN o y (by simp [h])) (fun o m h => by rw [hCm]; exact hmu0 o m (hT0 ▸ h))
  obtain ⟨_, w4⟩ := boxUps_rep (tm := E.tm) s1 hbox hboxr hCw w2
  have roOf : ∀ o, o ∈ ownC c.outs ∨ o ∈ boxC c.rets → look o = s.obj o := fun o h => hro o (allIn_mem s9 (List.mem_append.2 h))
  have roIn : ∀ o, o ∈ rowObjs c.rowsIn → look o = s.obj o := fun o h => hro o (allIn_mem s8 (List.mem_append.2 (.inr h)))
  -- each object that changes
  have hcase : ∀ o, ch o → (s'.obj o = .absent ((s.obj o).stamp + 1)) ∨
      (∃ m, (some o, m) ∈ T1 ∧ CameRow E.tm look w' M2 Bx true o (s'.obj o) m) ∨ (∃ m, (some o, m) ∈ T2 ∧ CameRow E.tm look w' M2 Bx false o (s'.obj o) m) ∨
      (∃ m cs', (some o, m) ∈ T0 ∧ RepObj E.tm C' m (s'.obj o) ∧ s'.obj o = .box ((s.obj o).stamp + 1) false cs') ∨
      (∃ m st hm cs0 cs', (some o, m) ∈ T3 ∧ RepObj E.tm C' m (s'.obj o) ∧ s.obj o = .box st hm cs0 ∧ s'.obj o = .box st hm cs') := by
    intro o hc
    by_cases hk : o ∈ (u ++ (z ++ wl)).map (·.1)
    · obtain ⟨⟨o', y⟩, hm, rfl⟩ := List.mem_map.1 hk
      have hy := hobjN o' y hm
      show s'.obj o' = _ ∨ _
      rw [show ((o', y) : Nat × Obj).1 = o' from rfl, hy]
      rcases List.mem_append.1 hm with h | h
      · obtain ⟨m, h⟩ := t6 o' y h
        rcases h with h | h
        · exact .inr (.inl ⟨m, h⟩)
        · exact .inr (.inr (.inl ⟨m, h⟩))
      · rcases List.mem_append.1 h with h | h
        · obtain ⟨m, h1, h2, cs', h3⟩ := w3 o' y h
          rw [← hT0] at h1
          exact .inr (.inr (.inr (.inl ⟨m, cs', h1, h2, by rw [h3, roOf o' (.inr (hk0 o' m h1))]⟩)))
        · obtain ⟨m, h1, h2, st, hm, cs0, cs', h3, h4⟩ := w4 o' y h
          rw [← hT3] at h1
          exact .inr (.inr (.inr (.inr ⟨m, st, hm, cs0, cs', h1, h2, hsees.row h3 trivial, h4⟩)))
    · rcases hc with h | h
      · exact .inl (by rw [hobjG o h hk, roIn o h])
      · exact absurd h hk
  have hrowK : ∀ {own : Bool} {o : Nat} {y : Obj} {m : Option (Nat × Nat)}, CameRow E.tm look w' M2 Bx own o y m → RepObj E.tm C' m y := by
    rintro own o y m ⟨e, t, xs, fr, fr', h1, h2, h3⟩
    have hy : ∃ st hm, y = .row st hm fr e t xs := by
      cases own with
      | true => exact ⟨_, _, h3.1⟩
      | false => obtain ⟨st, hm, _, _, _, _, h4, _⟩ := h3; exact ⟨_, _, h4⟩
    obtain ⟨st, hm, rfl⟩ := hy
    rcases h1 with h1 | ⟨b, base, cur, h4, h5, h6, h7⟩
    · exact .inl h1
    · refine .inr ⟨b, base, cur, h4, by rw [hCw]; exact h5, h6, fun i z hz => ?_⟩
      rw [hCw]
      refine RepDen.keep (Stp.refl _ _) (fun b _ hb => hC'M b hb) ?_ (h7 i z hz)
      cases fr with
      | false => simp [Cx.L]
      | true => rw [h2 rfl]; simp [Cx.L, hCB]; exact hBx.1
  refine ⟨μ', hdst ▸ RepM.stepN hr (g.inBlocks home) ch (by rw [hs']; simp only [S.eff]; rw [ups_t]) hstep ?_ ?_ ?_ ?_ ?_ ?_ ?_ ?_⟩
  · intro b hb
    obtain ⟨i, base, _, h1, h2⟩ := hinB b hb
    exact ⟨i, base, h1, h2⟩
  · intro o hc
    obtain ⟨h1, h2⟩ := hnch o hc
    exact ⟨h1, h2, fun hp b base hm hb => hold o b base hc hp hm (hinB b hb)⟩
  · intro o hc
    rcases hcase o hc with h | ⟨m, h1, e, t, xs, fr, fr', _, _, h3, _⟩ | ⟨m, h1, e, t, xs, fr, fr', _, _, st, hm, fr0, xs0, h3, h4, h5, _⟩ | ⟨m, cs', h1, _, h2⟩ | ⟨m, st, hm, cs0, cs', h1, _, h2, h3⟩
    · rw [h]; exact Evo.newer (Nat.lt_succ_self _)
    · rw [h3, roOf o (.inl (hkk1 o m h1))]; exact Evo.newer (Nat.lt_succ_self _)
    · rw [h5, hsees.row h3 trivial]
      refine ⟨Nat.le_refl _, fun _ => ⟨⟨st, hm, fr0, e, xs0, rfl, h4⟩, (hmu2 o m h1).2, fun b base cur T _ hh => hstep.sz b cur T hh⟩⟩
    · rw [h2]; exact Evo.newer (Nat.lt_succ_self _)
    · rw [h2, h3]; exact ⟨Nat.le_refl _, fun _ => ⟨⟨st, hm, cs0, rfl⟩, (hmu3 o m h1).2⟩⟩
  · intro o hc hp b base hm
    obtain ⟨m, h1, h2⟩ := hchT o hc hp
    rw [h2] at hm
    obtain ⟨h3, h4⟩ := hwhere b base (hTout _ b base h1 hm)
    exact ⟨h4, h3⟩
  · intro o hc hp b base hm
    obtain ⟨m, h1, h2⟩ := hchT o hc hp
    have hm' := hm
    rw [h2] at hm
    obtain ⟨h3, h4⟩ := hwhere b base (hTout _ b base h1 hm)
    rcases h3 with h3 | h3
    · exact .inl (Nat.le_trans hr.frame.size h3)
    · obtain ⟨i, base', _, hpi, hmi⟩ := hinB b h3
      have hbl := hr.lt i b base' hpi hmi
      rcases hr.own i b base' hpi hmi with h5 | ⟨h5, _⟩
      · exact .inl h5
      · rcases hcase o hc with h | ⟨m1, k1, e, t, xs, fr, fr', _, _, k3, k4⟩ | ⟨m1, k1, e, t, xs, fr, fr', _, _, st, hm1, fr0, xs0, k3, k4, k5, k6⟩ | ⟨m1, cs', k1, _, k2⟩ | ⟨m1, st, hm1, cs0, cs', k1, _, k2, k3⟩
        · rw [h] at hp; exact hp.elim
        · refine .inr ⟨h5, ?_⟩
          rw [k3]
          have hm1 : m1 = some (b, base) := by rw [← hmu1 o m1 k1]; exact hm'
          cases fr with
          | false => exact .inl fun hfr => by cases hfr
          | true => exact .inr (Nat.le_trans hBx.1 (k4 rfl b base hm1))
        · have hpo : present (s.obj o) := by rw [hsees.row k3 trivial]; trivial
          have hmo : μ o = some (b, base) := by rw [← (hmu2 o m1 k1).2]; exact hm'
          rcases hr.own o b base hpo hmo with h6 | ⟨h6, h7⟩
          · exact .inl h6
          · refine .inr ⟨h6, ?_⟩
            rw [hsees.row k3 trivial] at h7
            rw [k5]
            exact h7.imp (fun h7 hfr => (k6 hfr).elim h7 id) id
        · exact .inr ⟨h5, .inl (by rw [k2]; trivial)⟩
        · exact .inr ⟨h5, .inl (by rw [k3]; trivial)⟩
  · intro o o' b base base' hc hc' hp hp' hm hm'
    obtain ⟨m, h1, h2⟩ := hchT o hc hp
    obtain ⟨m', h3, h4⟩ := hchT o' hc' hp'
    rw [h2] at hm; rw [h4] at hm'
    apply Classical.byContradiction
    intro hne
    exact hTap _ _ b base base' h1 h3 (by intro h; injection h with h _; injection h with h; exact hne h) hm hm'
  · intro o hc hh
    rcases hcase o hc with h | ⟨m1, k1, e, t, xs, fr, fr', _, _, k3, k4⟩ | ⟨m1, k1, e, t, xs, fr, fr', _, _, st, hm1, fr0, xs0, k3, k4, k5, k6⟩ | ⟨m1, cs', k1, _, k2⟩ | ⟨m1, st, hm1, cs0, cs', k1, _, k2, k3⟩
    · rw [h] at hh; cases hh
    · rw [k3] at hh; cases hh
    · rw [k5] at hh ⊢
      have hob := hsees.row k3 trivial
      have := hr.home o (by rw [hob]; exact hh)
      rw [hob] at this
      exact ⟨(hmu2 o m1 k1).2.trans this.1, by rw [← this.2]; simp [Obj.shape, k4]⟩
    · rw [k2] at hh; cases hh
    · rw [k3] at hh ⊢
      have := hr.home o (by rw [k2]; exact hh)
      rw [k2] at this
      exact ⟨(hmu3 o m1 k1).2.trans this.1, this.2⟩
  · intro C2 hC2 _
    rw [← hC'] at hC2
    subst hC2
    refine ⟨fun o hc => ?_, retV_rep w1⟩
    rcases hcase o hc with h | ⟨m1, k1, k2⟩ | ⟨m1, k1, k2⟩ | ⟨m1, cs', k1, k2, _⟩ | ⟨m1, st, hm1, cs0, cs', k1, k2, _, k3⟩
    · rw [h]; trivial
    · rw [hmu1 o m1 k1]; exact hrowK k2
    · rw [(hmu2 o m1 k1).1]; exact hrowK k2
    · rw [hmu0 o m1 k1]; exact k2
    · rw [(hmu3 o m1 k1).1]; exact k2

end Go.Kb

/- From a row's arguments to data, and back. -/
namespace Go.Kb
open Go.ChangeShapes Go.WideShapes Go.ChangeAt Go.RowKit Go.Deep

def fieldsOk (P : Program) (ok : TypeId → Ty → Bool) : List Field → Ty → Nat → Bool
  | [f], t, off => f.offset == off && (P.cellsOf f.type == t.sz && ok f.type t)
  | f :: fs, .pair a b, off => f.offset == off && (P.cellsOf f.type == a.sz && (ok f.type a && fieldsOk P ok fs b (off + a.sz)))
  | _, _, _ => false

/-- a type of the program's and a type of data -/
def tyOk (P : Program) : Nat → TypeId → Ty → Bool
  | 0, _, _ => false
  | n + 1, T, t => match P.underlying T with
    | some .bool => match t with
      | .bool => true
      | _ => false
    | some (.int k) => match t with
      | .int j => Nat.beq (IntKind.code k) (IntKind.code j)
      | _ => false
    | some .string => match t with
      | .str => true
      | _ => false
    | some (.slice e) => match t with
      | .list u => (P.cellsOf e == u.sz) && (Nat.blt 0 u.sz && tyOk P n e u)
      | _ => false
    | some (.struct fs) => (P.cellsOf T == t.sz) && fieldsOk P (tyOk P n) fs.toList t 0
    | _ => false

/-- numbers lie in the range of their kind -/
def Wf : (t : Ty) → t.den → Prop
  | .int k, n => (Lit.int k n).wf = true
  | .bool, _ => True
  | .str, s => s.length ≤ maxLen
  | .unit, _ => True
  | .pair a b, x => Wf a x.1 ∧ Wf b x.2
  | .list t, xs => xs.length ≤ maxLen ∧ ∀ x ∈ xs, Wf t x

theorem list_choice {α : Type} {Q : Nat → α → Prop} : ∀ (n : Nat), (∀ i, i < n → ∃ x, Q i x) → ∃ xs : List α, xs.length = n ∧ ∀ i x, xs[i]? = some x → Q i x
  | 0, _ => ⟨[], rfl, fun i x h => by simp at h⟩
  | n + 1, h => by
    obtain ⟨xs, h1, h2⟩ := list_choice n fun i hi => h i (by omega)
    obtain ⟨x, hx⟩ := h n (by omega)
    refine ⟨xs ++ [x], by simp [h1], fun i y hy => ?_⟩
    rw [List.getElem?_append] at hy
    split at hy
    · exact h2 i y hy
    · rename_i hi
      have : i = n := by
        have := (List.getElem?_eq_some_iff.1 hy).1
        simp at this; omega
      subst this
      simp [h1] at hy
      subst hy
      exact hx

section
variable {H : Type} {enc : TypeId × Value → H} {P : Program} {w : World} {base : Nat} {sp : Nat → Bool} {held : Bool}

theorem fields_den {ok : TypeId → Ty → Bool} {Q : TypeId → List Value → Prop} (hok : ∀ T t cs, ok T t = true → Q T cs → ∃ d : t.den, RepDen w (fun _ => False) 0 t d cs ∧ Wf t d) :
    ∀ {fs : List Field} {t : Ty} {off : Nat} {cs : List Value}, fieldsOk P ok fs t off = true → (∀ (i : Nat) (f : Field), fs[i]? = some f → Q f.type ((cs.drop f.offset).take (P.cellsOf f.type))) →
      ∃ d : t.den, RepDen w (fun _ => False) 0 t d ((cs.drop off).take t.sz) ∧ Wf t d := by
  intro fs
  induction fs with
  | nil => intro t off cs h; cases t <;> simp [fieldsOk] at h
  | cons f fs ih =>
    intro t off cs h hq
    have one : (f.offset == off && (P.cellsOf f.type == t.sz && ok f.type t)) = true → ∃ d : t.den, RepDen w (fun _ => False) 0 t d ((cs.drop off).take t.sz) ∧ Wf t d := by
      intro h
      simp only [Bool.and_eq_true, beq_iff_eq] at h
      obtain ⟨h1, h2, h3⟩ := h
      have := hq 0 f rfl
      rw [h1, h2] at this
      exact hok _ _ _ h3 this
    cases fs with
    | nil =>
      cases t <;> exact one h
    | cons f2 fs =>
      cases t with
      | pair a b =>
        simp only [fieldsOk, Bool.and_eq_true, beq_iff_eq] at h
        obtain ⟨h1, h2, h3, h4⟩ := h
        have hq0 := hq 0 f rfl
        rw [h1, h2] at hq0
        obtain ⟨d, hd, hw⟩ := hok _ _ _ h3 hq0
        obtain ⟨d2, hd2, hw2⟩ := ih h4 fun i g hg => hq (i + 1) g (by simpa using hg)
        refine ⟨(d, d2), ⟨_, _, ?_, hd, hd2⟩, hw, hw2⟩
        simp only [Ty.sz]
        rw [List.take_add, List.drop_drop]
      | _ => simp [fieldsOk] at h

theorem den_of_trod : ∀ (n : Nat) (T : TypeId) (t : Ty) (cs : List Value) (fuel : Nat) (x : DataW H × List MemPlace), tyOk P n T t = true → DataW.trod enc P w base sp held fuel T cs = some x →
    ∃ d : t.den, RepDen w (fun _ => False) 0 t d cs ∧ Wf t d := by
  intro n
  induction n with
  | zero => intro T t cs fuel x h; cases h
  | succ n ih =>
    intro T t cs fuel x h hx
    unfold tyOk at h
    split at h
    · rename_i hT
      split at h <;> try (cases h; done)
      obtain ⟨b, rfl, _⟩ := DataW.trod_bool hT hx
      exact ⟨b, rfl, trivial⟩
    · rename_i k hT
      split at h <;> try (cases h; done)
      rename_i j
      have := IntKind.code_inj (Nat.eq_of_beq_eq_true h)
      subst this
      obtain ⟨m, rfl, _, hw⟩ := DataW.trod_int hT hx
      exact ⟨m, rfl, hw⟩
    · rename_i hT
      split at h <;> try (cases h; done)
      obtain ⟨s, rfl, _, hw⟩ := DataW.trod_string hT hx
      exact ⟨s.data.toList, ⟨s, rfl, rfl⟩, by show s.data.toList.length ≤ maxLen; rw [Array.length_toList]; exact hw⟩
    · rename_i e hT
      split at h <;> try (cases h; done)
      rename_i u
      simp only [Bool.and_eq_true, beq_iff_eq] at h
      obtain ⟨h1, h2, h3⟩ := h
      have h2 : 0 < u.sz := by simpa using h2
      rcases open_slice hT hx with ⟨rfl, _⟩ | ⟨a, len, cap, m, k, D, Pl, rfl, _, hle, hcap, hm, _, hel⟩
      · exact ⟨([] : List u.den), nil_den _ _ _ u, ⟨Nat.zero_le _, fun x hx => by cases hx⟩⟩
      · have hlm : len ≤ m := by rw [hm]; split <;> omega
        obtain ⟨xs, hxl, hxs⟩ := list_choice (Q := fun i (d : u.den) => ∃ us : List Value, us.length = u.sz ∧ (∀ j v, us[j]? = some v → w.cell? (a.add (i * u.sz + j)) = some v) ∧ RepDen w (fun _ => False) 0 u d us ∧ Wf u d) len (by
          intro i hi
          obtain ⟨cs', hc, ht⟩ := hel i (by omega)
          obtain ⟨d, hd, hw⟩ := ih e u cs' k _ h3 ht
          rw [h1] at hc
          obtain ⟨_, hl, hget⟩ := World.cells?_some hc
          refine ⟨d, cs', hl, fun j v hv => ?_, hd, hw⟩
          have hj : j < u.sz := by rw [← hl]; exact (List.getElem?_eq_some_iff.1 hv).1
          have := hget j hj
          rw [add_add', hv] at this
          exact this)
        refine ⟨xs, ⟨some a, cap, by rw [hxl], by rw [hxl]; exact hle, ?_, fun i x hx => ?_⟩, ⟨by rw [hxl]; omega, fun x hx => ?_⟩⟩
        · cases xs with
          | nil => exact .inl rfl
          | cons x r =>
            right
            obtain ⟨us, g1, g2, _, _⟩ := hxs 0 x rfl
            have hu : us[0]? = some (us[0]'(by omega)) := List.getElem?_eq_getElem (by omega)
            have hc := g2 0 _ hu
            rw [Nat.zero_mul, Nat.add_zero, add_zero'] at hc
            exact ⟨a, rfl, Nat.zero_le _, World.block_lt_of_cell? w a hc, id⟩
        · obtain ⟨us, g1, g2, g3, _⟩ := hxs i x hx
          exact ⟨a, us, rfl, g1, g2, g3⟩
        · obtain ⟨i, hi, rfl⟩ := List.getElem_of_mem hx
          obtain ⟨_, _, _, _, g4⟩ := hxs i _ (List.getElem?_eq_getElem hi)
          exact g4
    · rename_i fs hT
      rw [Bool.and_eq_true, beq_iff_eq] at h
      obtain ⟨h1, h2⟩ := h
      obtain ⟨xs, k, _, _, hl, hxl, hf⟩ := DataW.trod_struct hT hx
      obtain ⟨d, hd, hw⟩ := fields_den (P := P) (w := w) (ok := tyOk P n) (Q := fun T cs => ∃ y, DataW.trod enc P w base sp held k T cs = some y) (cs := cs) (fun T t cs h1 h2 => by
        obtain ⟨y, hy⟩ := h2
        exact ih T t cs k y h1 hy) h2 (fun i f hfi => by
        have hi : i < fs.size := by
          have := (List.getElem?_eq_some_iff.1 hfi).1
          simpa using this
        have := hf i f (by rw [← Array.getElem?_toList]; exact hfi)
        rw [this]
        exact ⟨_, List.getElem?_eq_getElem (by omega)⟩)
      refine ⟨d, ?_, hw⟩
      rw [List.drop_zero, List.take_of_length_le (by omega)] at hd
      exact hd
    · cases h

/-- an argument and how it is handed in -/
theorem arg_shape {r : Reach} {b0 n : Nat} {T : TypeId} {t : Ty} {v : Value} (h : tyOk P n T t = true) (hval : Value.okWide P w r b0 T v) :
    (∃ fs, P.underlying T = some (.struct fs) ∧ ∃ us : List Value, v = .agg us.toArray) ∨ (aggOf P T = some false ∧ v.cells.toList = [v]) := by
  cases n with
  | zero => cases h
  | succ n =>
    unfold tyOk at h
    unfold Value.okWide at hval
    split at h
    · rename_i hT
      right
      rw [hT] at hval
      refine ⟨by unfold aggOf; rw [hT], ?_⟩
      simp only [Cell.okWide, Cell.ok, hT] at hval
      cases v <;> first | rfl | exact hval.elim
    · rename_i k hT
      right
      rw [hT] at hval
      refine ⟨by unfold aggOf; rw [hT], ?_⟩
      simp only [Cell.okWide, Cell.ok, hT] at hval
      cases v <;> first | rfl | exact hval.elim
    · rename_i hT
      right
      rw [hT] at hval
      refine ⟨by unfold aggOf; rw [hT], ?_⟩
      simp only [Cell.okWide, Cell.ok, hT] at hval
      cases v <;> first | rfl | exact hval.elim
    · rename_i e hT
      right
      rw [hT] at hval
      refine ⟨by unfold aggOf; rw [hT], ?_⟩
      simp only [Cell.okWide, Cell.ok, hT] at hval
      cases v <;> first | rfl | exact hval.elim
    · rename_i fs hT
      left
      rw [hT] at hval
      obtain ⟨cs, rfl, _⟩ := hval
      exact ⟨fs, hT, cs.toList, by simp⟩
    · cases h

/-- the parameters of a row and the type of its data -/
def rootOk (P : Program) : List TypeId → List FPar → List (Option (Nat × Nat)) → Ty → Bool
  | [], [], [], .unit => true
  | [T], [.val g n], rows, t => tyOk P 40 T t && ((match aggOf P T with | some g' => g == g' | none => false) && (Nat.beq n t.sz && (Nat.beq rows.length t.sz && rows.all (·.isNone))))
  | T :: Ts, .val g n :: ps, rows, .pair a b => tyOk P 40 T a && ((match aggOf P T with | some g' => g == g' | none => false) && (Nat.beq n a.sz && (Nat.ble a.sz rows.length && ((rows.take a.sz).all (·.isNone) && rootOk P Ts ps (rows.drop a.sz) b))))
  | _, _, _, _ => false

theorem inR_flat {tm : Nat → TypeId} {B : Nat} {home : Nat → Option (Nat × Nat)} {shape : Nat → Option (Nat × Ty × Nat)} : ∀ {rows rows2 : List (Option (Nat × Nat))} {t : Ty} {d : t.den} {vs vs2 : List Value} {cs2 : List Cell}, rows.all (·.isNone) = true → rows.length = t.sz →
    RepDen w (fun _ => False) 0 t d vs → InR tm w (fun _ => False) B home shape rows2 cs2 vs2 → InR tm w (fun _ => False) B home shape (rows ++ rows2) (t.cells false d ++ cs2) (vs ++ vs2) := by
  have one : ∀ {rows rows2 : List (Option (Nat × Nat))} {c : Cell} {v : Value} {cs2 : List Cell} {vs2 : List Value}, rows.all (·.isNone) = true → rows.length = 1 → FlatRep w (fun _ => False) B c v → InR tm w (fun _ => False) B home shape rows2 cs2 vs2 →
      InR tm w (fun _ => False) B home shape (rows ++ rows2) ([c] ++ cs2) ([v] ++ vs2) := by
    intro rows rows2 c v cs2 vs2 h1 h2 h3 h4
    match rows, h2 with
    | [none], _ => exact ⟨h3, h4⟩
    | [some _], _ => simp at h1
  intro rows rows2 t
  induction t generalizing rows rows2 with
  | int k => intro d vs vs2 cs2 h1 h2 h3 h4; subst h3; exact one h1 h2 rfl h4
  | bool => intro d vs vs2 cs2 h1 h2 h3 h4; subst h3; exact one h1 h2 rfl h4
  | str => intro d vs vs2 cs2 h1 h2 h3 h4; obtain ⟨b, rfl, hb⟩ := h3; exact one h1 h2 ⟨b, rfl, hb⟩ h4
  | unit =>
    intro d vs vs2 cs2 h1 h2 h3 h4
    subst h3
    have : rows = [] := List.eq_nil_of_length_eq_zero h2
    subst this
    exact h4
  | pair a b iha ihb =>
    intro d vs vs2 cs2 h1 h2 h3 h4
    obtain ⟨p, q, rfl, hp, hq⟩ := h3
    simp only [Ty.sz] at h2
    have e : rows = rows.take a.sz ++ rows.drop a.sz := (List.take_append_drop _ _).symm
    rw [e] at h1 ⊢
    rw [List.all_append, Bool.and_eq_true] at h1
    simp only [Ty.cells, List.append_assoc]
    exact iha h1.1 (by simp; omega) hp (ihb h1.2 (by simp; omega) hq h4)
  | list t _ =>
    intro d vs vs2 cs2 h1 h2 h3 h4
    have h3' := h3
    obtain ⟨a, cap, rfl, _⟩ := h3
    exact one h1 h2 (show RepDen w (fun _ => False) 0 (.list t) d _ from h3') h4

theorem root_in {tm : Nat → TypeId} {B : Nat} {home : Nat → Option (Nat × Nat)} {shape : Nat → Option (Nat × Ty × Nat)} {r : Reach} {b0 : Nat} : ∀ {Ts : List TypeId} {ps : List FPar} {rows : List (Option (Nat × Nat))} {t : Ty} {vs : List Value} {ds : List (DataW H)} {places : List MemPlace},
    rootOk P Ts ps rows t = true → (∀ (j : Nat) (T : TypeId) (v : Value), Ts[j]? = some T → vs[j]? = some v → Value.okWide P w r b0 T v) → DataW.TrodAll enc P w base sp held Ts vs ds places →
    ∃ (d : t.den) (raw : List Value), Wf t d ∧ ParsR w home ps vs raw ∧ InR tm w (fun _ => False) B home shape rows (t.cells false d) raw := by
  have one : ∀ {T : TypeId} {g : Bool} {n : Nat} {t : Ty} {v : Value} {d0 : DataW H} {p : List MemPlace}, tyOk P 40 T t = true → (match aggOf P T with | some g' => g == g' | none => false) = true → Nat.beq n t.sz = true → Value.okWide P w r b0 T v → DataW.Trod enc P w base sp held T v d0 p →
      ∃ (d : t.den) (us : List Value), Wf t d ∧ RepDen w (fun _ => False) 0 t d us ∧ us.length = n ∧ match g with | true => v = .agg us.toArray | false => n = 1 ∧ us = [v] := by
    intro T g n t v d0 p h1 h2 h3 h4 h5
    obtain ⟨fuel, h5⟩ := h5
    obtain ⟨d, hd, hw⟩ := den_of_trod 40 T t _ fuel _ h1 h5
    have hl := hd.len
    have hn := Nat.eq_of_beq_eq_true h3
    subst hn
    rcases arg_shape h1 h4 with ⟨fs, hT, us, rfl⟩ | ⟨ha, hc⟩
    · have ha : aggOf P T = some true := by unfold aggOf; rw [hT]
      rw [ha] at h2
      have : g = true := by simpa using h2
      subst this
      exact ⟨d, us, hw, by simpa [Value.cells] using hd, by simpa [Value.cells] using hl, rfl⟩
    · rw [ha] at h2
      have : g = false := by simpa using h2
      subst this
      rw [hc] at hd hl
      exact ⟨d, [v], hw, hd, hl, by simpa using hl.symm, rfl⟩
  intro Ts
  induction Ts with
  | nil =>
    intro ps rows t vs ds places h hval ht
    cases ps <;> cases rows <;> cases t <;> simp [rootOk] at h
    cases vs with
    | cons _ _ => cases ds <;> exact ht.elim
    | nil => exact ⟨(), [], trivial, rfl, trivial⟩
  | cons T Ts ih =>
    intro ps rows t vs ds places h hval ht
    cases vs with
    | nil => cases ds <;> exact ht.elim
    | cons v vs =>
      cases ds with
      | nil => exact ht.elim
      | cons d0 ds =>
        obtain ⟨p, q, ht1, ht2, _⟩ := ht
        have hv0 := hval 0 T v rfl rfl
        cases ps with
        | nil => cases Ts <;> simp [rootOk] at h
        | cons fp ps =>
          cases fp with
          | box _ _ => cases Ts <;> cases ps <;> simp [rootOk] at h
          | val g n =>
            have last : Ts = [] → ps = [] → (tyOk P 40 T t && ((match aggOf P T with | some g' => g == g' | none => false) && (Nat.beq n t.sz && (Nat.beq rows.length t.sz && rows.all (·.isNone))))) = true →
                ∃ (d : t.den) (raw : List Value), Wf t d ∧ ParsR w home (.val g n :: ps) (v :: vs) raw ∧ InR tm w (fun _ => False) B home shape rows (t.cells false d) raw := by
              intro e1 e2 hh
              subst e1; subst e2
              cases vs with
              | cons _ _ => cases ds <;> exact ht2.elim
              | nil =>
                simp only [Bool.and_eq_true] at hh
                obtain ⟨h1, h2, h3, h4, h5⟩ := hh
                obtain ⟨d, us, w1, w2, w3, w4⟩ := one h1 h2 h3 hv0 ht1
                have := inR_flat (tm := tm) (B := B) (home := home) (shape := shape) (rows2 := []) (vs2 := []) (cs2 := []) h5 (Nat.eq_of_beq_eq_true h4) w2 trivial
                simp only [List.append_nil] at this
                refine ⟨d, us, w1, ?_, this⟩
                cases g with
                | true => exact ⟨us, [], w4, w3, by simp, rfl⟩
                | false => obtain ⟨w5, rfl⟩ := w4; exact ⟨[], w5, rfl, rfl⟩
            have more : ∀ (a b : Ty), t = .pair a b → (tyOk P 40 T a && ((match aggOf P T with | some g' => g == g' | none => false) && (Nat.beq n a.sz && (Nat.ble a.sz rows.length && ((rows.take a.sz).all (·.isNone) && rootOk P Ts ps (rows.drop a.sz) b))))) = true →
                ∃ (d : t.den) (raw : List Value), Wf t d ∧ ParsR w home (.val g n :: ps) (v :: vs) raw ∧ InR tm w (fun _ => False) B home shape rows (t.cells false d) raw := by
              intro a b e hh
              subst e
              simp only [Bool.and_eq_true] at hh
              obtain ⟨h1, h2, h3, h4, h5, h6⟩ := hh
              obtain ⟨d, us, w1, w2, w3, w4⟩ := one h1 h2 h3 hv0 ht1
              obtain ⟨d2, raw2, x1, x2, x3⟩ := ih h6 (fun j T v hT hv => hval (j + 1) T v (by simpa using hT) (by simpa using hv)) ht2
              have h4 := Nat.le_of_ble_eq_true h4
              have := inR_flat (tm := tm) (B := B) (home := home) (shape := shape) h5 (by simp; omega) w2 x3
              rw [List.take_append_drop] at this
              refine ⟨(d, d2), us ++ raw2, ⟨w1, x1⟩, ?_, this⟩
              cases g with
              | true => exact ⟨us, raw2, w4, w3, rfl, x2⟩
              | false => obtain ⟨w5, rfl⟩ := w4; exact ⟨raw2, w5, rfl, x2⟩
            cases Ts with
            | nil =>
              cases ps with
              | nil =>
                cases t with
                | pair a b =>
                  simp only [rootOk] at h
                  exact last rfl rfl h
                | _ => exact last rfl rfl h
              | cons p2 ps =>
                cases t with
                | pair a b => simp only [rootOk] at h; exact more a b rfl h
                | _ => simp [rootOk] at h
            | cons T2 Ts =>
              cases t with
              | pair a b =>
                (cases ps with
                | nil => simp [rootOk] at h
                | cons _ _ => simp only [rootOk] at h; exact more a b rfl h)
              | _ => cases ps <;> simp [rootOk] at h

/-- What a law's run gives. -/
theorem root_calls {P : Program} {tm : Nat → TypeId} {GB : Nat → Prop} {QW : World → Prop} {fid : FuncId} {g : Sig} {A : Ty} {fr : Bool} {G : Nat → A.den → Option Bool} (hGB : ∀ b, GB b → b < w.heap.size) (hQW : QW w) (hs : ∀ N, Sound P tm GB QW fid g ⟨A, .bool, fr, G N, false⟩) {r : Reach} {b0 : Nat} {Ts : List TypeId} {args : Array Value} {ds : List (DataW H)} {places : List MemPlace}
    (hok : rootOk P Ts g.pars g.rowsIn A = true) (hrets : g.rets = [.val false 1]) (houts : g.outs = [.imm])
    (hval : ∀ (j : Nat) (T : TypeId) (v : Value), Ts[j]? = some T → args[j]? = some v → Value.okWide P w r b0 T v) (ht : DataW.TrodAll enc P w base sp held Ts args.toList ds places)
    (hF : ∀ x, Wf A x → ∃ N, G N x = some true) :
    Calls P fid args w fun e w' => e = .returned (.bool true) ∧ Below w.heap.size w w' := by
  have hin : g.inObjs = [] := by
    have key : ∀ (Ts : List TypeId) (ps : List FPar) (rows : List (Option (Nat × Nat))) (t : Ty), rootOk P Ts ps rows t = true → parObjs ps = [] ∧ rowObjs rows = [] := by
      have none_rows : ∀ (rows : List (Option (Nat × Nat))), rows.all (·.isNone) = true → rowObjs rows = [] := by
        intro rows
        induction rows with
        | nil => intro _; rfl
        | cons k r ih =>
          intro h
          cases k with
          | none => simp at h; exact ih (by simpa using h)
          | some _ => simp at h
      have app_rows : ∀ (a b : List (Option (Nat × Nat))), rowObjs (a ++ b) = rowObjs a ++ rowObjs b := by
        intro a b
        induction a with
        | nil => rfl
        | cons k r ih => cases k <;> simp [rowObjs, ih]
      intro Ts
      induction Ts with
      | nil => intro ps rows t h; cases ps <;> cases rows <;> cases t <;> simp [rootOk] at h; exact ⟨rfl, rfl⟩
      | cons T Ts ih =>
        intro ps rows t h
        cases ps with
        | nil => cases Ts <;> simp [rootOk] at h
        | cons fp ps =>
          cases fp with
          | box _ _ => cases Ts <;> cases ps <;> simp [rootOk] at h
          | val gg n =>
            have more : ∀ (a b : Ty), t = .pair a b → (tyOk P 40 T a && ((match aggOf P T with | some g' => gg == g' | none => false) && (Nat.beq n a.sz && (Nat.ble a.sz rows.length && ((rows.take a.sz).all (·.isNone) && rootOk P Ts ps (rows.drop a.sz) b))))) = true →
                parObjs (FPar.val gg n :: ps) = [] ∧ rowObjs rows = [] := by
              intro a b e hh
              simp only [Bool.and_eq_true] at hh
              obtain ⟨h1, h2⟩ := ih _ _ _ hh.2.2.2.2.2
              refine ⟨h1, ?_⟩
              rw [← List.take_append_drop a.sz rows, app_rows, none_rows _ hh.2.2.2.2.1, h2]
              rfl
            have last : ps = [] → rows.all (·.isNone) = true → parObjs (FPar.val gg n :: ps) = [] ∧ rowObjs rows = [] := by
              intro e hh; subst e; exact ⟨rfl, none_rows _ hh⟩
            cases Ts with
            | nil =>
              cases ps with
              | nil =>
                cases t with
                | pair a b => simp only [rootOk, Bool.and_eq_true] at h; exact last rfl h.2.2.2.2
                | _ => simp only [rootOk, Bool.and_eq_true] at h; exact last rfl h.2.2.2.2
              | cons p2 ps =>
                cases t with
                | pair a b => simp only [rootOk] at h; exact more a b rfl h
                | _ => simp [rootOk] at h
            | cons T2 Ts =>
              cases t with
              | pair a b => (cases ps with
                | nil => simp [rootOk] at h
                | cons _ _ => simp only [rootOk] at h; exact more a b rfl h)
              | _ => cases ps <;> simp [rootOk] at h
    obtain ⟨h1, h2⟩ := key _ _ _ _ hok
    simp [Sig.inObjs, h1, h2]
  have hnb : ∀ b, ¬ g.inBlocks (fun _ => none) b := by
    rintro b ⟨o, base, h, _⟩
    rw [hin] at h; cases h
  obtain ⟨d, raw, hw, hp, hi⟩ := root_in (tm := tm) (B := w.heap.size) (home := fun _ => none) (shape := fun _ => none) hok (fun j T v hT hv => hval j T v hT (by simpa using hv)) ht
  have hi' : InR tm w (fun b => False ∨ g.inBlocks (fun _ => none) b) w.heap.size (fun _ => none) (fun _ => none) g.rowsIn (A.cells false d) raw := by
    have e : (fun b => False ∨ g.inBlocks (fun _ => none) b) = fun _ => False := by
      funext b; simp [hnb b]
    rw [e]; exact hi
  obtain ⟨N, hN⟩ := hF d hw
  have := hs N w w.heap.size (fun _ => False) (fun _ => none) (fun _ => none) args.toList raw d _ (fun b hb => ⟨hGB b hb, hnb b⟩) hQW (Nat.le_refl _) (fun _ => rfl) (fun h => by cases h) (fun b h => h.elim) (fun o o' b base base' _ _ h => by cases h) (fun o b base _ h => by cases h) hp hi' hN
  rw [Array.toArray_toList] at this
  refine this.mono ?_
  rintro e w' ⟨v, rfl, hstep, vals, rawA, rawB, bs, ms, rfl, hr, hb, ho, _⟩
  refine ⟨?_, hstep.os, hstep.tape, hstep.output, hstep.size, fun k hk => hstep.block k hk (hnb k)⟩
  rw [hrets] at hr
  rw [houts] at ho
  match vals, hr with
  | v :: vs, hr =>
    obtain ⟨rest, _, hra, hr⟩ := hr
    cases vs with
    | cons _ _ => cases rest <;> exact hr.elim
    | nil =>
      obtain ⟨hrest, _⟩ := hr
      subst hrest; subst hra
      have ho1 : v = .bool true := ho.1
      rw [ho1]; rfl
  | [], hr => exact hr.elim

end
end Go.Kb

/- Functions of a program, one by one. -/
namespace Go.Kb

def natTbl : List (Nat × Nat) → Nat → Nat
  | [], _ => 0
  | (m, k) :: r, n => match Nat.beq n m with
    | true => k
    | false => natTbl r n

def sgTbl : List (Nat × (Sig × Bool)) → Nat → Option (Sig × Bool)
  | [], _ => none
  | (m, x) :: r, n => match Nat.beq n m with
    | true => some x
    | false => sgTbl r n

def mkE (P : Program) (G : Nat → Prop) (Q : World → Prop) (tm fm : List (Nat × Nat)) (l : List (Nat × (Sig × Bool))) : Env1 := { P := P, tm := natTbl tm, fm := natTbl fm, eqT := eqTB P, sg := sgTbl l, G := G, Q := Q }

section
variable {P : Program} {G : Nat → Prop} {Q : World → Prop} {tm fm : List (Nat × Nat)}

theorem known_nil : Known (mkE P G Q tm fm []) (tbl [] noFS) := fun n g fresh h => by cases h

theorem known_cons {n : Nat} {g : Sig} {fr : Bool} {f : FS} {l : List (Nat × (Sig × Bool))} {r : List (Nat × FS)} {fid : FuncId} (hid : natTbl fm n = fid) (hs : Sound P (natTbl tm) G Q fid g f) (hf : (f.fresh && !f.keep) = fr) (hk : Known (mkE P G Q tm fm l) (tbl r noFS)) :
    Known (mkE P G Q tm fm ((n, (g, fr)) :: l)) (tbl ((n, f) :: r) noFS) := by
  intro m g' fresh h
  simp only [mkE, sgTbl] at h
  simp only [tbl]
  cases hb : Nat.beq m n with
  | true =>
    rw [hb] at h
    simp only [] at h
    injection h with h; injection h with h1 h2; subst h1; subst h2
    have := Nat.eq_of_beq_eq_true hb
    subst this
    subst hid
    exact ⟨hs, hf⟩
  | false =>
    rw [hb] at h
    exact hk m g' fresh h

theorem sound_of {l : List (Nat × (Sig × Bool))} {r : List (Nat × FS)} {fid : FuncId} {x : XFunc} (N : Nat) (hk : Known (mkE P G Q tm fm l) (tbl r noFS)) (hQs : ∀ w w' : World, (∀ b, G b → w'.heap[b]? = w.heap[b]?) → Q w → Q w') (hmix : P.follows .mixedOrders = true) (hok : funcOk (mkE P G Q tm fm l) fid x = true) :
    Sound P (natTbl tm) G Q fid x.sig { arg := x.arg, ret := x.ret, fresh := x.fresh, F := fun y => x.run (envOf (tbl r noFS)) N y, keep := x.keep } :=
  func_sound (E := mkE P G Q tm fm l) N (fun _ _ h => h) (fun _ h1 h2 => call_does hk hQs h1 h2) hmix hok
end
end Go.Kb

/- A law's row. -/
namespace Go.Kb
open Go.ChangeShapes Go.WideShapes Go.ChangeAt Go.RowKit

section
variable {H : Type} {enc : TypeId × Value → H} {P : Program}

def readB (P : Program) : List TypeId → Bool
  | [] => true
  | t :: r => P.readableRec t && (decide (t < P.types.size) && readB P r)

theorem trodAll_stays (hl : laidOutB P = true) {W W' : World} {sp : Nat → Bool} (hb : Below W.heap.size W W') : ∀ {Ts : List TypeId} {vs : List Value} {ds : List (DataW H)} {ps : List MemPlace}, readB P Ts = true →
    DataW.TrodAll enc P W 0 (fun _ => true) true Ts vs ds ps → (∀ p ∈ ps, p.block < W.heap.size) → (∀ p ∈ ps, sp p.block = true) → DataW.TrodAll enc P W' 0 sp true Ts vs ds ps
  | [], [], [], _, _, h, _, _ => h
  | T :: Ts, v :: vs, d :: ds, ps, hr, h, hlt, hs => by
    simp only [readB, Bool.and_eq_true, decide_eq_true_eq] at hr
    obtain ⟨p, q, h1, h2, rfl⟩ := h
    refine ⟨p, q, WideElems.Trod_stays hl hr.1 hr.2.1 h1 (fun x hx => hb.same (hlt x (List.mem_append.2 (.inl hx)))) (fun x hx => hs x (List.mem_append.2 (.inl hx))), ?_, rfl⟩
    exact trodAll_stays hl hb hr.2.2 h2 (fun x hx => hlt x (List.mem_append.2 (.inr hx))) (fun x hx => hs x (List.mem_append.2 (.inr hx)))
  | [], _ :: _, _, _, _, h, _, _ => by cases h
  | [], [], _ :: _, _, _, h, _, _ => by cases h
  | _ :: _, [], _, _, _, h, _, _ => by cases h
  | _ :: _, _ :: _, [], _, _, h, _, _ => by cases h

theorem trodAll_len {W : World} {base : Nat} {sp : Nat → Bool} {held : Bool} : ∀ {Ts : List TypeId} {vs : List Value} {ds : List (DataW H)} {ps : List MemPlace}, DataW.TrodAll enc P W base sp held Ts vs ds ps → ds.length = Ts.length
  | [], [], [], _, _ => rfl
  | _ :: _, _ :: _, _ :: _, _, ⟨_, _, _, h, _⟩ => by simp [trodAll_len h]
  | [], _ :: _, _, _, h => by cases h
  | [], [], _ :: _, _, h => by cases h
  | _ :: _, [], _, _, h => by cases h
  | _ :: _, _ :: _, [], _, h => by cases h

theorem law_post {f : Func} {s : ChangeSpec} {W W' : World} {args : Array Value} {ds gs : List (DataW H)} {before : List MemPlace} {T : TypeId}
    (hW : DataW.Whole enc P f.params.toList s.vars false W args.toList ds gs before) (hv : s.vars = []) (hfn : s.fn H (ds ++ gs) = { results := [.lit (.bool true)], args := ds })
    (hrt : f.resultTypes = #[T]) (hT : P.underlying T = some .bool) (hl : laidOutB P = true) (hr : readB P f.params.toList = true) (hb : Below W.heap.size W W') :
    s.post enc P f false true false false W args (.bool true) W' := by
  have hlt : ∀ p ∈ before, p.block < W.heap.size := fun p hp => hW.lt p hp
  obtain ⟨p, q, hA, hV, he, _, _⟩ := hW
  have hW : DataW.Whole enc P f.params.toList s.vars false W args.toList ds gs before := ⟨p, q, hA, hV, he, by assumption, by assumption⟩
  have hq : q = [] := by
    rw [hv] at hV
    cases gs with
    | nil => exact hV
    | cons _ _ => exact hV.elim
  subst hq
  rw [List.append_nil] at he
  subst he
  refine ⟨ds, gs, before, [], before, [], hW, ?_, ?_, ?_, ?_, fun h => by cases h⟩
  · rw [hfn, hrt]
    exact trodAll_mk1 ⟨1, by simp [DataW.trod, Value.cells, hT]⟩
  · rw [hfn]
    exact trodAll_stays hl hb hr hA hlt (fun x hx => by simpa using hlt x hx)
  · rw [hfn, hv]
    exact rfl
  · exact World.keptBut_mono (fun p hp => ⟨hp, .inr (.inl hp)⟩) (hb.frame (· ∈ before))
end
end Go.Kb

