/- Words written one after the other into a page of the flash. -/
import Derived.Test.YtokploahoidhoaaSettingsP76
namespace Go.Kb
set_option maxRecDepth 100000

def wop (q : Nat) (w : Nat × Int) : FOp := (false, (q : Int), (w.1 : Int), w.2)
def wr : List Int → List (Nat × Int) → List Int
  | pg, [] => pg
  | pg, w :: t => wr (pg.set w.1 w.2) t
def okW : List Int → List (Nat × Int) → Prop
  | _, [] => True
  | pg, w :: t => (w.1 ≤ 18 ∧ 0 ≤ w.2 ∧ w.2 ≤ 65534 ∧ pg.getD w.1 0 = 65535) ∧ okW (pg.set w.1 w.2) t

theorem set_self {α : Type} (d : α) (l : List α) (i : Nat) : l.set i (l.getD i d) = l := by
  refine List.ext_getElem (by simp) fun j h1 h2 => ?_
  rw [List.getElem_set]
  split
  · next e => subst e; rw [List.getD_eq_getElem?_getD, List.getElem?_eq_getElem h2]; rfl
  · rfl
theorem gset {α : Type} (l : List α) (i : Nat) (x d : α) (h : i < l.length) : (l.set i x).getD i d = x := by
  simp [List.getD_eq_getElem?_getD, h]
theorem gset_ne {α : Type} (l : List α) (i j : Nat) (x d : α) (h : i ≠ j) : (l.set i x).getD j d = l.getD j d := by
  simp only [List.getD_eq_getElem?_getD, List.getElem?_set_ne h]
theorem wr_app : ∀ (a b : List (Nat × Int)) (pg : List Int), wr pg (a ++ b) = wr (wr pg a) b
  | [], _, _ => rfl
  | w :: a, b, pg => wr_app a b (pg.set w.1 w.2)
theorem okW_app : ∀ (a b : List (Nat × Int)) (pg : List Int), okW pg (a ++ b) ↔ okW pg a ∧ okW (wr pg a) b
  | [], b, pg => ⟨fun h => ⟨trivial, h⟩, fun h => h.2⟩
  | w :: a, b, pg => by
    show (_ ∧ okW (pg.set w.1 w.2) (a ++ b)) ↔ ((_ ∧ okW (pg.set w.1 w.2) a) ∧ okW (wr (pg.set w.1 w.2) a) b)
    rw [okW_app a b (pg.set w.1 w.2)]
    exact and_assoc.symm
theorem okW_take (ws : List (Nat × Int)) (pg : List Int) (n : Nat) (h : okW pg ws) : okW pg (ws.take n) := by
  rw [← List.take_append_drop n ws] at h
  exact ((okW_app _ _ _).mp h).1
theorem wr_len : ∀ (ws : List (Nat × Int)) (pg : List Int), (wr pg ws).length = pg.length
  | [], _ => rfl
  | w :: t, pg => by show (wr (pg.set w.1 w.2) t).length = _; rw [wr_len t, List.length_set]
theorem wr_ne : ∀ (ws : List (Nat × Int)) (pg : List Int) (j : Nat), (∀ w ∈ ws, w.1 ≠ j) → (wr pg ws).getD j 0 = pg.getD j 0
  | [], _, _, _ => rfl
  | w :: t, pg, j, h => by
    show (wr (pg.set w.1 w.2) t).getD j 0 = _
    rw [wr_ne t _ j (fun x hx => h x (List.mem_cons_of_mem _ hx)), gset_ne _ _ _ _ _ (h w List.mem_cons_self)]

theorem doV_w {f : Fl} (h : okF f = true) {q : Nat} (hq : q < 2) {w : Nat × Int} (hw : w.1 ≤ 18 ∧ 0 ≤ w.2 ∧ w.2 ≤ 65534 ∧ (f.1.getD q []).getD w.1 0 = 65535) :
    doV f (wop q w) = ((f.1.set q ((f.1.getD q []).set w.1 w.2), f.2), true) := by
  obtain ⟨h1, h2, h3, h4⟩ := hw
  unfold doV wop inB
  dsimp only
  rw [h, decide_eq_true (show 0 ≤ (q : Int) ∧ (q : Int) ≤ 1 by omega), Bool.and_self, condT, condF, decide_eq_true (show 0 ≤ (w.1 : Int) ∧ (w.1 : Int) ≤ 18 by omega), decide_eq_true (show 0 ≤ w.2 ∧ w.2 ≤ 65534 from ⟨h2, h3⟩),
    Int.toNat_natCast, Int.toNat_natCast, decide_eq_true h4, Bool.and_self, Bool.and_self, condT]
theorem runV_w {q : Nat} (hq : q < 2) : ∀ (ws : List (Nat × Int)) (f : Fl), okF f = true → okW (f.1.getD q []) ws →
    runV f (ws.map (wop q)) = ((f.1.set q (wr (f.1.getD q []) ws), f.2), true) ∧ okF (f.1.set q (wr (f.1.getD q []) ws), f.2) = true
  | [], f, h, _ => by
    show (f, true) = ((f.1.set q (f.1.getD q []), f.2), true) ∧ okF (f.1.set q (f.1.getD q []), f.2) = true
    rw [set_self]
    exact ⟨rfl, h⟩
  | w :: t, f, h, hw => by
    obtain ⟨hl, _⟩ := okF_facts h
    have e := doV_w h hq hw.1
    have ok : okF (f.1.set q ((f.1.getD q []).set w.1 w.2), f.2) = true := by
      have := doV_ok f (wop q w) (by rw [e])
      rw [e] at this
      exact this
    have hg : (f.1.set q ((f.1.getD q []).set w.1 w.2)).getD q [] = (f.1.getD q []).set w.1 w.2 := gset _ _ _ _ (by omega)
    obtain ⟨i1, i2⟩ := runV_w hq t (f.1.set q ((f.1.getD q []).set w.1 w.2), f.2) ok (by dsimp only; rw [hg]; exact hw.2)
    dsimp only at i1 i2
    rw [hg, List.set_set] at i1 i2
    rw [List.map_cons, runV_cons, e, condT]
    exact ⟨i1, i2⟩
theorem doV_e {f : Fl} (h : okF f = true) {q : Nat} (hq : q < 2) (hc : f.2.getD q 0 < 1000) : doV f (true, (q : Int), 0, 0) = ((f.1.set q blank, f.2.set q (f.2.getD q 0 + 1)), true) := by
  unfold doV inB
  dsimp only
  rw [h, decide_eq_true (show 0 ≤ (q : Int) ∧ (q : Int) ≤ 1 by omega), Bool.and_self, condT, condT, Int.toNat_natCast, decide_eq_true rfl, decide_eq_true hc, Bool.and_self, Bool.and_self, condT]
end Go.Kb
