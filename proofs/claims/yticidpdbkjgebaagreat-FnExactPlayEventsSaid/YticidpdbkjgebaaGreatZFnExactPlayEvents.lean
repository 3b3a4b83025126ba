/- For every input the law FnExactPlayEvents answers true, and its arguments read as before. No condition. -/
import Derived.Test.YticidpdbkjgebaaGreatCFnExactPlayEvents
import Derived.Test.YticidpdbkjgebaaGreatExactPlayEventsP127
import Derived.ProofKit
import Derived.KernelRfl
namespace Go.Kb
theorem laws_FnExactPlayEvents_true : ∀ x, Wf laws_FnExactPlayEvents.x.arg x → ∃ N, laws_FnExactPlayEvents.F N x = some true := fun ⟨d, l, e⟩ h => ⟨_, FnExactPlayEvents_true d l e ⟨⟨h.1.1.1.2.1, fun x hx => (h.1.1.1.2.2 x hx).1⟩, ⟨h.1.1.2.1.1, fun x hx => (h.1.1.2.1.2 x hx).1⟩, h.1.1.2.2.2.1.1, h.1.2.2.1.1⟩ h.2.1.1⟩

end Go.Kb
namespace Go.Proofs.YticidpdbkjgebaaGreat
open Go.ChangeShapes Go.WideShapes Go.ChangeAt Go.RowKit Go.Kb
theorem Tryz.own : ownKnob Tryz.prog.godebug = none := by kernel_rfl
theorem Tryz.laidOut : laidOutB Tryz.prog = true := by kernel_rfl

/-- what a start holds to, over the same program by its other name -/
theorem hval_of {P Q : Program} (e : P = Q) {W : World} {r : Reach} {base : Nat} {ps : Array TypeId} {args : Array Value} (h : ∀ (j : Nat) (t : TypeId) (v : Value), ps[j]? = some t → args[j]? = some v → Value.okWide P W r base t v) :
    ∀ (j : Nat) (T : TypeId) (v : Value), ps.toList[j]? = some T → args[j]? = some v → Value.okWide Q W r base T v := by
  subst e
  intro j T v h1 h2
  exact @h j T v (Array.getElem?_toList.symm.trans h1) h2

/-- what the law's run gives, for a row -/
theorem FnExactPlayEvents_lifted (os : Os) (started : os.Started) (H : Type) (enc : TypeId × Value → H) :
    ReturnsInHanded {} Tryz.checked os 6 .any (Rows.fnExactPlayEventsSpec.pre6 enc Tryz.prog Tryz.f6 Rows.fnExactPlayEventsRow.domain false) (Rows.fnExactPlayEventsSpec.post enc Tryz.prog Tryz.f6 false true false false) := by
  refine returnsInHanded_of_change (C := Tryz.checked) Tryz.own started (by kernel_rfl) Tryz.func6
    (ChangeSpec.witness6 (enc := enc) (C := Tryz.checked) false ⟨#[], #[.agg #[.int .i64 0, .slice none 0 0, .slice none 0 0, .int .i64 0, .slice none 0 0, .int .i64 0, .bool false, .int .i64 0, .int .i64 0, .int .i64 0, .slice none 0 0, .int .i64 0, .int .i64 0, .int .i64 0, .int .i64 0], .slice none 0 0, .int .i64 0], []⟩ 12 (by kernel_rfl) (by kernel_rfl) (by kernel_rfl) (by kernel_rfl)) ?_
  intro W base args ds gs before hval0 hW _ _
  have hP : Tryz.checked.prog = Tryz.prog := by kernel_rfl
  have hval := @hval_of _ _ hP _ _ _ _ _ @hval0
  have hW' : DataW.Whole enc Tryz.prog Tryz.f6.params.toList Rows.fnExactPlayEventsSpec.vars false W args.toList ds gs before := hW
  obtain ⟨p, q, hA, hV, _, _, _⟩ := hW'
  have hA : DataW.TrodAll enc Tryz.prog W 0 (fun _ => true) true Tryz.f6.params.toList args.toList ds p := hA
  have hgs : gs = [] := by
    cases gs with
    | nil => rfl
    | cons _ _ => exact hV.elim
  subst hgs
  have hfn : Rows.fnExactPlayEventsSpec.fn H (ds ++ []) = { results := [.lit (.bool true)], args := ds } := by
    have hlen := Go.Kb.trodAll_len hA
    have hl : Tryz.f6.params.toList.length = 3 := by kernel_rfl
    rw [hl] at hlen
    match ds, hlen with
    | [d1, d2, d3], _ => rfl
  refine (Go.Kb.root_calls (A := Go.Kb.laws_FnExactPlayEvents.x.arg) (G := Go.Kb.laws_FnExactPlayEvents.F) (GB := Go.Kb.GB) (QW := Go.Kb.QW) (fun _ h => h.elim) trivial (fun N => Go.Kb.laws_FnExactPlayEvents.sound N) (Ts := Tryz.f6.params.toList) (by kernel_rfl) rfl rfl @hval hA laws_FnExactPlayEvents_true).mono fun e W' hh => ?_
  obtain ⟨he, hb⟩ := hh
  exact ⟨_, he, Go.Kb.law_post (T := 4) hW rfl hfn (by kernel_rfl) (by kernel_rfl) Tryz.laidOut (by kernel_rfl) hb⟩

theorem FnExactPlayEvents_holds : Rows.FnExactPlayEventsSaid :=
  OpenClaim.holds_of_wide 6 Tryz.f6 rfl rfl rfl rfl rfl rfl rfl ⟨rfl, rfl, rfl, rfl, rfl⟩ rfl rfl rfl rfl rfl (by kernel_rfl) Tryz.func6 (by kernel_rfl)
    (of_decide_eq_true (by kernel_rfl)) (by unfold Func.isWrapper; first | (rw [if_pos (by decide +kernel)]; kernel_rfl) | (rw [if_neg (by decide +kernel)]; exact ⟨rfl, rfl⟩))
    (fun os started H enc _ => FnExactPlayEvents_lifted os started H enc)
end Go.Proofs.YticidpdbkjgebaaGreat
