/- For every input the law FnExactWaitUntil answers true, and its arguments read as before. No condition. -/
import Derived.Test.YticidpdbkjgebabGreatCFnExactWaitUntil
import Derived.Test.YticidpdbkjgebabGreatExactWaitUntilP127toP128
import Derived.ProofKit
import Derived.KernelRfl
namespace Go.Kb
theorem laws_FnExactWaitUntil_true : ∀ x, Wf laws_FnExactWaitUntil.x.arg x → ∃ N, laws_FnExactWaitUntil.F N x = some true := fun ⟨d, e⟩ h => ⟨_, FnExactWaitUntil_true d e ⟨⟨h.1.1.1.2.1, fun x hx => (h.1.1.1.2.2 x hx).1⟩, ⟨h.1.1.2.1.1, fun x hx => (h.1.1.2.1.2 x hx).1⟩, h.1.1.2.2.2.1.1, h.1.2.2.1.1⟩⟩

end Go.Kb
namespace Go.Proofs.YticidpdbkjgebabGreat
open Go.ChangeShapes Go.WideShapes Go.ChangeAt Go.RowKit Go.Kb
theorem Tryz.own : ownKnob Tryz.prog.godebug = none := by kernel_rfl
theorem Tryz.laidOut : laidOutB Tryz.prog = true := by kernel_rfl

/-- what a start holds to, over the same program by its other name -/
theorem hval_of {P Q : Program} (e : P = Q) {W : World} {r : Reach} {base : Nat} {ps : Array TypeId} {args : Array Value} (h : ∀ (j : Nat) (t : TypeId) (v : Value), ps[j]? = some t → args[j]? = some v → Value.okWide P W r base t v) :
    ∀ (j : Nat) (T : TypeId) (v : Value), ps.toList[j]? = some T → args[j]? = some v → Value.okWide Q W r base T v := by
  subst e
  intro j T v h1 h2
  exact @h j T v (Array.getElem?_toList.symm.trans h1) h2

/-- what the law's run gives, for a row -/
theorem FnExactWaitUntil_lifted (os : Os) (started : os.Started) (H : Type) (enc : TypeId × Value → H) :
    ReturnsInHanded {} Tryz.checked os 3 .any (Rows.fnExactWaitUntilSpec.pre6 enc Tryz.prog Tryz.f3 Rows.fnExactWaitUntilRow.domain false) (Rows.fnExactWaitUntilSpec.post enc Tryz.prog Tryz.f3 false true false false) := by
  refine returnsInHanded_of_change (C := Tryz.checked) Tryz.own started (by kernel_rfl) Tryz.func3
    (ChangeSpec.witness6 (enc := enc) (C := Tryz.checked) false ⟨#[], #[.agg #[.int .i64 0, .slice none 0 0, .slice none 0 0, .int .i64 0, .slice none 0 0, .int .i64 0, .bool false, .int .i64 0, .int .i64 0, .int .i64 0, .slice none 0 0, .int .i64 0, .int .i64 0, .int .i64 0, .int .i64 0], .int .i64 0], []⟩ 12 (by kernel_rfl) (by kernel_rfl) (by kernel_rfl) (by kernel_rfl)) ?_
  intro W base args ds gs before hval0 hW _ _
  have hP : Tryz.checked.prog = Tryz.prog := by kernel_rfl
  have hval := @hval_of _ _ hP _ _ _ _ _ @hval0
  have hW' : DataW.Whole enc Tryz.prog Tryz.f3.params.toList Rows.fnExactWaitUntilSpec.vars false W args.toList ds gs before := hW
  obtain ⟨p, q, hA, hV, _, _, _⟩ := hW'
  have hA : DataW.TrodAll enc Tryz.prog W 0 (fun _ => true) true Tryz.f3.params.toList args.toList ds p := hA
  have hgs : gs = [] := by
    cases gs with
    | nil => rfl
    | cons _ _ => exact hV.elim
  subst hgs
  have hfn : Rows.fnExactWaitUntilSpec.fn H (ds ++ []) = { results := [.lit (.bool true)], args := ds } := by
    have hlen := Go.Kb.trodAll_len hA
    have hl : Tryz.f3.params.toList.length = 2 := by kernel_rfl
    rw [hl] at hlen
    match ds, hlen with
    | [d1, d2], _ => rfl
  refine (Go.Kb.root_calls (A := Go.Kb.laws_FnExactWaitUntil.x.arg) (G := Go.Kb.laws_FnExactWaitUntil.F) (GB := Go.Kb.GB) (QW := Go.Kb.QW) (fun _ h => h.elim) trivial (fun N => Go.Kb.laws_FnExactWaitUntil.sound N) (Ts := Tryz.f3.params.toList) (by kernel_rfl) rfl rfl @hval hA laws_FnExactWaitUntil_true).mono fun e W' hh => ?_
  obtain ⟨he, hb⟩ := hh
  exact ⟨_, he, Go.Kb.law_post (T := 4) hW rfl hfn (by kernel_rfl) (by kernel_rfl) Tryz.laidOut (by kernel_rfl) hb⟩

theorem FnExactWaitUntil_holds : Rows.FnExactWaitUntilSaid :=
  OpenClaim.holds_of_wide 3 Tryz.f3 rfl rfl rfl rfl rfl rfl rfl ⟨rfl, rfl, rfl, rfl, rfl⟩ rfl rfl rfl rfl rfl (by kernel_rfl) Tryz.func3 (by kernel_rfl)
    (of_decide_eq_true (by kernel_rfl)) (by unfold Func.isWrapper; first | (rw [if_pos (by decide +kernel)]; kernel_rfl) | (rw [if_neg (by decide +kernel)]; exact ⟨rfl, rfl⟩))
    (fun os started H enc _ => FnExactWaitUntil_lifted os started H enc)
end Go.Proofs.YticidpdbkjgebabGreat
