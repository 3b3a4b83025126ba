/- For every input the law FnPlain answers true, and its arguments read as before. No condition. -/
import Derived.Test.YticidpdbkjgebaaCFnPlain
import Derived.Test.YticidpdbkjgebaaPlainP111
import Derived.ProofKit
import Derived.KernelRfl
namespace Go.Kb
theorem laws_FnPlain_true (x : List Int) (_ : Wf laws_FnPlain.x.arg x) : ∃ N, laws_FnPlain.F N x = some true := ⟨4000000, FnPlain_F x⟩

end Go.Kb
namespace Go.Proofs.Yticidpdbkjgebaa
open Go.ChangeShapes Go.WideShapes Go.ChangeAt Go.RowKit Go.Kb
theorem Try.own : ownKnob Try.prog.godebug = none := by kernel_rfl
theorem Try.laidOut : laidOutB Try.prog = true := by kernel_rfl

/-- what a start holds to, over the same program by its other name -/
theorem hval_of {P Q : Program} (e : P = Q) {W : World} {r : Reach} {base : Nat} {ps : Array TypeId} {args : Array Value} (h : ∀ (j : Nat) (t : TypeId) (v : Value), ps[j]? = some t → args[j]? = some v → Value.okWide P W r base t v) :
    ∀ (j : Nat) (T : TypeId) (v : Value), ps.toList[j]? = some T → args[j]? = some v → Value.okWide Q W r base T v := by
  subst e
  intro j T v h1 h2
  exact @h j T v (Array.getElem?_toList.symm.trans h1) h2

/-- what the law's run gives, for a row -/
theorem FnPlain_lifted (os : Os) (started : os.Started) (H : Type) (enc : TypeId × Value → H) :
    ReturnsInHanded {} Try.checked os 3 .any (Rows.fnPlainSpec.pre6 enc Try.prog Try.f3 Rows.fnPlainRow.domain false) (Rows.fnPlainSpec.post enc Try.prog Try.f3 false true false false) := by
  refine returnsInHanded_of_change (C := Try.checked) Try.own started (by kernel_rfl) Try.func3
    (ChangeSpec.witness6 (enc := enc) (C := Try.checked) false ⟨#[], #[.slice none 0 0], []⟩ 12 (by kernel_rfl) (by kernel_rfl) (by kernel_rfl) (by kernel_rfl)) ?_
  intro W base args ds gs before hval0 hW _ _
  have hP : Try.checked.prog = Try.prog := by kernel_rfl
  have hval := @hval_of _ _ hP _ _ _ _ _ @hval0
  have hW' : DataW.Whole enc Try.prog Try.f3.params.toList Rows.fnPlainSpec.vars false W args.toList ds gs before := hW
  obtain ⟨p, q, hA, hV, _, _, _⟩ := hW'
  have hA : DataW.TrodAll enc Try.prog W 0 (fun _ => true) true Try.f3.params.toList args.toList ds p := hA
  have hgs : gs = [] := by
    cases gs with
    | nil => rfl
    | cons _ _ => exact hV.elim
  subst hgs
  have hfn : Rows.fnPlainSpec.fn H (ds ++ []) = { results := [.lit (.bool true)], args := ds } := by
    have hlen := Go.Kb.trodAll_len hA
    have hl : Try.f3.params.toList.length = 1 := by kernel_rfl
    rw [hl] at hlen
    match ds, hlen with
    | [d1], _ => rfl
  refine (Go.Kb.root_calls (A := Go.Kb.laws_FnPlain.x.arg) (G := Go.Kb.laws_FnPlain.F) (GB := Go.Kb.GB) (QW := Go.Kb.QW) (fun _ h => h.elim) trivial (fun N => Go.Kb.laws_FnPlain.sound N) (Ts := Try.f3.params.toList) (by kernel_rfl) rfl rfl @hval hA laws_FnPlain_true).mono fun e W' hh => ?_
  obtain ⟨he, hb⟩ := hh
  exact ⟨_, he, Go.Kb.law_post (T := 4) hW rfl hfn (by kernel_rfl) (by kernel_rfl) Try.laidOut (by kernel_rfl) hb⟩

theorem FnPlain_holds : Rows.FnPlainSaid :=
  OpenClaim.holds_of_wide 3 Try.f3 rfl rfl rfl rfl rfl rfl rfl ⟨rfl, rfl, rfl, rfl, rfl⟩ rfl rfl rfl rfl rfl (by kernel_rfl) Try.func3 (by kernel_rfl)
    (of_decide_eq_true (by kernel_rfl)) (by unfold Func.isWrapper; first | (rw [if_pos (by decide +kernel)]; kernel_rfl) | (rw [if_neg (by decide +kernel)]; exact ⟨rfl, rfl⟩))
    (fun os started H enc _ => FnPlain_lifted os started H enc)
end Go.Proofs.Yticidpdbkjgebaa
