/- For every input the law FnExactPushAll answers true, and its arguments read as before. No condition. -/
import Derived.Test.YtokploahoidhoabCFnExactPushAll
import Derived.Test.YtokploahoidhoabExactPushAllP74
import Derived.ProofKit
import Derived.KernelRfl
namespace Go.Kb
theorem wellPipe {p : Pp} (h : Wf (.pair (.pair (.int .i64) (.list (.int .i64))) (.list (.pair (.int .i64) (.list (.int .i64))))) p) : wellP p := ⟨h.1.2.1, h.2.1, fun x hx => (h.2.2 x hx).2.1⟩
theorem laws_FnExactPushAll_true : ∀ x, Wf laws_FnExactPushAll.x.arg x → ∃ N, laws_FnExactPushAll.F N x = some true := fun (p, q) h => ⟨_, FnExactPushAll_true p q (wellPipe h.1) ⟨h.2.1, fun x hx => (h.2.2 x hx).2.1⟩⟩

end Go.Kb
namespace Go.Proofs.Ytokploahoidhoab
open Go.ChangeShapes Go.WideShapes Go.ChangeAt Go.RowKit Go.Kb
theorem Try.own : ownKnob Try.prog.godebug = none := by kernel_rfl
theorem Try.laidOut : laidOutB Try.prog = true := by kernel_rfl

/-- what a start holds to, over the same program by its other name -/
theorem hval_of {P Q : Program} (e : P = Q) {W : World} {r : Reach} {base : Nat} {ps : Array TypeId} {args : Array Value} (h : ∀ (j : Nat) (t : TypeId) (v : Value), ps[j]? = some t → args[j]? = some v → Value.okWide P W r base t v) :
    ∀ (j : Nat) (T : TypeId) (v : Value), ps.toList[j]? = some T → args[j]? = some v → Value.okWide Q W r base T v := by
  subst e
  intro j T v h1 h2
  exact @h j T v (Array.getElem?_toList.symm.trans h1) h2

/-- what the law's run gives, for a row -/
theorem FnExactPushAll_lifted (os : Os) (started : os.Started) (H : Type) (enc : TypeId × Value → H) :
    ReturnsInHanded {} Try.checked os 6 .any (Rows.fnExactPushAllSpec.pre6 enc Try.prog Try.f6 Rows.fnExactPushAllRow.domain false) (Rows.fnExactPushAllSpec.post enc Try.prog Try.f6 false true false false) := by
  refine returnsInHanded_of_change (C := Try.checked) Try.own started (by kernel_rfl) Try.func6
    (ChangeSpec.witness6 (enc := enc) (C := Try.checked) false ⟨#[], #[.agg #[.int .i64 0, .slice none 0 0, .slice none 0 0], .slice none 0 0], []⟩ 12 (by kernel_rfl) (by kernel_rfl) (by kernel_rfl) (by kernel_rfl)) ?_
  intro W base args ds gs before hval0 hW _ _
  have hP : Try.checked.prog = Try.prog := by kernel_rfl
  have hval := @hval_of _ _ hP _ _ _ _ _ @hval0
  have hW' : DataW.Whole enc Try.prog Try.f6.params.toList Rows.fnExactPushAllSpec.vars false W args.toList ds gs before := hW
  obtain ⟨p, q, hA, hV, _, _, _⟩ := hW'
  have hA : DataW.TrodAll enc Try.prog W 0 (fun _ => true) true Try.f6.params.toList args.toList ds p := hA
  have hgs : gs = [] := by
    cases gs with
    | nil => rfl
    | cons _ _ => exact hV.elim
  subst hgs
  have hfn : Rows.fnExactPushAllSpec.fn H (ds ++ []) = { results := [.lit (.bool true)], args := ds } := by
    have hlen := Go.Kb.trodAll_len hA
    have hl : Try.f6.params.toList.length = 2 := by kernel_rfl
    rw [hl] at hlen
    match ds, hlen with
    | [d1, d2], _ => rfl
  refine (Go.Kb.root_calls (A := Go.Kb.laws_FnExactPushAll.x.arg) (G := Go.Kb.laws_FnExactPushAll.F) (GB := Go.Kb.GB) (QW := Go.Kb.QW) (fun _ h => h.elim) trivial (fun N => Go.Kb.laws_FnExactPushAll.sound N) (Ts := Try.f6.params.toList) (by kernel_rfl) rfl rfl @hval hA laws_FnExactPushAll_true).mono fun e W' hh => ?_
  obtain ⟨he, hb⟩ := hh
  exact ⟨_, he, Go.Kb.law_post (T := 4) hW rfl hfn (by kernel_rfl) (by kernel_rfl) Try.laidOut (by kernel_rfl) hb⟩

theorem FnExactPushAll_holds : Rows.FnExactPushAllSaid :=
  OpenClaim.holds_of_wide 6 Try.f6 rfl rfl rfl rfl rfl rfl rfl ⟨rfl, rfl, rfl, rfl, rfl⟩ rfl rfl rfl rfl rfl (by kernel_rfl) Try.func6 (by kernel_rfl)
    (of_decide_eq_true (by kernel_rfl)) (by unfold Func.isWrapper; first | (rw [if_pos (by decide +kernel)]; kernel_rfl) | (rw [if_neg (by decide +kernel)]; exact ⟨rfl, rfl⟩))
    (fun os started H enc _ => FnExactPushAll_lifted os started H enc)
end Go.Proofs.Ytokploahoidhoab
