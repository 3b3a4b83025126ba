/- For every input the law FnExactLinkFrame answers true, and its arguments read as before. No condition. -/
import Derived.Test.YtfohiojijhnjlaaCFnExactLinkFrame
import Derived.Test.YtfohiojijhnjlaaP2
import Derived.ProofKit
import Derived.KernelRfl
namespace Go.Kb
theorem wf8 {x : Int} (h : (Lit.int .u8 x).wf = true) : 0 ≤ x ∧ x ≤ 255 := by
  simp only [Lit.wf, IntKind.min, IntKind.max, IntKind.signed, IntKind.bits] at h
  simpa using h
theorem wfBytes {xs : List Int} (h : Wf (.list (.int .u8)) xs) : byteL xs := fun x hx => wf8 (h.2 x hx)
theorem laws_FnExactLinkFrame_true : ∀ x, Wf laws_FnExactLinkFrame.x.arg x → ∃ N, laws_FnExactLinkFrame.F N x = some true := fun ⟨n, m⟩ _ => ⟨_, FnExactLinkFrame_true n m⟩

end Go.Kb
namespace Go.Proofs.Ytfohiojijhnjlaa
open Go.ChangeShapes Go.WideShapes Go.ChangeAt Go.RowKit Go.Kb
theorem Try.own : ownKnob Try.prog.godebug = none := by kernel_rfl
theorem Try.laidOut : laidOutB Try.prog = true := by kernel_rfl

/-- what the law's run gives, for a row -/
theorem FnExactLinkFrame_lifted (os : Os) (started : os.Started) (H : Type) (enc : TypeId × Value → H) :
    ReturnsInHanded {} Try.checked os 8 .any (Rows.fnExactLinkFrameSpec.pre6 enc Try.prog Try.f8 Rows.fnExactLinkFrameRow.domain false) (Rows.fnExactLinkFrameSpec.post enc Try.prog Try.f8 false true false false) := by
  refine returnsInHanded_of_change (C := Try.checked) Try.own started (by kernel_rfl) Try.func8
    (ChangeSpec.witness6 (enc := enc) (C := Try.checked) false ⟨#[], #[.int .i64 0, .int .i64 0], []⟩ 12 (by kernel_rfl) (by kernel_rfl) (by kernel_rfl) (by kernel_rfl)) ?_
  intro W base args ds gs before hval0 hW _ _
  have hval : ∀ (j : Nat) T v, Try.f8.params.toList[j]? = some T → args[j]? = some v → Value.okWide Try.prog W .any base T v := fun j T v h1 h2 => hval0 j T v (by rw [← Array.getElem?_toList]; exact h1) h2
  have hW' : DataW.Whole enc Try.prog Try.f8.params.toList Rows.fnExactLinkFrameSpec.vars false W args.toList ds gs before := hW
  obtain ⟨p, q, hA, hV, _, _, _⟩ := hW'
  have hA : DataW.TrodAll enc Try.prog W 0 (fun _ => true) true Try.f8.params.toList args.toList ds p := hA
  have hgs : gs = [] := by
    cases gs with
    | nil => rfl
    | cons _ _ => exact hV.elim
  subst hgs
  have hfn : Rows.fnExactLinkFrameSpec.fn H (ds ++ []) = { results := [.lit (.bool true)], args := ds } := by
    have hlen := Go.Kb.trodAll_len hA
    have hl : Try.f8.params.toList.length = 2 := by kernel_rfl
    rw [hl] at hlen
    match ds, hlen with
    | [d1, d2], _ => rfl
  refine (Go.Kb.root_calls (A := Go.Kb.laws_FnExactLinkFrame.x.arg) (G := Go.Kb.laws_FnExactLinkFrame.F) (fun N => Go.Kb.laws_FnExactLinkFrame.sound N) (Ts := Try.f8.params.toList) (by kernel_rfl) rfl rfl hval hA laws_FnExactLinkFrame_true).mono fun e W' hh => ?_
  obtain ⟨he, hb⟩ := hh
  exact ⟨_, he, Go.Kb.law_post (T := 4) hW rfl hfn (by kernel_rfl) (by kernel_rfl) Try.laidOut (by kernel_rfl) hb⟩

theorem FnExactLinkFrame_holds : Rows.FnExactLinkFrameSaid :=
  OpenClaim.holds_of_wide 8 Try.f8 rfl rfl rfl rfl rfl rfl rfl ⟨rfl, rfl, rfl, rfl, rfl⟩ rfl rfl rfl rfl rfl (by kernel_rfl) Try.func8 (by kernel_rfl)
    (of_decide_eq_true (by kernel_rfl)) (by unfold Func.isWrapper; first | (rw [if_pos (by decide +kernel)]; kernel_rfl) | (rw [if_neg (by decide +kernel)]; exact ⟨rfl, rfl⟩))
    (fun os started H enc _ => FnExactLinkFrame_lifted os started H enc)
end Go.Proofs.Ytfohiojijhnjlaa
