/- For every input the law FnExactTextReports answers true, and its arguments read as before. No condition. -/
import Derived.Test.YticidpdbkjgebaaDoorCFnExactTextReports
import Derived.Test.YticidpdbkjgebaaDoorExactTextReportsP83
import Derived.Test.YticidpdbkjgebaaDoorKd
import Derived.Test.YticidpdbkjgebaaDoorCards
import Derived.Test.YticidpdbkjgebaaDoorTie
import Derived.ProofKit
import Derived.OpenShut
import Derived.LaidMore
import Derived.Lay
import Derived.SevenTiedAt
import Derived.Stop.Joined
import Derived.KernelRfl
namespace Go.Kb
theorem laws_FnExactTextReports_true (x : List UInt8) (_ : Wf laws_FnExactTextReports.x.arg x) : ∃ N, laws_FnExactTextReports.F N x = some true := ⟨2000000, ExactTextReports_F x⟩

end Go.Kb
namespace Go.Proofs.YticidpdbkjgebaaDoor
open Go.ChangeShapes Go.WideShapes Go.ChangeAt Go.RowKit Go.Kb
theorem Tryd.own : ownKnob Tryd.prog.godebug = none := by kernel_rfl
theorem Tryd.laidOut : laidOutB Tryd.prog = true := by kernel_rfl

/-- what a start holds to, over the same program by its other name -/
theorem hval_of {P Q : Program} (e : P = Q) {W : World} {r : Reach} {base : Nat} {ps : Array TypeId} {args : Array Value} (h : ∀ (j : Nat) (t : TypeId) (v : Value), ps[j]? = some t → args[j]? = some v → Value.okWide P W r base t v) :
    ∀ (j : Nat) (T : TypeId) (v : Value), ps.toList[j]? = some T → args[j]? = some v → Value.okWide Q W r base T v := by
  subst e
  intro j T v h1 h2
  exact @h j T v (Array.getElem?_toList.symm.trans h1) h2

/-- what the law's run gives, for a row -/
theorem FnExactTextReports_lifted (os : Os) (started : os.Started) (H : Type) (enc : TypeId × Value → H) :
    ReturnsInHanded {} Tryd.checked os 3 .any (fun w args => (Rows.fnExactTextReportsSpec.pre enc Tryd.prog Tryd.f3 Rows.fnExactTextReportsRow.domain false w args ∧ laidMetH Tryd.prog Rows.fnExactTextReportsRow.laid w) ∧ sizedMet enc Tryd.prog Tryd.f3 (OpenSpec.ofChange Rows.fnExactTextReportsSpec) false w args)
      (Rows.fnExactTextReportsSpec.post enc Tryd.prog Tryd.f3 false true false false) := by
  refine Go.Kb.returns_laid_shaped (C := Tryd.checked) (X := fun w _ => laidMetH Tryd.prog Rows.fnExactTextReportsRow.laid w) Tryd.own started (by kernel_rfl) Tryd.func3
    (ChangeSpec.witness_shaped (enc := enc) (C := Tryd.checked) (os := os) (X := fun w _ => laidMetH Tryd.prog Rows.fnExactTextReportsRow.laid w) false (World.laidAll Tryd.prog os Rows.fnExactTextReportsRow.laid) #[.string ⟨#[]⟩] 12 (World.laidAll_os _ _ _)
      (World.shaped_of_ZipB (by kernel_rfl) (by kernel_rfl)) (by kernel_rfl) (by kernel_rfl) (by kernel_rfl)
      (by rw [MakeChecks.laidMetH_plain _ _ _ (by kernel_rfl)]; exact laidMet_laidAll _ (by kernel_rfl) (by kernel_rfl))) ?_
  intro W base args ds gs before hval0 hW hsh
  have hQ : Go.Kb.QW W := Tryd.laysM146.s1_3 W hsh
  have hP : Tryd.checked.prog = Tryd.prog := by kernel_rfl
  have hval := @hval_of _ _ hP _ _ _ _ _ @hval0
  have hW' : DataW.Whole enc Tryd.prog Tryd.f3.params.toList Rows.fnExactTextReportsSpec.vars false W args.toList ds gs before := hW
  obtain ⟨p, q, hA, hV, _, _, _⟩ := hW'
  have hA : DataW.TrodAll enc Tryd.prog W 0 (fun _ => true) true Tryd.f3.params.toList args.toList ds p := hA
  have hgs : gs = [] := by
    cases gs with
    | nil => rfl
    | cons _ _ => exact hV.elim
  subst hgs
  have hfn : Rows.fnExactTextReportsSpec.fn H (ds ++ []) = { results := [.lit (.bool true)], args := ds } := by
    have hlen := Go.Kb.trodAll_len hA
    have hl : Tryd.f3.params.toList.length = 1 := by kernel_rfl
    rw [hl] at hlen
    match ds, hlen with
    | [d1], _ => rfl
  refine (Go.Kb.root_calls (A := Go.Kb.laws_FnExactTextReports.x.arg) (G := Go.Kb.laws_FnExactTextReports.F) (GB := Go.Kb.GB) (QW := Go.Kb.QW) (fun b hb => by have hb : b = 0 := hb; subst hb; obtain ⟨m, hm⟩ := hQ; exact Go.Kb.size_of_cell hm) hQ (fun N => Go.Kb.laws_FnExactTextReports.sound N) (Ts := Tryd.f3.params.toList) (by kernel_rfl) rfl rfl @hval hA laws_FnExactTextReports_true).mono fun e W' hh => ?_
  obtain ⟨he, hb⟩ := hh
  exact ⟨_, he, Go.Kb.law_post (T := 4) hW rfl hfn (by kernel_rfl) (by kernel_rfl) Tryd.laidOut (by kernel_rfl) hb⟩

theorem FnExactTextReports_row : Rows.FnExactTextReportsSaid :=
  OpenClaim.holds_of_wide 3 Tryd.f3 rfl rfl rfl rfl rfl rfl rfl ⟨rfl, rfl, rfl, rfl, rfl⟩ rfl rfl rfl rfl rfl (by kernel_rfl) Tryd.func3 (by kernel_rfl)
    (of_decide_eq_true (by kernel_rfl)) (by unfold Func.isWrapper; first | (rw [if_pos (by decide +kernel)]; kernel_rfl) | (rw [if_neg (by decide +kernel)]; exact ⟨rfl, rfl⟩))
    (fun os started H enc _ => FnExactTextReports_lifted os started H enc)

/-- The card: the row, its listed variables tied to the program's text (the tie is given). -/
theorem FnExactTextReports_holds : Rows.FnExactTextReportsCardSaid :=
  Claim7.holds_tied_plain_at .later [] [.data, .pinned] true (true, "a5a948392e6649fbedb9f226d8a5faab14ed3827b4e6beb817540404b835bd3b") false FnExactTextReports_row (fun _ h => by cases h) (by kernel_rfl) (fun _ h => by cases h) fnExactTextReports_row_tie rfl ⟨rfl, rfl⟩ (by kernel_rfl) rfl
    (fun f fn hf hfn => by
      obtain rfl : f = 3 := Option.some.inj ((show Tryd.prog.funcNamed Rows.fnExactTextReportsRow.func = some 3 by kernel_rfl).symm.trans hf) |>.symm
      obtain rfl : fn = Tryd.f3 := (Option.some.inj (Tryd.func3.symm.trans hfn)).symm
      exact ⟨by kernel_rfl, fun j t ht => by
        rw [show Tryd.f3.params = #[9] by kernel_rfl] at ht
        have hm : t ∈ [9] := by simpa using Array.mem_of_getElem? ht
        have hall : ([9].all fun u => !Tryd.prog.wantsStandIn u) = true := by kernel_rfl
        exact (show Tryd.prog.wantsStandIn t = false by simpa using List.all_eq_true.1 hall t hm)⟩)
    (by kernel_rfl)
end Go.Proofs.YticidpdbkjgebaaDoor
