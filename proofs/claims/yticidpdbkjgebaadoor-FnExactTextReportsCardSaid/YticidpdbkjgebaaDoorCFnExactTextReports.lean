/- Each function of the law does what its abstract text does, over the program. -/
import Derived.Test.YticidpdbkjgebaaDoorKc
import Derived.Test.YticidpdbkjgebaaDoorExactTextReportsF1
import Derived.Test.YticidpdbkjgebaaDoorExactTextReportsF2
import Derived.Test.YticidpdbkjgebaaDoorExactTextReportsF3
import Derived.Test.YticidpdbkjgebaaDoorExactTextReportsF4
import Derived.Test.YticidpdbkjgebaaDoorExactTextReportsF5
import Derived.Test.YticidpdbkjgebaaDoorExactTextReportsF6
import Derived.Test.YticidpdbkjgebaaDoorExactTextReportsF7
import Derived.Test.YticidpdbkjgebaaDoorExactTextReportsF8
import Derived.Test.YticidpdbkjgebaaDoorExactTextReportsF9
import Derived.Test.YticidpdbkjgebaaDoorExactTextReportsF22
import Derived.Test.YticidpdbkjgebaaDoorExactTextReportsF23
import Derived.Test.YticidpdbkjgebaaDoorRows
import Derived.Test.YticidpdbkjgebaaDoorShelf
import Derived.Test.YticidpdbkjgebaaDoorKd
import Derived.KernelRfl
namespace Go.Kb
def TM : List (Nat × Nat) := [(2, 3), (1, 5), (16, 9), (6, 30), (12, 32)]
def FM : List (Nat × Nat) := [(1, 17), (356, 23), (357, 21), (358, 18), (359, 14), (376, 9), (396, 4), (153, 19), (372, 22), (373, 20), (374, 15), (377, 10), (397, 5), (239, 16), (265, 11), (280, 6), (242, 12), (337, 7), (245, 13), (340, 8), (398, 3)]
def GB : Nat → Prop := fun b => b = 0
def QW : World → Prop := fun w => ∃ m, w.cell? ⟨0, 0, none⟩ = some (.int .i64 m)
theorem hQs : ∀ w w' : World, (∀ b, GB b → w'.heap[b]? = w.heap[b]?) → QW w → QW w' := fun _ _ h ⟨m, hm⟩ => ⟨m, (cell_of_same (h 0 rfl)).trans hm⟩
theorem ext_strings_Split.sound (N : Nat) : Sound Go.Proofs.Tryd.prog (natTbl TM) GB QW 22 ext_strings_Split.sig (ext_strings_Split.fs N) := split_sound (T := 9) (fun s sep w ⟨m, hm⟩ h1 h2 => Go.Proofs.Tryd.strings_Split s sep m w h1 hm h2) N
theorem hmix : Go.Proofs.Tryd.prog.follows .mixedOrders = true := by kernel_rfl
theorem spec_l1In.ok : funcOk (mkE Go.Proofs.Tryd.prog GB QW TM FM []) 17 spec_l1In.x = true := by kernel_rfl
theorem spec_l1In.sound (N : Nat) : Sound Go.Proofs.Tryd.prog (natTbl TM) GB QW 17 spec_l1In.x.sig (spec_l1In.fs N) := sound_of N (known_nil) hQs hmix spec_l1In.ok
theorem spec_SplitText.ok : funcOk (mkE Go.Proofs.Tryd.prog GB QW TM FM []) 23 spec_SplitText.x = true := by kernel_rfl
theorem spec_SplitText.sound (N : Nat) : Sound Go.Proofs.Tryd.prog (natTbl TM) GB QW 23 spec_SplitText.x.sig (spec_SplitText.fs N) := sound_of N (known_nil) hQs hmix spec_SplitText.ok
theorem spec_l5Names.ok : funcOk (mkE Go.Proofs.Tryd.prog GB QW TM FM [(356, (spec_SplitText.x.sig, true))]) 21 spec_l5Names.x = true := by kernel_rfl
theorem spec_l5Names.sound (N : Nat) : Sound Go.Proofs.Tryd.prog (natTbl TM) GB QW 21 spec_l5Names.x.sig (spec_l5Names.fs N) := sound_of N (known_cons (fm := FM) (n := 356) (by kernel_rfl) (spec_SplitText.sound N) rfl (known_nil)) hQs hmix spec_l5Names.ok
theorem spec_CodeName.ok : funcOk (mkE Go.Proofs.Tryd.prog GB QW TM FM [(1, (spec_l1In.x.sig, true)), (357, (spec_l5Names.x.sig, true))]) 18 spec_CodeName.x = true := by kernel_rfl
theorem spec_CodeName.sound (N : Nat) : Sound Go.Proofs.Tryd.prog (natTbl TM) GB QW 18 spec_CodeName.x.sig (spec_CodeName.fs N) := sound_of N (known_cons (fm := FM) (n := 1) (by kernel_rfl) (spec_l1In.sound N) rfl (known_cons (fm := FM) (n := 357) (by kernel_rfl) (spec_l5Names.sound N) rfl (known_nil))) hQs hmix spec_CodeName.ok
theorem spec_CharOf.ok : funcOk (mkE Go.Proofs.Tryd.prog GB QW TM FM [(358, (spec_CodeName.x.sig, true)), (1, (spec_l1In.x.sig, true))]) 14 spec_CharOf.x = true := by kernel_rfl
theorem spec_CharOf.sound (N : Nat) : Sound Go.Proofs.Tryd.prog (natTbl TM) GB QW 14 spec_CharOf.x.sig (spec_CharOf.fs N) := sound_of N (known_cons (fm := FM) (n := 358) (by kernel_rfl) (spec_CodeName.sound N) rfl (known_cons (fm := FM) (n := 1) (by kernel_rfl) (spec_l1In.sound N) rfl (known_nil))) hQs hmix spec_CharOf.ok
theorem spec_KeyOf.ok : funcOk (mkE Go.Proofs.Tryd.prog GB QW TM FM [(359, (spec_CharOf.x.sig, true))]) 9 spec_KeyOf.x = true := by kernel_rfl
theorem spec_KeyOf.sound (N : Nat) : Sound Go.Proofs.Tryd.prog (natTbl TM) GB QW 9 spec_KeyOf.x.sig (spec_KeyOf.fs N) := sound_of N (known_cons (fm := FM) (n := 359) (by kernel_rfl) (spec_CharOf.sound N) rfl (known_nil)) hQs hmix spec_KeyOf.ok
theorem spec_TextReports.ok : funcOk (mkE Go.Proofs.Tryd.prog GB QW TM FM [(376, (spec_KeyOf.x.sig, true))]) 4 spec_TextReports.x = true := by kernel_rfl
theorem spec_TextReports.sound (N : Nat) : Sound Go.Proofs.Tryd.prog (natTbl TM) GB QW 4 spec_TextReports.x.sig (spec_TextReports.fs N) := sound_of N (known_cons (fm := FM) (n := 376) (by kernel_rfl) (spec_KeyOf.sound N) rfl (known_nil)) hQs hmix spec_TextReports.ok
theorem impl_isCode.ok : funcOk (mkE Go.Proofs.Tryd.prog GB QW TM FM []) 19 impl_isCode.x = true := by kernel_rfl
theorem impl_isCode.sound (N : Nat) : Sound Go.Proofs.Tryd.prog (natTbl TM) GB QW 19 impl_isCode.x.sig (impl_isCode.fs N) := sound_of N (known_nil) hQs hmix impl_isCode.ok
theorem impl_CodeName.ok : funcOk (mkE Go.Proofs.Tryd.prog GB QW TM FM [(372, (ext_strings_Split.sig, true))]) 20 impl_CodeName.x = true := by kernel_rfl
theorem impl_CodeName.sound (N : Nat) : Sound Go.Proofs.Tryd.prog (natTbl TM) GB QW 20 impl_CodeName.x.sig (impl_CodeName.fs N) := sound_of N (known_cons (fm := FM) (n := 372) (by kernel_rfl) (ext_strings_Split.sound N) rfl (known_nil)) hQs hmix impl_CodeName.ok
theorem impl_CharOf.ok : funcOk (mkE Go.Proofs.Tryd.prog GB QW TM FM [(373, (impl_CodeName.x.sig, true)), (153, (impl_isCode.x.sig, true))]) 15 impl_CharOf.x = true := by kernel_rfl
theorem impl_CharOf.sound (N : Nat) : Sound Go.Proofs.Tryd.prog (natTbl TM) GB QW 15 impl_CharOf.x.sig (impl_CharOf.fs N) := sound_of N (known_cons (fm := FM) (n := 373) (by kernel_rfl) (impl_CodeName.sound N) rfl (known_cons (fm := FM) (n := 153) (by kernel_rfl) (impl_isCode.sound N) rfl (known_nil))) hQs hmix impl_CharOf.ok
theorem impl_KeyOf.ok : funcOk (mkE Go.Proofs.Tryd.prog GB QW TM FM [(374, (impl_CharOf.x.sig, true))]) 10 impl_KeyOf.x = true := by kernel_rfl
theorem impl_KeyOf.sound (N : Nat) : Sound Go.Proofs.Tryd.prog (natTbl TM) GB QW 10 impl_KeyOf.x.sig (impl_KeyOf.fs N) := sound_of N (known_cons (fm := FM) (n := 374) (by kernel_rfl) (impl_CharOf.sound N) rfl (known_nil)) hQs hmix impl_KeyOf.ok
theorem impl_TextReportsh.ok : funcOk (mkE Go.Proofs.Tryd.prog GB QW TM FM [(377, (impl_KeyOf.x.sig, true))]) 5 impl_TextReportsh.x = true := by kernel_rfl
theorem impl_TextReportsh.sound (N : Nat) : Sound Go.Proofs.Tryd.prog (natTbl TM) GB QW 5 impl_TextReportsh.x.sig (impl_TextReportsh.fs N) := sound_ofH N (known_cons (fm := FM) (n := 377) (by kernel_rfl) (impl_KeyOf.sound N) rfl (known_nil)) hQs hmix impl_TextReportsh.ok
theorem laws_eqIntS.ok : funcOk (mkE Go.Proofs.Tryd.prog GB QW TM FM []) 16 laws_eqIntS.x = true := by kernel_rfl
theorem laws_eqIntS.sound (N : Nat) : Sound Go.Proofs.Tryd.prog (natTbl TM) GB QW 16 laws_eqIntS.x.sig (laws_eqIntS.fs N) := sound_of N (known_nil) hQs hmix laws_eqIntS.ok
theorem laws_eqReport.ok : funcOk (mkE Go.Proofs.Tryd.prog GB QW TM FM [(239, (laws_eqIntS.x.sig, true))]) 11 laws_eqReport.x = true := by kernel_rfl
theorem laws_eqReport.sound (N : Nat) : Sound Go.Proofs.Tryd.prog (natTbl TM) GB QW 11 laws_eqReport.x.sig (laws_eqReport.fs N) := sound_of N (known_cons (fm := FM) (n := 239) (by kernel_rfl) (laws_eqIntS.sound N) rfl (known_nil)) hQs hmix laws_eqReport.ok
theorem laws_eqReportS.ok : funcOk (mkE Go.Proofs.Tryd.prog GB QW TM FM [(265, (laws_eqReport.x.sig, true))]) 6 laws_eqReportS.x = true := by kernel_rfl
theorem laws_eqReportS.sound (N : Nat) : Sound Go.Proofs.Tryd.prog (natTbl TM) GB QW 6 laws_eqReportS.x.sig (laws_eqReportS.fs N) := sound_of N (known_cons (fm := FM) (n := 265) (by kernel_rfl) (laws_eqReport.sound N) rfl (known_nil)) hQs hmix laws_eqReportS.ok
theorem laws_markIntS.ok : funcOk (mkE Go.Proofs.Tryd.prog GB QW TM FM []) 12 laws_markIntS.x = true := by kernel_rfl
theorem laws_markIntS.sound (N : Nat) : Sound Go.Proofs.Tryd.prog (natTbl TM) GB QW 12 laws_markIntS.x.sig (laws_markIntS.fs N) := sound_of N (known_nil) hQs hmix laws_markIntS.ok
theorem laws_markReportS.ok : funcOk (mkE Go.Proofs.Tryd.prog GB QW TM FM [(242, (laws_markIntS.x.sig, false))]) 7 laws_markReportS.x = true := by kernel_rfl
theorem laws_markReportS.sound (N : Nat) : Sound Go.Proofs.Tryd.prog (natTbl TM) GB QW 7 laws_markReportS.x.sig (laws_markReportS.fs N) := sound_ofH N (known_cons (fm := FM) (n := 242) (by kernel_rfl) (laws_markIntS.sound N) rfl (known_nil)) hQs hmix laws_markReportS.ok
theorem laws_heldIntS.ok : funcOk (mkE Go.Proofs.Tryd.prog GB QW TM FM []) 13 laws_heldIntS.x = true := by kernel_rfl
theorem laws_heldIntS.sound (N : Nat) : Sound Go.Proofs.Tryd.prog (natTbl TM) GB QW 13 laws_heldIntS.x.sig (laws_heldIntS.fs N) := sound_of N (known_nil) hQs hmix laws_heldIntS.ok
theorem laws_heldReportS.ok : funcOk (mkE Go.Proofs.Tryd.prog GB QW TM FM [(245, (laws_heldIntS.x.sig, true))]) 8 laws_heldReportS.x = true := by kernel_rfl
theorem laws_heldReportS.sound (N : Nat) : Sound Go.Proofs.Tryd.prog (natTbl TM) GB QW 8 laws_heldReportS.x.sig (laws_heldReportS.fs N) := sound_of N (known_cons (fm := FM) (n := 245) (by kernel_rfl) (laws_heldIntS.sound N) rfl (known_nil)) hQs hmix laws_heldReportS.ok
theorem laws_FnExactTextReports.ok : funcOk (mkE Go.Proofs.Tryd.prog GB QW TM FM [(397, (impl_TextReportsh.x.sig, true)), (280, (laws_eqReportS.x.sig, true)), (340, (laws_heldReportS.x.sig, true)), (337, (laws_markReportS.x.sig, false)), (396, (spec_TextReports.x.sig, true))]) 3 laws_FnExactTextReports.x = true := by kernel_rfl
theorem laws_FnExactTextReports.sound (N : Nat) : Sound Go.Proofs.Tryd.prog (natTbl TM) GB QW 3 laws_FnExactTextReports.x.sig (laws_FnExactTextReports.fs N) := sound_of N (known_cons (fm := FM) (n := 397) (by kernel_rfl) (impl_TextReportsh.sound N) rfl (known_cons (fm := FM) (n := 280) (by kernel_rfl) (laws_eqReportS.sound N) rfl (known_cons (fm := FM) (n := 340) (by kernel_rfl) (laws_heldReportS.sound N) rfl (known_cons (fm := FM) (n := 337) (by kernel_rfl) (laws_markReportS.sound N) rfl (known_cons (fm := FM) (n := 396) (by kernel_rfl) (spec_TextReports.sound N) rfl (known_nil)))))) hQs hmix laws_FnExactTextReports.ok
end Go.Kb
