/- Each function of the law does what its abstract text does, over the program. -/
import Derived.Test.YtggbkpkapkcoeaaDoorKc
import Derived.Test.YtggbkpkapkcoeaaDoorExactTypedTextF1
import Derived.Test.YtggbkpkapkcoeaaDoorExactTypedTextF2
import Derived.Test.YtggbkpkapkcoeaaDoorExactTypedTextF3
import Derived.Test.YtggbkpkapkcoeaaDoorExactTypedTextF4
import Derived.Test.YtggbkpkapkcoeaaDoorExactTypedTextF5
import Derived.Test.YtggbkpkapkcoeaaDoorExactTypedTextF6
import Derived.Test.YtggbkpkapkcoeaaDoorExactTypedTextF7
import Derived.Test.YtggbkpkapkcoeaaDoorExactTypedTextF8
import Derived.Test.YtggbkpkapkcoeaaDoorExactTypedTextF9
import Derived.Test.YtggbkpkapkcoeaaDoorExactTypedTextF10
import Derived.Test.YtggbkpkapkcoeaaDoorExactTypedTextF11
import Derived.Test.YtggbkpkapkcoeaaDoorExactTypedTextF12
import Derived.Test.YtggbkpkapkcoeaaDoorExactTypedTextF13
import Derived.Test.YtggbkpkapkcoeaaDoorRows
import Derived.Test.YtggbkpkapkcoeaaDoorShelf
import Derived.Test.YtggbkpkapkcoeaaDoorKd
import Derived.KernelRfl
namespace Go.Kb
def TM : List (Nat × Nat) := [(2, 3), (1, 5), (16, 9), (6, 22), (12, 29)]
def FM : List (Nat × Nat) := [(251, 12), (258, 4), (273, 5), (254, 15), (259, 7), (275, 8), (1, 21), (260, 19), (261, 20), (262, 13), (356, 29), (357, 27), (358, 22), (359, 14), (405, 6), (153, 25), (263, 23), (202, 24), (264, 16), (372, 28), (373, 26), (374, 17), (403, 9), (239, 18), (265, 10), (280, 11), (406, 3)]
def GB : Nat → Prop := fun b => b = 0
def QW : World → Prop := fun w => ∃ m, w.cell? ⟨0, 0, none⟩ = some (.int .i64 m)
theorem hQs : ∀ w w' : World, (∀ b, GB b → w'.heap[b]? = w.heap[b]?) → QW w → QW w' := fun _ _ h ⟨m, hm⟩ => ⟨m, (cell_of_same (h 0 rfl)).trans hm⟩
theorem ext_strings_Split.sound (N : Nat) : Sound Go.Proofs.Tryd.prog (natTbl TM) GB QW 28 ext_strings_Split.sig (ext_strings_Split.fs N) := split_sound (T := 9) (fun s sep w ⟨m, hm⟩ h1 h2 => Go.Proofs.Tryd.strings_Split s sep m w h1 hm h2) N
theorem hmix : Go.Proofs.Tryd.prog.follows .mixedOrders = true := by kernel_rfl
theorem laws_szIntS.ok : funcOk (mkE Go.Proofs.Tryd.prog GB QW TM FM []) 12 laws_szIntS.x = true := by kernel_rfl
theorem laws_szIntS.sound (N : Nat) : Sound Go.Proofs.Tryd.prog (natTbl TM) GB QW 12 laws_szIntS.x.sig (laws_szIntS.fs N) := sound_of N (known_nil) hQs hmix laws_szIntS.ok
theorem laws_szReport.ok : funcOk (mkE Go.Proofs.Tryd.prog GB QW TM FM [(251, (laws_szIntS.x.sig, true))]) 4 laws_szReport.x = true := by kernel_rfl
theorem laws_szReport.sound (N : Nat) : Sound Go.Proofs.Tryd.prog (natTbl TM) GB QW 4 laws_szReport.x.sig (laws_szReport.fs N) := sound_of N (known_cons (fm := FM) (n := 251) (by kernel_rfl) (laws_szIntS.sound N) rfl (known_nil)) hQs hmix laws_szReport.ok
theorem laws_szReportS.ok : funcOk (mkE Go.Proofs.Tryd.prog GB QW TM FM [(258, (laws_szReport.x.sig, true))]) 5 laws_szReportS.x = true := by kernel_rfl
theorem laws_szReportS.sound (N : Nat) : Sound Go.Proofs.Tryd.prog (natTbl TM) GB QW 5 laws_szReportS.x.sig (laws_szReportS.fs N) := sound_of N (known_cons (fm := FM) (n := 258) (by kernel_rfl) (laws_szReport.sound N) rfl (known_nil)) hQs hmix laws_szReportS.ok
theorem laws_toIntS.ok : funcOk (mkE Go.Proofs.Tryd.prog GB QW TM FM []) 15 laws_toIntS.x = true := by kernel_rfl
theorem laws_toIntS.sound (N : Nat) : Sound Go.Proofs.Tryd.prog (natTbl TM) GB QW 15 laws_toIntS.x.sig (laws_toIntS.fs N) := sound_of N (known_nil) hQs hmix laws_toIntS.ok
theorem laws_toReport.ok : funcOk (mkE Go.Proofs.Tryd.prog GB QW TM FM [(254, (laws_toIntS.x.sig, true))]) 7 laws_toReport.x = true := by kernel_rfl
theorem laws_toReport.sound (N : Nat) : Sound Go.Proofs.Tryd.prog (natTbl TM) GB QW 7 laws_toReport.x.sig (laws_toReport.fs N) := sound_of N (known_cons (fm := FM) (n := 254) (by kernel_rfl) (laws_toIntS.sound N) rfl (known_nil)) hQs hmix laws_toReport.ok
theorem laws_toReportS.ok : funcOk (mkE Go.Proofs.Tryd.prog GB QW TM FM [(259, (laws_toReport.x.sig, true))]) 8 laws_toReportS.x = true := by kernel_rfl
theorem laws_toReportS.sound (N : Nat) : Sound Go.Proofs.Tryd.prog (natTbl TM) GB QW 8 laws_toReportS.x.sig (laws_toReportS.fs N) := sound_of N (known_cons (fm := FM) (n := 259) (by kernel_rfl) (laws_toReport.sound N) rfl (known_nil)) hQs hmix laws_toReportS.ok
theorem spec_l1In.ok : funcOk (mkE Go.Proofs.Tryd.prog GB QW TM FM []) 21 spec_l1In.x = true := by kernel_rfl
theorem spec_l1In.sound (N : Nat) : Sound Go.Proofs.Tryd.prog (natTbl TM) GB QW 21 spec_l1In.x.sig (spec_l1In.fs N) := sound_of N (known_nil) hQs hmix spec_l1In.ok
theorem spec_IsReport.ok : funcOk (mkE Go.Proofs.Tryd.prog GB QW TM FM [(1, (spec_l1In.x.sig, true))]) 19 spec_IsReport.x = true := by kernel_rfl
theorem spec_IsReport.sound (N : Nat) : Sound Go.Proofs.Tryd.prog (natTbl TM) GB QW 19 spec_IsReport.x.sig (spec_IsReport.fs N) := sound_of N (known_cons (fm := FM) (n := 1) (by kernel_rfl) (spec_l1In.sound N) rfl (known_nil)) hQs hmix spec_IsReport.ok
theorem spec_l12Has.ok : funcOk (mkE Go.Proofs.Tryd.prog GB QW TM FM []) 20 spec_l12Has.x = true := by kernel_rfl
theorem spec_l12Has.sound (N : Nat) : Sound Go.Proofs.Tryd.prog (natTbl TM) GB QW 20 spec_l12Has.x.sig (spec_l12Has.fs N) := sound_of N (known_nil) hQs hmix spec_l12Has.ok
theorem spec_NewKeys.ok : funcOk (mkE Go.Proofs.Tryd.prog GB QW TM FM [(260, (spec_IsReport.x.sig, true)), (261, (spec_l12Has.x.sig, true))]) 13 spec_NewKeys.x = true := by kernel_rfl
theorem spec_NewKeys.sound (N : Nat) : Sound Go.Proofs.Tryd.prog (natTbl TM) GB QW 13 spec_NewKeys.x.sig (spec_NewKeys.fs N) := sound_of N (known_cons (fm := FM) (n := 260) (by kernel_rfl) (spec_IsReport.sound N) rfl (known_cons (fm := FM) (n := 261) (by kernel_rfl) (spec_l12Has.sound N) rfl (known_nil))) hQs hmix spec_NewKeys.ok
theorem spec_SplitText.ok : funcOk (mkE Go.Proofs.Tryd.prog GB QW TM FM []) 29 spec_SplitText.x = true := by kernel_rfl
theorem spec_SplitText.sound (N : Nat) : Sound Go.Proofs.Tryd.prog (natTbl TM) GB QW 29 spec_SplitText.x.sig (spec_SplitText.fs N) := sound_of N (known_nil) hQs hmix spec_SplitText.ok
theorem spec_l5Names.ok : funcOk (mkE Go.Proofs.Tryd.prog GB QW TM FM [(356, (spec_SplitText.x.sig, true))]) 27 spec_l5Names.x = true := by kernel_rfl
theorem spec_l5Names.sound (N : Nat) : Sound Go.Proofs.Tryd.prog (natTbl TM) GB QW 27 spec_l5Names.x.sig (spec_l5Names.fs N) := sound_of N (known_cons (fm := FM) (n := 356) (by kernel_rfl) (spec_SplitText.sound N) rfl (known_nil)) hQs hmix spec_l5Names.ok
theorem spec_CodeName.ok : funcOk (mkE Go.Proofs.Tryd.prog GB QW TM FM [(1, (spec_l1In.x.sig, true)), (357, (spec_l5Names.x.sig, true))]) 22 spec_CodeName.x = true := by kernel_rfl
theorem spec_CodeName.sound (N : Nat) : Sound Go.Proofs.Tryd.prog (natTbl TM) GB QW 22 spec_CodeName.x.sig (spec_CodeName.fs N) := sound_of N (known_cons (fm := FM) (n := 1) (by kernel_rfl) (spec_l1In.sound N) rfl (known_cons (fm := FM) (n := 357) (by kernel_rfl) (spec_l5Names.sound N) rfl (known_nil))) hQs hmix spec_CodeName.ok
theorem spec_CharOf.ok : funcOk (mkE Go.Proofs.Tryd.prog GB QW TM FM [(358, (spec_CodeName.x.sig, true)), (1, (spec_l1In.x.sig, true))]) 14 spec_CharOf.x = true := by kernel_rfl
theorem spec_CharOf.sound (N : Nat) : Sound Go.Proofs.Tryd.prog (natTbl TM) GB QW 14 spec_CharOf.x.sig (spec_CharOf.fs N) := sound_of N (known_cons (fm := FM) (n := 358) (by kernel_rfl) (spec_CodeName.sound N) rfl (known_cons (fm := FM) (n := 1) (by kernel_rfl) (spec_l1In.sound N) rfl (known_nil))) hQs hmix spec_CharOf.ok
theorem spec_TypedText.ok : funcOk (mkE Go.Proofs.Tryd.prog GB QW TM FM [(359, (spec_CharOf.x.sig, true)), (262, (spec_NewKeys.x.sig, true))]) 6 spec_TypedText.x = true := by kernel_rfl
theorem spec_TypedText.sound (N : Nat) : Sound Go.Proofs.Tryd.prog (natTbl TM) GB QW 6 spec_TypedText.x.sig (spec_TypedText.fs N) := sound_of N (known_cons (fm := FM) (n := 359) (by kernel_rfl) (spec_CharOf.sound N) rfl (known_cons (fm := FM) (n := 262) (by kernel_rfl) (spec_NewKeys.sound N) rfl (known_nil))) hQs hmix spec_TypedText.ok
theorem impl_isCode.ok : funcOk (mkE Go.Proofs.Tryd.prog GB QW TM FM []) 25 impl_isCode.x = true := by kernel_rfl
theorem impl_isCode.sound (N : Nat) : Sound Go.Proofs.Tryd.prog (natTbl TM) GB QW 25 impl_isCode.x.sig (impl_isCode.fs N) := sound_of N (known_nil) hQs hmix impl_isCode.ok
theorem impl_IsReport.ok : funcOk (mkE Go.Proofs.Tryd.prog GB QW TM FM [(153, (impl_isCode.x.sig, true))]) 23 impl_IsReport.x = true := by kernel_rfl
theorem impl_IsReport.sound (N : Nat) : Sound Go.Proofs.Tryd.prog (natTbl TM) GB QW 23 impl_IsReport.x.sig (impl_IsReport.fs N) := sound_of N (known_cons (fm := FM) (n := 153) (by kernel_rfl) (impl_isCode.sound N) rfl (known_nil)) hQs hmix impl_IsReport.ok
theorem impl_hasInt.ok : funcOk (mkE Go.Proofs.Tryd.prog GB QW TM FM []) 24 impl_hasInt.x = true := by kernel_rfl
theorem impl_hasInt.sound (N : Nat) : Sound Go.Proofs.Tryd.prog (natTbl TM) GB QW 24 impl_hasInt.x.sig (impl_hasInt.fs N) := sound_of N (known_nil) hQs hmix impl_hasInt.ok
theorem impl_NewKeys.ok : funcOk (mkE Go.Proofs.Tryd.prog GB QW TM FM [(263, (impl_IsReport.x.sig, true)), (202, (impl_hasInt.x.sig, true))]) 16 impl_NewKeys.x = true := by kernel_rfl
theorem impl_NewKeys.sound (N : Nat) : Sound Go.Proofs.Tryd.prog (natTbl TM) GB QW 16 impl_NewKeys.x.sig (impl_NewKeys.fs N) := sound_of N (known_cons (fm := FM) (n := 263) (by kernel_rfl) (impl_IsReport.sound N) rfl (known_cons (fm := FM) (n := 202) (by kernel_rfl) (impl_hasInt.sound N) rfl (known_nil))) hQs hmix impl_NewKeys.ok
theorem impl_CodeName.ok : funcOk (mkE Go.Proofs.Tryd.prog GB QW TM FM [(372, (ext_strings_Split.sig, true))]) 26 impl_CodeName.x = true := by kernel_rfl
theorem impl_CodeName.sound (N : Nat) : Sound Go.Proofs.Tryd.prog (natTbl TM) GB QW 26 impl_CodeName.x.sig (impl_CodeName.fs N) := sound_of N (known_cons (fm := FM) (n := 372) (by kernel_rfl) (ext_strings_Split.sound N) rfl (known_nil)) hQs hmix impl_CodeName.ok
theorem impl_CharOf.ok : funcOk (mkE Go.Proofs.Tryd.prog GB QW TM FM [(373, (impl_CodeName.x.sig, true)), (153, (impl_isCode.x.sig, true))]) 17 impl_CharOf.x = true := by kernel_rfl
theorem impl_CharOf.sound (N : Nat) : Sound Go.Proofs.Tryd.prog (natTbl TM) GB QW 17 impl_CharOf.x.sig (impl_CharOf.fs N) := sound_of N (known_cons (fm := FM) (n := 373) (by kernel_rfl) (impl_CodeName.sound N) rfl (known_cons (fm := FM) (n := 153) (by kernel_rfl) (impl_isCode.sound N) rfl (known_nil))) hQs hmix impl_CharOf.ok
theorem impl_TypedText.ok : funcOk (mkE Go.Proofs.Tryd.prog GB QW TM FM [(374, (impl_CharOf.x.sig, true)), (264, (impl_NewKeys.x.sig, true))]) 9 impl_TypedText.x = true := by kernel_rfl
theorem impl_TypedText.sound (N : Nat) : Sound Go.Proofs.Tryd.prog (natTbl TM) GB QW 9 impl_TypedText.x.sig (impl_TypedText.fs N) := sound_of N (known_cons (fm := FM) (n := 374) (by kernel_rfl) (impl_CharOf.sound N) rfl (known_cons (fm := FM) (n := 264) (by kernel_rfl) (impl_NewKeys.sound N) rfl (known_nil))) hQs hmix impl_TypedText.ok
theorem laws_eqIntS.ok : funcOk (mkE Go.Proofs.Tryd.prog GB QW TM FM []) 18 laws_eqIntS.x = true := by kernel_rfl
theorem laws_eqIntS.sound (N : Nat) : Sound Go.Proofs.Tryd.prog (natTbl TM) GB QW 18 laws_eqIntS.x.sig (laws_eqIntS.fs N) := sound_of N (known_nil) hQs hmix laws_eqIntS.ok
theorem laws_eqReport.ok : funcOk (mkE Go.Proofs.Tryd.prog GB QW TM FM [(239, (laws_eqIntS.x.sig, true))]) 10 laws_eqReport.x = true := by kernel_rfl
theorem laws_eqReport.sound (N : Nat) : Sound Go.Proofs.Tryd.prog (natTbl TM) GB QW 10 laws_eqReport.x.sig (laws_eqReport.fs N) := sound_of N (known_cons (fm := FM) (n := 239) (by kernel_rfl) (laws_eqIntS.sound N) rfl (known_nil)) hQs hmix laws_eqReport.ok
theorem laws_eqReportS.ok : funcOk (mkE Go.Proofs.Tryd.prog GB QW TM FM [(265, (laws_eqReport.x.sig, true))]) 11 laws_eqReportS.x = true := by kernel_rfl
theorem laws_eqReportS.sound (N : Nat) : Sound Go.Proofs.Tryd.prog (natTbl TM) GB QW 11 laws_eqReportS.x.sig (laws_eqReportS.fs N) := sound_of N (known_cons (fm := FM) (n := 265) (by kernel_rfl) (laws_eqReport.sound N) rfl (known_nil)) hQs hmix laws_eqReportS.ok
theorem laws_FnExactTypedText.ok : funcOk (mkE Go.Proofs.Tryd.prog GB QW TM FM [(403, (impl_TypedText.x.sig, true)), (265, (laws_eqReport.x.sig, true)), (280, (laws_eqReportS.x.sig, true)), (258, (laws_szReport.x.sig, true)), (273, (laws_szReportS.x.sig, true)), (259, (laws_toReport.x.sig, true)), (275, (laws_toReportS.x.sig, true)), (405, (spec_TypedText.x.sig, true))]) 3 laws_FnExactTypedText.x = true := by kernel_rfl
theorem laws_FnExactTypedText.sound (N : Nat) : Sound Go.Proofs.Tryd.prog (natTbl TM) GB QW 3 laws_FnExactTypedText.x.sig (laws_FnExactTypedText.fs N) := sound_of N (known_cons (fm := FM) (n := 403) (by kernel_rfl) (impl_TypedText.sound N) rfl (known_cons (fm := FM) (n := 265) (by kernel_rfl) (laws_eqReport.sound N) rfl (known_cons (fm := FM) (n := 280) (by kernel_rfl) (laws_eqReportS.sound N) rfl (known_cons (fm := FM) (n := 258) (by kernel_rfl) (laws_szReport.sound N) rfl (known_cons (fm := FM) (n := 273) (by kernel_rfl) (laws_szReportS.sound N) rfl (known_cons (fm := FM) (n := 259) (by kernel_rfl) (laws_toReport.sound N) rfl (known_cons (fm := FM) (n := 275) (by kernel_rfl) (laws_toReportS.sound N) rfl (known_cons (fm := FM) (n := 405) (by kernel_rfl) (spec_TypedText.sound N) rfl (known_nil))))))))) hQs hmix laws_FnExactTypedText.ok
end Go.Kb
