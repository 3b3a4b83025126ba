/- Each function of the law does what its abstract text does, over the program. -/
import Derived.Test.YtipjdpnpahhndaaDoorKc
import Derived.Test.YtipjdpnpahhndaaDoorExactTextMacroF1
import Derived.Test.YtipjdpnpahhndaaDoorExactTextMacroF2
import Derived.Test.YtipjdpnpahhndaaDoorExactTextMacroF3
import Derived.Test.YtipjdpnpahhndaaDoorExactTextMacroF4
import Derived.Test.YtipjdpnpahhndaaDoorExactTextMacroF5
import Derived.Test.YtipjdpnpahhndaaDoorExactTextMacroF6
import Derived.Test.YtipjdpnpahhndaaDoorExactTextMacroF7
import Derived.Test.YtipjdpnpahhndaaDoorExactTextMacroF8
import Derived.Test.YtipjdpnpahhndaaDoorExactTextMacroF9
import Derived.Test.YtipjdpnpahhndaaDoorRows
import Derived.Test.YtipjdpnpahhndaaDoorShelf
import Derived.Test.YtipjdpnpahhndaaDoorKd
import Derived.KernelRfl
namespace Go.Kb
def TM : List (Nat × Nat) := [(2, 3), (1, 5), (16, 9), (11, 27), (6, 43), (12, 45), (10, 64), (14, 73), (8, 78), (15, 96)]
def FM : List (Nat × Nat) := [(1, 36), (356, 77), (357, 65), (358, 37), (359, 9), (376, 11), (387, 13), (153, 38), (372, 66), (373, 39), (374, 10), (377, 12), (388, 14), (389, 40), (390, 15), (391, 16), (392, 17), (393, 5)]
def GB : Nat → Prop := fun b => b = 0
def QW : World → Prop := fun w => ∃ m, w.cell? ⟨0, 0, none⟩ = some (.int .i64 m)
theorem hQs : ∀ w w' : World, (∀ b, GB b → w'.heap[b]? = w.heap[b]?) → QW w → QW w' := fun _ _ h ⟨m, hm⟩ => ⟨m, (cell_of_same (h 0 rfl)).trans hm⟩
theorem ext_strings_Split.sound (N : Nat) : Sound Go.Proofs.Tryd.prog (natTbl TM) GB QW 66 ext_strings_Split.sig (ext_strings_Split.fs N) := split_sound (T := 9) (fun s sep w ⟨m, hm⟩ h1 h2 => Go.Proofs.Tryd.strings_Split s sep m w h1 hm h2) N
theorem hmix : Go.Proofs.Tryd.prog.follows .mixedOrders = true := by kernel_rfl
theorem spec_l1In.ok : funcOk (mkE Go.Proofs.Tryd.prog GB QW TM FM []) 36 spec_l1In.x = true := by kernel_rfl
theorem spec_l1In.sound (N : Nat) : Sound Go.Proofs.Tryd.prog (natTbl TM) GB QW 36 spec_l1In.x.sig (spec_l1In.fs N) := sound_of N (known_nil) hQs hmix spec_l1In.ok
theorem spec_SplitText.ok : funcOk (mkE Go.Proofs.Tryd.prog GB QW TM FM []) 77 spec_SplitText.x = true := by kernel_rfl
theorem spec_SplitText.sound (N : Nat) : Sound Go.Proofs.Tryd.prog (natTbl TM) GB QW 77 spec_SplitText.x.sig (spec_SplitText.fs N) := sound_of N (known_nil) hQs hmix spec_SplitText.ok
theorem spec_l5Names.ok : funcOk (mkE Go.Proofs.Tryd.prog GB QW TM FM [(356, (spec_SplitText.x.sig, true))]) 65 spec_l5Names.x = true := by kernel_rfl
theorem spec_l5Names.sound (N : Nat) : Sound Go.Proofs.Tryd.prog (natTbl TM) GB QW 65 spec_l5Names.x.sig (spec_l5Names.fs N) := sound_of N (known_cons (fm := FM) (n := 356) (by kernel_rfl) (spec_SplitText.sound N) rfl (known_nil)) hQs hmix spec_l5Names.ok
theorem spec_CodeName.ok : funcOk (mkE Go.Proofs.Tryd.prog GB QW TM FM [(1, (spec_l1In.x.sig, true)), (357, (spec_l5Names.x.sig, true))]) 37 spec_CodeName.x = true := by kernel_rfl
theorem spec_CodeName.sound (N : Nat) : Sound Go.Proofs.Tryd.prog (natTbl TM) GB QW 37 spec_CodeName.x.sig (spec_CodeName.fs N) := sound_of N (known_cons (fm := FM) (n := 1) (by kernel_rfl) (spec_l1In.sound N) rfl (known_cons (fm := FM) (n := 357) (by kernel_rfl) (spec_l5Names.sound N) rfl (known_nil))) hQs hmix spec_CodeName.ok
theorem spec_CharOf.ok : funcOk (mkE Go.Proofs.Tryd.prog GB QW TM FM [(358, (spec_CodeName.x.sig, true)), (1, (spec_l1In.x.sig, true))]) 9 spec_CharOf.x = true := by kernel_rfl
theorem spec_CharOf.sound (N : Nat) : Sound Go.Proofs.Tryd.prog (natTbl TM) GB QW 9 spec_CharOf.x.sig (spec_CharOf.fs N) := sound_of N (known_cons (fm := FM) (n := 358) (by kernel_rfl) (spec_CodeName.sound N) rfl (known_cons (fm := FM) (n := 1) (by kernel_rfl) (spec_l1In.sound N) rfl (known_nil))) hQs hmix spec_CharOf.ok
theorem spec_KeyOf.ok : funcOk (mkE Go.Proofs.Tryd.prog GB QW TM FM [(359, (spec_CharOf.x.sig, true))]) 11 spec_KeyOf.x = true := by kernel_rfl
theorem spec_KeyOf.sound (N : Nat) : Sound Go.Proofs.Tryd.prog (natTbl TM) GB QW 11 spec_KeyOf.x.sig (spec_KeyOf.fs N) := sound_of N (known_cons (fm := FM) (n := 359) (by kernel_rfl) (spec_CharOf.sound N) rfl (known_nil)) hQs hmix spec_KeyOf.ok
theorem spec_TextMacro.ok : funcOk (mkE Go.Proofs.Tryd.prog GB QW TM FM [(376, (spec_KeyOf.x.sig, true))]) 13 spec_TextMacro.x = true := by kernel_rfl
theorem spec_TextMacro.sound (N : Nat) : Sound Go.Proofs.Tryd.prog (natTbl TM) GB QW 13 spec_TextMacro.x.sig (spec_TextMacro.fs N) := sound_of N (known_cons (fm := FM) (n := 376) (by kernel_rfl) (spec_KeyOf.sound N) rfl (known_nil)) hQs hmix spec_TextMacro.ok
theorem impl_isCode.ok : funcOk (mkE Go.Proofs.Tryd.prog GB QW TM FM []) 38 impl_isCode.x = true := by kernel_rfl
theorem impl_isCode.sound (N : Nat) : Sound Go.Proofs.Tryd.prog (natTbl TM) GB QW 38 impl_isCode.x.sig (impl_isCode.fs N) := sound_of N (known_nil) hQs hmix impl_isCode.ok
theorem impl_CodeName.ok : funcOk (mkE Go.Proofs.Tryd.prog GB QW TM FM [(372, (ext_strings_Split.sig, true))]) 39 impl_CodeName.x = true := by kernel_rfl
theorem impl_CodeName.sound (N : Nat) : Sound Go.Proofs.Tryd.prog (natTbl TM) GB QW 39 impl_CodeName.x.sig (impl_CodeName.fs N) := sound_of N (known_cons (fm := FM) (n := 372) (by kernel_rfl) (ext_strings_Split.sound N) rfl (known_nil)) hQs hmix impl_CodeName.ok
theorem impl_CharOf.ok : funcOk (mkE Go.Proofs.Tryd.prog GB QW TM FM [(373, (impl_CodeName.x.sig, true)), (153, (impl_isCode.x.sig, true))]) 10 impl_CharOf.x = true := by kernel_rfl
theorem impl_CharOf.sound (N : Nat) : Sound Go.Proofs.Tryd.prog (natTbl TM) GB QW 10 impl_CharOf.x.sig (impl_CharOf.fs N) := sound_of N (known_cons (fm := FM) (n := 373) (by kernel_rfl) (impl_CodeName.sound N) rfl (known_cons (fm := FM) (n := 153) (by kernel_rfl) (impl_isCode.sound N) rfl (known_nil))) hQs hmix impl_CharOf.ok
theorem impl_KeyOf.ok : funcOk (mkE Go.Proofs.Tryd.prog GB QW TM FM [(374, (impl_CharOf.x.sig, true))]) 12 impl_KeyOf.x = true := by kernel_rfl
theorem impl_KeyOf.sound (N : Nat) : Sound Go.Proofs.Tryd.prog (natTbl TM) GB QW 12 impl_KeyOf.x.sig (impl_KeyOf.fs N) := sound_of N (known_cons (fm := FM) (n := 374) (by kernel_rfl) (impl_CharOf.sound N) rfl (known_nil)) hQs hmix impl_KeyOf.ok
theorem impl_TextMacro.ok : funcOk (mkE Go.Proofs.Tryd.prog GB QW TM FM [(377, (impl_KeyOf.x.sig, true))]) 14 impl_TextMacro.x = true := by kernel_rfl
theorem impl_TextMacro.sound (N : Nat) : Sound Go.Proofs.Tryd.prog (natTbl TM) GB QW 14 impl_TextMacro.x.sig (impl_TextMacro.fs N) := sound_of N (known_cons (fm := FM) (n := 377) (by kernel_rfl) (impl_KeyOf.sound N) rfl (known_nil)) hQs hmix impl_TextMacro.ok
theorem laws_eqStep.ok : funcOk (mkE Go.Proofs.Tryd.prog GB QW TM FM []) 40 laws_eqStep.x = true := by kernel_rfl
theorem laws_eqStep.sound (N : Nat) : Sound Go.Proofs.Tryd.prog (natTbl TM) GB QW 40 laws_eqStep.x.sig (laws_eqStep.fs N) := sound_of N (known_nil) hQs hmix laws_eqStep.ok
theorem laws_eqStepS.ok : funcOk (mkE Go.Proofs.Tryd.prog GB QW TM FM [(389, (laws_eqStep.x.sig, true))]) 15 laws_eqStepS.x = true := by kernel_rfl
theorem laws_eqStepS.sound (N : Nat) : Sound Go.Proofs.Tryd.prog (natTbl TM) GB QW 15 laws_eqStepS.x.sig (laws_eqStepS.fs N) := sound_of N (known_cons (fm := FM) (n := 389) (by kernel_rfl) (laws_eqStep.sound N) rfl (known_nil)) hQs hmix laws_eqStepS.ok
theorem laws_markStepS.ok : funcOk (mkE Go.Proofs.Tryd.prog GB QW TM FM []) 16 laws_markStepS.x = true := by kernel_rfl
theorem laws_markStepS.sound (N : Nat) : Sound Go.Proofs.Tryd.prog (natTbl TM) GB QW 16 laws_markStepS.x.sig (laws_markStepS.fs N) := sound_of N (known_nil) hQs hmix laws_markStepS.ok
theorem laws_heldStepS.ok : funcOk (mkE Go.Proofs.Tryd.prog GB QW TM FM []) 17 laws_heldStepS.x = true := by kernel_rfl
theorem laws_heldStepS.sound (N : Nat) : Sound Go.Proofs.Tryd.prog (natTbl TM) GB QW 17 laws_heldStepS.x.sig (laws_heldStepS.fs N) := sound_of N (known_nil) hQs hmix laws_heldStepS.ok
theorem laws_FnExactTextMacro.ok : funcOk (mkE Go.Proofs.Tryd.prog GB QW TM FM [(388, (impl_TextMacro.x.sig, true)), (390, (laws_eqStepS.x.sig, true)), (392, (laws_heldStepS.x.sig, true)), (391, (laws_markStepS.x.sig, false)), (387, (spec_TextMacro.x.sig, true))]) 5 laws_FnExactTextMacro.x = true := by kernel_rfl
theorem laws_FnExactTextMacro.sound (N : Nat) : Sound Go.Proofs.Tryd.prog (natTbl TM) GB QW 5 laws_FnExactTextMacro.x.sig (laws_FnExactTextMacro.fs N) := sound_of N (known_cons (fm := FM) (n := 388) (by kernel_rfl) (impl_TextMacro.sound N) rfl (known_cons (fm := FM) (n := 390) (by kernel_rfl) (laws_eqStepS.sound N) rfl (known_cons (fm := FM) (n := 392) (by kernel_rfl) (laws_heldStepS.sound N) rfl (known_cons (fm := FM) (n := 391) (by kernel_rfl) (laws_markStepS.sound N) rfl (known_cons (fm := FM) (n := 387) (by kernel_rfl) (spec_TextMacro.sound N) rfl (known_nil)))))) hQs hmix laws_FnExactTextMacro.ok
end Go.Kb
