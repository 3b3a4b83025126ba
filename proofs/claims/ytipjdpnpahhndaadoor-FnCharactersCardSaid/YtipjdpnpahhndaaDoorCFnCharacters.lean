/- Each function of the law does what its abstract text does, over the program. -/
import Derived.Test.YtipjdpnpahhndaaDoorKc
import Derived.Test.YtipjdpnpahhndaaDoorCharactersF1
import Derived.Test.YtipjdpnpahhndaaDoorCharactersF2
import Derived.Test.YtipjdpnpahhndaaDoorCharactersF3
import Derived.Test.YtipjdpnpahhndaaDoorCharactersF4
import Derived.Test.YtipjdpnpahhndaaDoorCharactersF5
import Derived.Test.YtipjdpnpahhndaaDoorCharactersF6
import Derived.Test.YtipjdpnpahhndaaDoorCharactersF7
import Derived.Test.YtipjdpnpahhndaaDoorCharactersF8
import Derived.Test.YtipjdpnpahhndaaDoorCharactersF9
import Derived.Test.YtipjdpnpahhndaaDoorCharactersF10
import Derived.Test.YtipjdpnpahhndaaDoorCharactersF11
import Derived.Test.YtipjdpnpahhndaaDoorCharactersF12
import Derived.Test.YtipjdpnpahhndaaDoorRows
import Derived.Test.YtipjdpnpahhndaaDoorShelf
import Derived.Test.YtipjdpnpahhndaaDoorKd
import Derived.KernelRfl
namespace Go.Kb
def TM : List (Nat × Nat) := [(2, 3), (1, 5), (16, 9), (11, 27), (6, 43), (12, 45), (10, 64), (14, 73), (8, 78), (15, 96)]
def FM : List (Nat × Nat) := [(31, 18), (236, 48), (237, 42), (32, 76), (33, 63), (414, 67), (415, 41), (416, 19), (153, 38), (372, 66), (373, 39), (374, 10), (377, 12), (397, 20), (388, 14), (65, 68), (154, 71), (155, 72), (156, 47), (164, 43), (165, 46), (166, 22), (114, 70), (201, 79), (202, 52), (203, 69), (204, 44), (217, 45), (218, 21), (263, 51), (264, 28), (403, 23), (417, 6)]
def GB : Nat → Prop := fun b => b = 0
def QW : World → Prop := fun w => ∃ m, w.cell? ⟨0, 0, none⟩ = some (.int .i64 m)
theorem hQs : ∀ w w' : World, (∀ b, GB b → w'.heap[b]? = w.heap[b]?) → QW w → QW w' := fun _ _ h ⟨m, hm⟩ => ⟨m, (cell_of_same (h 0 rfl)).trans hm⟩
theorem ext_strings_Split.sound (N : Nat) : Sound Go.Proofs.Tryd.prog (natTbl TM) GB QW 66 ext_strings_Split.sig (ext_strings_Split.fs N) := split_sound (T := 9) (fun s sep w ⟨m, hm⟩ h1 h2 => Go.Proofs.Tryd.strings_Split s sep m w h1 hm h2) N
theorem ext_sort_Ints.sound (N : Nat) : Sound Go.Proofs.Tryd.prog (natTbl TM) GB QW 79 ext_sort_Ints.sig (ext_sort_Ints.fs N) := sort_sound (fun blk off cap zs w h1 h2 h3 => Go.Proofs.Tryd.sort_Ints blk off cap zs w h1 h2 h3) (fun p cap w => Go.Proofs.Tryd.sort_Ints_none p cap w) N
theorem hmix : Go.Proofs.Tryd.prog.follows .mixedOrders = true := by kernel_rfl
theorem laws_big.ok : funcOk (mkE Go.Proofs.Tryd.prog GB QW TM FM []) 18 laws_big.x = true := by kernel_rfl
theorem laws_big.sound (N : Nat) : Sound Go.Proofs.Tryd.prog (natTbl TM) GB QW 18 laws_big.x.sig (laws_big.fs N) := sound_of N (known_nil) hQs hmix laws_big.ok
theorem spec_l1New.ok : funcOk (mkE Go.Proofs.Tryd.prog GB QW TM FM []) 48 spec_l1New.x = true := by kernel_rfl
theorem spec_l1New.sound (N : Nat) : Sound Go.Proofs.Tryd.prog (natTbl TM) GB QW 48 spec_l1New.x.sig (spec_l1New.fs N) := sound_of N (known_nil) hQs hmix spec_l1New.ok
theorem spec_l24New.ok : funcOk (mkE Go.Proofs.Tryd.prog GB QW TM FM [(236, (spec_l1New.x.sig, false))]) 42 spec_l24New.x = true := by kernel_rfl
theorem spec_l24New.sound (N : Nat) : Sound Go.Proofs.Tryd.prog (natTbl TM) GB QW 42 spec_l24New.x.sig (spec_l24New.fs N) := sound_of N (known_cons (fm := FM) (n := 236) (by kernel_rfl) (spec_l1New.sound N) rfl (known_nil)) hQs hmix spec_l24New.ok
theorem spec_l1Byte.ok : funcOk (mkE Go.Proofs.Tryd.prog GB QW TM FM []) 76 spec_l1Byte.x = true := by kernel_rfl
theorem spec_l1Byte.sound (N : Nat) : Sound Go.Proofs.Tryd.prog (natTbl TM) GB QW 76 spec_l1Byte.x.sig (spec_l1Byte.fs N) := sound_of N (known_nil) hQs hmix spec_l1Byte.ok
theorem spec_l1Below.ok : funcOk (mkE Go.Proofs.Tryd.prog GB QW TM FM [(32, (spec_l1Byte.x.sig, false))]) 63 spec_l1Below.x = true := by kernel_rfl
theorem spec_l1Below.sound (N : Nat) : Sound Go.Proofs.Tryd.prog (natTbl TM) GB QW 63 spec_l1Below.x.sig (spec_l1Below.fs N) := sound_of N (known_cons (fm := FM) (n := 32) (by kernel_rfl) (spec_l1Byte.sound N) rfl (known_nil)) hQs hmix spec_l1Below.ok
theorem spec_l1Pick.ok : funcOk (mkE Go.Proofs.Tryd.prog GB QW TM FM [(33, (spec_l1Below.x.sig, false))]) 67 spec_l1Pick.x = true := by kernel_rfl
theorem spec_l1Pick.sound (N : Nat) : Sound Go.Proofs.Tryd.prog (natTbl TM) GB QW 67 spec_l1Pick.x.sig (spec_l1Pick.fs N) := sound_of N (known_cons (fm := FM) (n := 33) (by kernel_rfl) (spec_l1Below.sound N) rfl (known_nil)) hQs hmix spec_l1Pick.ok
theorem spec_l12Text.ok : funcOk (mkE Go.Proofs.Tryd.prog GB QW TM FM [(33, (spec_l1Below.x.sig, false)), (414, (spec_l1Pick.x.sig, false))]) 41 spec_l12Text.x = true := by kernel_rfl
theorem spec_l12Text.sound (N : Nat) : Sound Go.Proofs.Tryd.prog (natTbl TM) GB QW 41 spec_l12Text.x.sig (spec_l12Text.fs N) := sound_of N (known_cons (fm := FM) (n := 33) (by kernel_rfl) (spec_l1Below.sound N) rfl (known_cons (fm := FM) (n := 414) (by kernel_rfl) (spec_l1Pick.sound N) rfl (known_nil))) hQs hmix spec_l12Text.ok
theorem spec_MakeText.ok : funcOk (mkE Go.Proofs.Tryd.prog GB QW TM FM [(415, (spec_l12Text.x.sig, false)), (237, (spec_l24New.x.sig, false))]) 19 spec_MakeText.x = true := by kernel_rfl
theorem spec_MakeText.sound (N : Nat) : Sound Go.Proofs.Tryd.prog (natTbl TM) GB QW 19 spec_MakeText.x.sig (spec_MakeText.fs N) := sound_of N (known_cons (fm := FM) (n := 415) (by kernel_rfl) (spec_l12Text.sound N) rfl (known_cons (fm := FM) (n := 237) (by kernel_rfl) (spec_l24New.sound N) rfl (known_nil))) hQs hmix spec_MakeText.ok
theorem impl_isCode.ok : funcOk (mkE Go.Proofs.Tryd.prog GB QW TM FM []) 38 impl_isCode.x = true := by kernel_rfl
theorem impl_isCode.sound (N : Nat) : Sound Go.Proofs.Tryd.prog (natTbl TM) GB QW 38 impl_isCode.x.sig (impl_isCode.fs N) := sound_of N (known_nil) hQs hmix impl_isCode.ok
theorem impl_CodeName.ok : funcOk (mkE Go.Proofs.Tryd.prog GB QW TM FM [(372, (ext_strings_Split.sig, true))]) 39 impl_CodeName.x = true := by kernel_rfl
theorem impl_CodeName.sound (N : Nat) : Sound Go.Proofs.Tryd.prog (natTbl TM) GB QW 39 impl_CodeName.x.sig (impl_CodeName.fs N) := sound_of N (known_cons (fm := FM) (n := 372) (by kernel_rfl) (ext_strings_Split.sound N) rfl (known_nil)) hQs hmix impl_CodeName.ok
theorem impl_CharOf.ok : funcOk (mkE Go.Proofs.Tryd.prog GB QW TM FM [(373, (impl_CodeName.x.sig, true)), (153, (impl_isCode.x.sig, true))]) 10 impl_CharOf.x = true := by kernel_rfl
theorem impl_CharOf.sound (N : Nat) : Sound Go.Proofs.Tryd.prog (natTbl TM) GB QW 10 impl_CharOf.x.sig (impl_CharOf.fs N) := sound_of N (known_cons (fm := FM) (n := 373) (by kernel_rfl) (impl_CodeName.sound N) rfl (known_cons (fm := FM) (n := 153) (by kernel_rfl) (impl_isCode.sound N) rfl (known_nil))) hQs hmix impl_CharOf.ok
theorem impl_KeyOf.ok : funcOk (mkE Go.Proofs.Tryd.prog GB QW TM FM [(374, (impl_CharOf.x.sig, true))]) 12 impl_KeyOf.x = true := by kernel_rfl
theorem impl_KeyOf.sound (N : Nat) : Sound Go.Proofs.Tryd.prog (natTbl TM) GB QW 12 impl_KeyOf.x.sig (impl_KeyOf.fs N) := sound_of N (known_cons (fm := FM) (n := 374) (by kernel_rfl) (impl_CharOf.sound N) rfl (known_nil)) hQs hmix impl_KeyOf.ok
theorem impl_TextReports.ok : funcOk (mkE Go.Proofs.Tryd.prog GB QW TM FM [(377, (impl_KeyOf.x.sig, true))]) 20 impl_TextReports.x = true := by kernel_rfl
theorem impl_TextReports.sound (N : Nat) : Sound Go.Proofs.Tryd.prog (natTbl TM) GB QW 20 impl_TextReports.x.sig (impl_TextReports.fs N) := sound_of N (known_cons (fm := FM) (n := 377) (by kernel_rfl) (impl_KeyOf.sound N) rfl (known_nil)) hQs hmix impl_TextReports.ok
theorem impl_TextMacro.ok : funcOk (mkE Go.Proofs.Tryd.prog GB QW TM FM [(377, (impl_KeyOf.x.sig, true))]) 14 impl_TextMacro.x = true := by kernel_rfl
theorem impl_TextMacro.sound (N : Nat) : Sound Go.Proofs.Tryd.prog (natTbl TM) GB QW 14 impl_TextMacro.x.sig (impl_TextMacro.fs N) := sound_of N (known_cons (fm := FM) (n := 377) (by kernel_rfl) (impl_KeyOf.sound N) rfl (known_nil)) hQs hmix impl_TextMacro.ok
theorem impl_bit.ok : funcOk (mkE Go.Proofs.Tryd.prog GB QW TM FM []) 68 impl_bit.x = true := by kernel_rfl
theorem impl_bit.sound (N : Nat) : Sound Go.Proofs.Tryd.prog (natTbl TM) GB QW 68 impl_bit.x.sig (impl_bit.fs N) := sound_of N (known_nil) hQs hmix impl_bit.ok
theorem impl_isMods.ok : funcOk (mkE Go.Proofs.Tryd.prog GB QW TM FM []) 71 impl_isMods.x = true := by kernel_rfl
theorem impl_isMods.sound (N : Nat) : Sound Go.Proofs.Tryd.prog (natTbl TM) GB QW 71 impl_isMods.x.sig (impl_isMods.fs N) := sound_of N (known_nil) hQs hmix impl_isMods.ok
theorem impl_isUpper.ok : funcOk (mkE Go.Proofs.Tryd.prog GB QW TM FM []) 72 impl_isUpper.x = true := by kernel_rfl
theorem impl_isUpper.sound (N : Nat) : Sound Go.Proofs.Tryd.prog (natTbl TM) GB QW 72 impl_isUpper.x.sig (impl_isUpper.fs N) := sound_of N (known_nil) hQs hmix impl_isUpper.ok
theorem impl_IsAction.ok : funcOk (mkE Go.Proofs.Tryd.prog GB QW TM FM [(153, (impl_isCode.x.sig, true)), (154, (impl_isMods.x.sig, true)), (155, (impl_isUpper.x.sig, true))]) 47 impl_IsAction.x = true := by kernel_rfl
theorem impl_IsAction.sound (N : Nat) : Sound Go.Proofs.Tryd.prog (natTbl TM) GB QW 47 impl_IsAction.x.sig (impl_IsAction.fs N) := sound_of N (known_cons (fm := FM) (n := 153) (by kernel_rfl) (impl_isCode.sound N) rfl (known_cons (fm := FM) (n := 154) (by kernel_rfl) (impl_isMods.sound N) rfl (known_cons (fm := FM) (n := 155) (by kernel_rfl) (impl_isUpper.sound N) rfl (known_nil)))) hQs hmix impl_IsAction.ok
theorem impl_IsHeld.ok : funcOk (mkE Go.Proofs.Tryd.prog GB QW TM FM [(156, (impl_IsAction.x.sig, true)), (65, (impl_bit.x.sig, true))]) 43 impl_IsHeld.x = true := by kernel_rfl
theorem impl_IsHeld.sound (N : Nat) : Sound Go.Proofs.Tryd.prog (natTbl TM) GB QW 43 impl_IsHeld.x.sig (impl_IsHeld.fs N) := sound_of N (known_cons (fm := FM) (n := 156) (by kernel_rfl) (impl_IsAction.sound N) rfl (known_cons (fm := FM) (n := 65) (by kernel_rfl) (impl_bit.sound N) rfl (known_nil))) hQs hmix impl_IsHeld.ok
theorem impl_pairAt.ok : funcOk (mkE Go.Proofs.Tryd.prog GB QW TM FM []) 46 impl_pairAt.x = true := by kernel_rfl
theorem impl_pairAt.sound (N : Nat) : Sound Go.Proofs.Tryd.prog (natTbl TM) GB QW 46 impl_pairAt.x.sig (impl_pairAt.fs N) := sound_of N (known_nil) hQs hmix impl_pairAt.ok
theorem impl_IsMacro.ok : funcOk (mkE Go.Proofs.Tryd.prog GB QW TM FM [(156, (impl_IsAction.x.sig, true)), (165, (impl_pairAt.x.sig, true))]) 22 impl_IsMacro.x = true := by kernel_rfl
theorem impl_IsMacro.sound (N : Nat) : Sound Go.Proofs.Tryd.prog (natTbl TM) GB QW 22 impl_IsMacro.x.sig (impl_IsMacro.fs N) := sound_of N (known_cons (fm := FM) (n := 156) (by kernel_rfl) (impl_IsAction.sound N) rfl (known_cons (fm := FM) (n := 165) (by kernel_rfl) (impl_pairAt.sound N) rfl (known_nil))) hQs hmix impl_IsMacro.ok
theorem impl_copyInts.ok : funcOk (mkE Go.Proofs.Tryd.prog GB QW TM FM []) 70 impl_copyInts.x = true := by kernel_rfl
theorem impl_copyInts.sound (N : Nat) : Sound Go.Proofs.Tryd.prog (natTbl TM) GB QW 70 impl_copyInts.x.sig (impl_copyInts.fs N) := sound_of N (known_nil) hQs hmix impl_copyInts.ok
theorem impl_hasInt.ok : funcOk (mkE Go.Proofs.Tryd.prog GB QW TM FM []) 52 impl_hasInt.x = true := by kernel_rfl
theorem impl_hasInt.sound (N : Nat) : Sound Go.Proofs.Tryd.prog (natTbl TM) GB QW 52 impl_hasInt.x.sig (impl_hasInt.fs N) := sound_of N (known_nil) hQs hmix impl_hasInt.ok
theorem impl_codesOf.ok : funcOk (mkE Go.Proofs.Tryd.prog GB QW TM FM [(201, (ext_sort_Ints.sig, true)), (114, (impl_copyInts.x.sig, true)), (202, (impl_hasInt.x.sig, true))]) 69 impl_codesOf.x = true := by kernel_rfl
theorem impl_codesOf.sound (N : Nat) : Sound Go.Proofs.Tryd.prog (natTbl TM) GB QW 69 impl_codesOf.x.sig (impl_codesOf.fs N) := sound_of N (known_cons (fm := FM) (n := 201) (by kernel_rfl) (ext_sort_Ints.sound N) rfl (known_cons (fm := FM) (n := 114) (by kernel_rfl) (impl_copyInts.sound N) rfl (known_cons (fm := FM) (n := 202) (by kernel_rfl) (impl_hasInt.sound N) rfl (known_nil)))) hQs hmix impl_codesOf.ok
theorem impl_ReportOf.ok : funcOk (mkE Go.Proofs.Tryd.prog GB QW TM FM [(164, (impl_IsHeld.x.sig, true)), (203, (impl_codesOf.x.sig, true))]) 44 impl_ReportOf.x = true := by kernel_rfl
theorem impl_ReportOf.sound (N : Nat) : Sound Go.Proofs.Tryd.prog (natTbl TM) GB QW 44 impl_ReportOf.x.sig (impl_ReportOf.fs N) := sound_of N (known_cons (fm := FM) (n := 164) (by kernel_rfl) (impl_IsHeld.sound N) rfl (known_cons (fm := FM) (n := 203) (by kernel_rfl) (impl_codesOf.sound N) rfl (known_nil))) hQs hmix impl_ReportOf.ok
theorem impl_withPairs.ok : funcOk (mkE Go.Proofs.Tryd.prog GB QW TM FM [(203, (impl_codesOf.x.sig, true)), (114, (impl_copyInts.x.sig, true))]) 45 impl_withPairs.x = true := by kernel_rfl
theorem impl_withPairs.sound (N : Nat) : Sound Go.Proofs.Tryd.prog (natTbl TM) GB QW 45 impl_withPairs.x.sig (impl_withPairs.fs N) := sound_of N (known_cons (fm := FM) (n := 203) (by kernel_rfl) (impl_codesOf.sound N) rfl (known_cons (fm := FM) (n := 114) (by kernel_rfl) (impl_copyInts.sound N) rfl (known_nil))) hQs hmix impl_withPairs.ok
theorem impl_MacroReports.ok : funcOk (mkE Go.Proofs.Tryd.prog GB QW TM FM [(164, (impl_IsHeld.x.sig, true)), (166, (impl_IsMacro.x.sig, true)), (204, (impl_ReportOf.x.sig, true)), (165, (impl_pairAt.x.sig, true)), (217, (impl_withPairs.x.sig, true))]) 21 impl_MacroReports.x = true := by kernel_rfl
theorem impl_MacroReports.sound (N : Nat) : Sound Go.Proofs.Tryd.prog (natTbl TM) GB QW 21 impl_MacroReports.x.sig (impl_MacroReports.fs N) := sound_of N (known_cons (fm := FM) (n := 164) (by kernel_rfl) (impl_IsHeld.sound N) rfl (known_cons (fm := FM) (n := 166) (by kernel_rfl) (impl_IsMacro.sound N) rfl (known_cons (fm := FM) (n := 204) (by kernel_rfl) (impl_ReportOf.sound N) rfl (known_cons (fm := FM) (n := 165) (by kernel_rfl) (impl_pairAt.sound N) rfl (known_cons (fm := FM) (n := 217) (by kernel_rfl) (impl_withPairs.sound N) rfl (known_nil)))))) hQs hmix impl_MacroReports.ok
theorem impl_IsReport.ok : funcOk (mkE Go.Proofs.Tryd.prog GB QW TM FM [(153, (impl_isCode.x.sig, true))]) 51 impl_IsReport.x = true := by kernel_rfl
theorem impl_IsReport.sound (N : Nat) : Sound Go.Proofs.Tryd.prog (natTbl TM) GB QW 51 impl_IsReport.x.sig (impl_IsReport.fs N) := sound_of N (known_cons (fm := FM) (n := 153) (by kernel_rfl) (impl_isCode.sound N) rfl (known_nil)) hQs hmix impl_IsReport.ok
theorem impl_NewKeys.ok : funcOk (mkE Go.Proofs.Tryd.prog GB QW TM FM [(263, (impl_IsReport.x.sig, true)), (202, (impl_hasInt.x.sig, true))]) 28 impl_NewKeys.x = true := by kernel_rfl
theorem impl_NewKeys.sound (N : Nat) : Sound Go.Proofs.Tryd.prog (natTbl TM) GB QW 28 impl_NewKeys.x.sig (impl_NewKeys.fs N) := sound_of N (known_cons (fm := FM) (n := 263) (by kernel_rfl) (impl_IsReport.sound N) rfl (known_cons (fm := FM) (n := 202) (by kernel_rfl) (impl_hasInt.sound N) rfl (known_nil))) hQs hmix impl_NewKeys.ok
theorem impl_TypedText.ok : funcOk (mkE Go.Proofs.Tryd.prog GB QW TM FM [(374, (impl_CharOf.x.sig, true)), (264, (impl_NewKeys.x.sig, true))]) 23 impl_TypedText.x = true := by kernel_rfl
theorem impl_TypedText.sound (N : Nat) : Sound Go.Proofs.Tryd.prog (natTbl TM) GB QW 23 impl_TypedText.x.sig (impl_TypedText.fs N) := sound_of N (known_cons (fm := FM) (n := 374) (by kernel_rfl) (impl_CharOf.sound N) rfl (known_cons (fm := FM) (n := 264) (by kernel_rfl) (impl_NewKeys.sound N) rfl (known_nil))) hQs hmix impl_TypedText.ok
theorem laws_FnCharacters.ok : funcOk (mkE Go.Proofs.Tryd.prog GB QW TM FM [(374, (impl_CharOf.x.sig, true)), (166, (impl_IsMacro.x.sig, true)), (377, (impl_KeyOf.x.sig, true)), (218, (impl_MacroReports.x.sig, true)), (388, (impl_TextMacro.x.sig, true)), (397, (impl_TextReports.x.sig, true)), (403, (impl_TypedText.x.sig, true)), (31, (laws_big.x.sig, true)), (416, (spec_MakeText.x.sig, true))]) 6 laws_FnCharacters.x = true := by kernel_rfl
theorem laws_FnCharacters.sound (N : Nat) : Sound Go.Proofs.Tryd.prog (natTbl TM) GB QW 6 laws_FnCharacters.x.sig (laws_FnCharacters.fs N) := sound_of N (known_cons (fm := FM) (n := 374) (by kernel_rfl) (impl_CharOf.sound N) rfl (known_cons (fm := FM) (n := 166) (by kernel_rfl) (impl_IsMacro.sound N) rfl (known_cons (fm := FM) (n := 377) (by kernel_rfl) (impl_KeyOf.sound N) rfl (known_cons (fm := FM) (n := 218) (by kernel_rfl) (impl_MacroReports.sound N) rfl (known_cons (fm := FM) (n := 388) (by kernel_rfl) (impl_TextMacro.sound N) rfl (known_cons (fm := FM) (n := 397) (by kernel_rfl) (impl_TextReports.sound N) rfl (known_cons (fm := FM) (n := 403) (by kernel_rfl) (impl_TypedText.sound N) rfl (known_cons (fm := FM) (n := 31) (by kernel_rfl) (laws_big.sound N) rfl (known_cons (fm := FM) (n := 416) (by kernel_rfl) (spec_MakeText.sound N) rfl (known_nil)))))))))) hQs hmix laws_FnCharacters.ok
end Go.Kb
