/- Each function of the law does what its abstract text does, over the program. -/
import Derived.Test.YtipjdpnpahhndaaDoorKc
import Derived.Test.YtipjdpnpahhndaaDoorDroppedF1
import Derived.Test.YtipjdpnpahhndaaDoorDroppedF2
import Derived.Test.YtipjdpnpahhndaaDoorDroppedF3
import Derived.Test.YtipjdpnpahhndaaDoorDroppedF4
import Derived.Test.YtipjdpnpahhndaaDoorDroppedF5
import Derived.Test.YtipjdpnpahhndaaDoorDroppedF6
import Derived.Test.YtipjdpnpahhndaaDoorDroppedF7
import Derived.Test.YtipjdpnpahhndaaDoorDroppedF8
import Derived.Test.YtipjdpnpahhndaaDoorDroppedF9
import Derived.Test.YtipjdpnpahhndaaDoorDroppedF10
import Derived.Test.YtipjdpnpahhndaaDoorRows
import Derived.Test.YtipjdpnpahhndaaDoorShelf
import Derived.Test.YtipjdpnpahhndaaDoorKd
import Derived.KernelRfl
namespace Go.Kb
def TM : List (Nat × Nat) := [(2, 3), (1, 5), (16, 9), (11, 27), (6, 43), (12, 45), (10, 64), (14, 73), (8, 78), (15, 96)]
def FM : List (Nat × Nat) := [(31, 18), (236, 48), (32, 76), (33, 63), (102, 73), (46, 74), (399, 49), (400, 75), (401, 50), (402, 24), (153, 38), (263, 51), (202, 52), (264, 28), (269, 25), (1, 36), (260, 53), (261, 55), (262, 54), (268, 26), (372, 66), (373, 39), (374, 10), (403, 23), (92, 27), (404, 7)]
def GB : Nat → Prop := fun b => b = 0
def QW : World → Prop := fun w => ∃ m, w.cell? ⟨0, 0, none⟩ = some (.int .i64 m)
theorem hQs : ∀ w w' : World, (∀ b, GB b → w'.heap[b]? = w.heap[b]?) → QW w → QW w' := fun _ _ h ⟨m, hm⟩ => ⟨m, (cell_of_same (h 0 rfl)).trans hm⟩
theorem ext_strings_Split.sound (N : Nat) : Sound Go.Proofs.Tryd.prog (natTbl TM) GB QW 66 ext_strings_Split.sig (ext_strings_Split.fs N) := split_sound (T := 9) (fun s sep w ⟨m, hm⟩ h1 h2 => Go.Proofs.Tryd.strings_Split s sep m w h1 hm h2) N
theorem hmix : Go.Proofs.Tryd.prog.follows .mixedOrders = true := by kernel_rfl
theorem laws_big.ok : funcOk (mkE Go.Proofs.Tryd.prog GB QW TM FM []) 18 laws_big.x = true := by kernel_rfl
theorem laws_big.sound (N : Nat) : Sound Go.Proofs.Tryd.prog (natTbl TM) GB QW 18 laws_big.x.sig (laws_big.fs N) := sound_of N (known_nil) hQs hmix laws_big.ok
theorem spec_l1New.ok : funcOk (mkE Go.Proofs.Tryd.prog GB QW TM FM []) 48 spec_l1New.x = true := by kernel_rfl
theorem spec_l1New.sound (N : Nat) : Sound Go.Proofs.Tryd.prog (natTbl TM) GB QW 48 spec_l1New.x.sig (spec_l1New.fs N) := sound_of N (known_nil) hQs hmix spec_l1New.ok
theorem spec_l1Byte.ok : funcOk (mkE Go.Proofs.Tryd.prog GB QW TM FM []) 76 spec_l1Byte.x = true := by kernel_rfl
theorem spec_l1Byte.sound (N : Nat) : Sound Go.Proofs.Tryd.prog (natTbl TM) GB QW 76 spec_l1Byte.x.sig (spec_l1Byte.fs N) := sound_of N (known_nil) hQs hmix spec_l1Byte.ok
theorem spec_l1Below.ok : funcOk (mkE Go.Proofs.Tryd.prog GB QW TM FM [(32, (spec_l1Byte.x.sig, false))]) 63 spec_l1Below.x = true := by kernel_rfl
theorem spec_l1Below.sound (N : Nat) : Sound Go.Proofs.Tryd.prog (natTbl TM) GB QW 63 spec_l1Below.x.sig (spec_l1Below.fs N) := sound_of N (known_cons (fm := FM) (n := 32) (by kernel_rfl) (spec_l1Byte.sound N) rfl (known_nil)) hQs hmix spec_l1Below.ok
theorem spec_l1Once.ok : funcOk (mkE Go.Proofs.Tryd.prog GB QW TM FM [(33, (spec_l1Below.x.sig, false))]) 73 spec_l1Once.x = true := by kernel_rfl
theorem spec_l1Once.sound (N : Nat) : Sound Go.Proofs.Tryd.prog (natTbl TM) GB QW 73 spec_l1Once.x.sig (spec_l1Once.fs N) := sound_of N (known_cons (fm := FM) (n := 33) (by kernel_rfl) (spec_l1Below.sound N) rfl (known_nil)) hQs hmix spec_l1Once.ok
theorem spec_l1PickInt.ok : funcOk (mkE Go.Proofs.Tryd.prog GB QW TM FM [(33, (spec_l1Below.x.sig, false))]) 74 spec_l1PickInt.x = true := by kernel_rfl
theorem spec_l1PickInt.sound (N : Nat) : Sound Go.Proofs.Tryd.prog (natTbl TM) GB QW 74 spec_l1PickInt.x.sig (spec_l1PickInt.fs N) := sound_of N (known_cons (fm := FM) (n := 33) (by kernel_rfl) (spec_l1Below.sound N) rfl (known_nil)) hQs hmix spec_l1PickInt.ok
theorem spec_l13Reports.ok : funcOk (mkE Go.Proofs.Tryd.prog GB QW TM FM [(33, (spec_l1Below.x.sig, false)), (102, (spec_l1Once.x.sig, false)), (46, (spec_l1PickInt.x.sig, false))]) 49 spec_l13Reports.x = true := by kernel_rfl
theorem spec_l13Reports.sound (N : Nat) : Sound Go.Proofs.Tryd.prog (natTbl TM) GB QW 49 spec_l13Reports.x.sig (spec_l13Reports.fs N) := sound_of N (known_cons (fm := FM) (n := 33) (by kernel_rfl) (spec_l1Below.sound N) rfl (known_cons (fm := FM) (n := 102) (by kernel_rfl) (spec_l1Once.sound N) rfl (known_cons (fm := FM) (n := 46) (by kernel_rfl) (spec_l1PickInt.sound N) rfl (known_nil)))) hQs hmix spec_l13Reports.ok
theorem spec_l7Report.ok : funcOk (mkE Go.Proofs.Tryd.prog GB QW TM FM [(33, (spec_l1Below.x.sig, false)), (46, (spec_l1PickInt.x.sig, false))]) 75 spec_l7Report.x = true := by kernel_rfl
theorem spec_l7Report.sound (N : Nat) : Sound Go.Proofs.Tryd.prog (natTbl TM) GB QW 75 spec_l7Report.x.sig (spec_l7Report.fs N) := sound_of N (known_cons (fm := FM) (n := 33) (by kernel_rfl) (spec_l1Below.sound N) rfl (known_cons (fm := FM) (n := 46) (by kernel_rfl) (spec_l1PickInt.sound N) rfl (known_nil))) hQs hmix spec_l7Report.ok
theorem spec_l7Bent.ok : funcOk (mkE Go.Proofs.Tryd.prog GB QW TM FM [(33, (spec_l1Below.x.sig, false)), (46, (spec_l1PickInt.x.sig, false)), (400, (spec_l7Report.x.sig, false))]) 50 spec_l7Bent.x = true := by kernel_rfl
theorem spec_l7Bent.sound (N : Nat) : Sound Go.Proofs.Tryd.prog (natTbl TM) GB QW 50 spec_l7Bent.x.sig (spec_l7Bent.fs N) := sound_of N (known_cons (fm := FM) (n := 33) (by kernel_rfl) (spec_l1Below.sound N) rfl (known_cons (fm := FM) (n := 46) (by kernel_rfl) (spec_l1PickInt.sound N) rfl (known_cons (fm := FM) (n := 400) (by kernel_rfl) (spec_l7Report.sound N) rfl (known_nil)))) hQs hmix spec_l7Bent.ok
theorem spec_DrawMayDrop.ok : funcOk (mkE Go.Proofs.Tryd.prog GB QW TM FM [(399, (spec_l13Reports.x.sig, false)), (236, (spec_l1New.x.sig, false)), (401, (spec_l7Bent.x.sig, false))]) 24 spec_DrawMayDrop.x = true := by kernel_rfl
theorem spec_DrawMayDrop.sound (N : Nat) : Sound Go.Proofs.Tryd.prog (natTbl TM) GB QW 24 spec_DrawMayDrop.x.sig (spec_DrawMayDrop.fs N) := sound_of N (known_cons (fm := FM) (n := 399) (by kernel_rfl) (spec_l13Reports.sound N) rfl (known_cons (fm := FM) (n := 236) (by kernel_rfl) (spec_l1New.sound N) rfl (known_cons (fm := FM) (n := 401) (by kernel_rfl) (spec_l7Bent.sound N) rfl (known_nil)))) hQs hmix spec_DrawMayDrop.ok
theorem impl_isCode.ok : funcOk (mkE Go.Proofs.Tryd.prog GB QW TM FM []) 38 impl_isCode.x = true := by kernel_rfl
theorem impl_isCode.sound (N : Nat) : Sound Go.Proofs.Tryd.prog (natTbl TM) GB QW 38 impl_isCode.x.sig (impl_isCode.fs N) := sound_of N (known_nil) hQs hmix impl_isCode.ok
theorem impl_IsReport.ok : funcOk (mkE Go.Proofs.Tryd.prog GB QW TM FM [(153, (impl_isCode.x.sig, true))]) 51 impl_IsReport.x = true := by kernel_rfl
theorem impl_IsReport.sound (N : Nat) : Sound Go.Proofs.Tryd.prog (natTbl TM) GB QW 51 impl_IsReport.x.sig (impl_IsReport.fs N) := sound_of N (known_cons (fm := FM) (n := 153) (by kernel_rfl) (impl_isCode.sound N) rfl (known_nil)) hQs hmix impl_IsReport.ok
theorem impl_hasInt.ok : funcOk (mkE Go.Proofs.Tryd.prog GB QW TM FM []) 52 impl_hasInt.x = true := by kernel_rfl
theorem impl_hasInt.sound (N : Nat) : Sound Go.Proofs.Tryd.prog (natTbl TM) GB QW 52 impl_hasInt.x.sig (impl_hasInt.fs N) := sound_of N (known_nil) hQs hmix impl_hasInt.ok
theorem impl_NewKeys.ok : funcOk (mkE Go.Proofs.Tryd.prog GB QW TM FM [(263, (impl_IsReport.x.sig, true)), (202, (impl_hasInt.x.sig, true))]) 28 impl_NewKeys.x = true := by kernel_rfl
theorem impl_NewKeys.sound (N : Nat) : Sound Go.Proofs.Tryd.prog (natTbl TM) GB QW 28 impl_NewKeys.x.sig (impl_NewKeys.fs N) := sound_of N (known_cons (fm := FM) (n := 263) (by kernel_rfl) (impl_IsReport.sound N) rfl (known_cons (fm := FM) (n := 202) (by kernel_rfl) (impl_hasInt.sound N) rfl (known_nil))) hQs hmix impl_NewKeys.ok
theorem impl_MayDrop.ok : funcOk (mkE Go.Proofs.Tryd.prog GB QW TM FM [(263, (impl_IsReport.x.sig, true)), (264, (impl_NewKeys.x.sig, true)), (202, (impl_hasInt.x.sig, true))]) 25 impl_MayDrop.x = true := by kernel_rfl
theorem impl_MayDrop.sound (N : Nat) : Sound Go.Proofs.Tryd.prog (natTbl TM) GB QW 25 impl_MayDrop.x.sig (impl_MayDrop.fs N) := sound_of N (known_cons (fm := FM) (n := 263) (by kernel_rfl) (impl_IsReport.sound N) rfl (known_cons (fm := FM) (n := 264) (by kernel_rfl) (impl_NewKeys.sound N) rfl (known_cons (fm := FM) (n := 202) (by kernel_rfl) (impl_hasInt.sound N) rfl (known_nil)))) hQs hmix impl_MayDrop.ok
theorem spec_l1In.ok : funcOk (mkE Go.Proofs.Tryd.prog GB QW TM FM []) 36 spec_l1In.x = true := by kernel_rfl
theorem spec_l1In.sound (N : Nat) : Sound Go.Proofs.Tryd.prog (natTbl TM) GB QW 36 spec_l1In.x.sig (spec_l1In.fs N) := sound_of N (known_nil) hQs hmix spec_l1In.ok
theorem spec_IsReport.ok : funcOk (mkE Go.Proofs.Tryd.prog GB QW TM FM [(1, (spec_l1In.x.sig, true))]) 53 spec_IsReport.x = true := by kernel_rfl
theorem spec_IsReport.sound (N : Nat) : Sound Go.Proofs.Tryd.prog (natTbl TM) GB QW 53 spec_IsReport.x.sig (spec_IsReport.fs N) := sound_of N (known_cons (fm := FM) (n := 1) (by kernel_rfl) (spec_l1In.sound N) rfl (known_nil)) hQs hmix spec_IsReport.ok
theorem spec_l12Has.ok : funcOk (mkE Go.Proofs.Tryd.prog GB QW TM FM []) 55 spec_l12Has.x = true := by kernel_rfl
theorem spec_l12Has.sound (N : Nat) : Sound Go.Proofs.Tryd.prog (natTbl TM) GB QW 55 spec_l12Has.x.sig (spec_l12Has.fs N) := sound_of N (known_nil) hQs hmix spec_l12Has.ok
theorem spec_NewKeys.ok : funcOk (mkE Go.Proofs.Tryd.prog GB QW TM FM [(260, (spec_IsReport.x.sig, true)), (261, (spec_l12Has.x.sig, true))]) 54 spec_NewKeys.x = true := by kernel_rfl
theorem spec_NewKeys.sound (N : Nat) : Sound Go.Proofs.Tryd.prog (natTbl TM) GB QW 54 spec_NewKeys.x.sig (spec_NewKeys.fs N) := sound_of N (known_cons (fm := FM) (n := 260) (by kernel_rfl) (spec_IsReport.sound N) rfl (known_cons (fm := FM) (n := 261) (by kernel_rfl) (spec_l12Has.sound N) rfl (known_nil))) hQs hmix spec_NewKeys.ok
theorem spec_MayDrop.ok : funcOk (mkE Go.Proofs.Tryd.prog GB QW TM FM [(260, (spec_IsReport.x.sig, true)), (262, (spec_NewKeys.x.sig, true)), (261, (spec_l12Has.x.sig, true))]) 26 spec_MayDrop.x = true := by kernel_rfl
theorem spec_MayDrop.sound (N : Nat) : Sound Go.Proofs.Tryd.prog (natTbl TM) GB QW 26 spec_MayDrop.x.sig (spec_MayDrop.fs N) := sound_of N (known_cons (fm := FM) (n := 260) (by kernel_rfl) (spec_IsReport.sound N) rfl (known_cons (fm := FM) (n := 262) (by kernel_rfl) (spec_NewKeys.sound N) rfl (known_cons (fm := FM) (n := 261) (by kernel_rfl) (spec_l12Has.sound N) rfl (known_nil)))) hQs hmix spec_MayDrop.ok
theorem impl_CodeName.ok : funcOk (mkE Go.Proofs.Tryd.prog GB QW TM FM [(372, (ext_strings_Split.sig, true))]) 39 impl_CodeName.x = true := by kernel_rfl
theorem impl_CodeName.sound (N : Nat) : Sound Go.Proofs.Tryd.prog (natTbl TM) GB QW 39 impl_CodeName.x.sig (impl_CodeName.fs N) := sound_of N (known_cons (fm := FM) (n := 372) (by kernel_rfl) (ext_strings_Split.sound N) rfl (known_nil)) hQs hmix impl_CodeName.ok
theorem impl_CharOf.ok : funcOk (mkE Go.Proofs.Tryd.prog GB QW TM FM [(373, (impl_CodeName.x.sig, true)), (153, (impl_isCode.x.sig, true))]) 10 impl_CharOf.x = true := by kernel_rfl
theorem impl_CharOf.sound (N : Nat) : Sound Go.Proofs.Tryd.prog (natTbl TM) GB QW 10 impl_CharOf.x.sig (impl_CharOf.fs N) := sound_of N (known_cons (fm := FM) (n := 373) (by kernel_rfl) (impl_CodeName.sound N) rfl (known_cons (fm := FM) (n := 153) (by kernel_rfl) (impl_isCode.sound N) rfl (known_nil))) hQs hmix impl_CharOf.ok
theorem impl_TypedText.ok : funcOk (mkE Go.Proofs.Tryd.prog GB QW TM FM [(374, (impl_CharOf.x.sig, true)), (264, (impl_NewKeys.x.sig, true))]) 23 impl_TypedText.x = true := by kernel_rfl
theorem impl_TypedText.sound (N : Nat) : Sound Go.Proofs.Tryd.prog (natTbl TM) GB QW 23 impl_TypedText.x.sig (impl_TypedText.fs N) := sound_of N (known_cons (fm := FM) (n := 374) (by kernel_rfl) (impl_CharOf.sound N) rfl (known_cons (fm := FM) (n := 264) (by kernel_rfl) (impl_NewKeys.sound N) rfl (known_nil))) hQs hmix impl_TypedText.ok
theorem laws_sameInts.ok : funcOk (mkE Go.Proofs.Tryd.prog GB QW TM FM []) 27 laws_sameInts.x = true := by kernel_rfl
theorem laws_sameInts.sound (N : Nat) : Sound Go.Proofs.Tryd.prog (natTbl TM) GB QW 27 laws_sameInts.x.sig (laws_sameInts.fs N) := sound_of N (known_nil) hQs hmix laws_sameInts.ok
theorem laws_FnDropped.ok : funcOk (mkE Go.Proofs.Tryd.prog GB QW TM FM [(269, (impl_MayDrop.x.sig, true)), (264, (impl_NewKeys.x.sig, true)), (403, (impl_TypedText.x.sig, true)), (31, (laws_big.x.sig, true)), (92, (laws_sameInts.x.sig, true)), (402, (spec_DrawMayDrop.x.sig, false)), (268, (spec_MayDrop.x.sig, true))]) 7 laws_FnDropped.x = true := by kernel_rfl
theorem laws_FnDropped.sound (N : Nat) : Sound Go.Proofs.Tryd.prog (natTbl TM) GB QW 7 laws_FnDropped.x.sig (laws_FnDropped.fs N) := sound_of N (known_cons (fm := FM) (n := 269) (by kernel_rfl) (impl_MayDrop.sound N) rfl (known_cons (fm := FM) (n := 264) (by kernel_rfl) (impl_NewKeys.sound N) rfl (known_cons (fm := FM) (n := 403) (by kernel_rfl) (impl_TypedText.sound N) rfl (known_cons (fm := FM) (n := 31) (by kernel_rfl) (laws_big.sound N) rfl (known_cons (fm := FM) (n := 92) (by kernel_rfl) (laws_sameInts.sound N) rfl (known_cons (fm := FM) (n := 402) (by kernel_rfl) (spec_DrawMayDrop.sound N) rfl (known_cons (fm := FM) (n := 268) (by kernel_rfl) (spec_MayDrop.sound N) rfl (known_nil)))))))) hQs hmix laws_FnDropped.ok
end Go.Kb
