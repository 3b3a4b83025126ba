/- Each function of the law does what its abstract text does, over the program. -/
import Derived.Test.YtipjdpnpahhndaaDoorKc
import Derived.Test.YtipjdpnpahhndaaDoorPipeF1
import Derived.Test.YtipjdpnpahhndaaDoorPipeF2
import Derived.Test.YtipjdpnpahhndaaDoorPipeF3
import Derived.Test.YtipjdpnpahhndaaDoorPipeF4
import Derived.Test.YtipjdpnpahhndaaDoorPipeF5
import Derived.Test.YtipjdpnpahhndaaDoorPipeF6
import Derived.Test.YtipjdpnpahhndaaDoorPipeF7
import Derived.Test.YtipjdpnpahhndaaDoorPipeF8
import Derived.Test.YtipjdpnpahhndaaDoorPipeF9
import Derived.Test.YtipjdpnpahhndaaDoorPipeF10
import Derived.Test.YtipjdpnpahhndaaDoorPipeF11
import Derived.Test.YtipjdpnpahhndaaDoorRows
import Derived.Test.YtipjdpnpahhndaaDoorShelf
import Derived.Test.YtipjdpnpahhndaaDoorKd
import Derived.KernelRfl
namespace Go.Kb
def TM : List (Nat × Nat) := [(2, 3), (1, 5), (16, 9), (11, 27), (6, 43), (12, 45), (10, 64), (14, 73), (8, 78), (15, 96)]
def FM : List (Nat × Nat) := [(31, 18), (236, 48), (237, 42), (32, 76), (33, 63), (102, 73), (46, 74), (399, 49), (407, 29), (153, 38), (263, 51), (205, 64), (206, 35), (279, 34), (114, 70), (334, 57), (335, 56), (202, 52), (264, 28), (269, 25), (354, 30), (1, 36), (260, 53), (277, 60), (278, 58), (314, 61), (332, 59), (261, 55), (262, 54), (268, 26), (352, 62), (353, 31), (81, 32), (336, 33), (372, 66), (373, 39), (374, 10), (403, 23), (408, 8)]
def GB : Nat → Prop := fun b => b = 0
def QW : World → Prop := fun w => ∃ m, w.cell? ⟨0, 0, none⟩ = some (.int .i64 m)
theorem hQs : ∀ w w' : World, (∀ b, GB b → w'.heap[b]? = w.heap[b]?) → QW w → QW w' := fun _ _ h ⟨m, hm⟩ => ⟨m, (cell_of_same (h 0 rfl)).trans hm⟩
theorem ext_strings_Split.sound (N : Nat) : Sound Go.Proofs.Tryd.prog (natTbl TM) GB QW 66 ext_strings_Split.sig (ext_strings_Split.fs N) := split_sound (T := 9) (fun s sep w ⟨m, hm⟩ h1 h2 => Go.Proofs.Tryd.strings_Split s sep m w h1 hm h2) N
theorem hmix : Go.Proofs.Tryd.prog.follows .mixedOrders = true := by kernel_rfl
theorem laws_big.ok : funcOk (mkE Go.Proofs.Tryd.prog GB QW TM FM []) 18 laws_big.x = true := by kernel_rfl
theorem laws_big.sound (N : Nat) : Sound Go.Proofs.Tryd.prog (natTbl TM) GB QW 18 laws_big.x.sig (laws_big.fs N) := sound_of N (known_nil) hQs hmix laws_big.ok
theorem spec_l1New.ok : funcOk (mkE Go.Proofs.Tryd.prog GB QW TM FM []) 48 spec_l1New.x = true := by kernel_rfl
theorem spec_l1New.sound (N : Nat) : Sound Go.Proofs.Tryd.prog (natTbl TM) GB QW 48 spec_l1New.x.sig (spec_l1New.fs N) := sound_of N (known_nil) hQs hmix spec_l1New.ok
theorem spec_l24New.ok : funcOk (mkE Go.Proofs.Tryd.prog GB QW TM FM [(236, (spec_l1New.x.sig, false))]) 42 spec_l24New.x = true := by kernel_rfl
theorem spec_l24New.sound (N : Nat) : Sound Go.Proofs.Tryd.prog (natTbl TM) GB QW 42 spec_l24New.x.sig (spec_l24New.fs N) := sound_of N (known_cons (fm := FM) (n := 236) (by kernel_rfl) (spec_l1New.sound N) rfl (known_nil)) hQs hmix spec_l24New.ok
theorem spec_l1Byte.ok : funcOk (mkE Go.Proofs.Tryd.prog GB QW TM FM []) 76 spec_l1Byte.x = true := by kernel_rfl
theorem spec_l1Byte.sound (N : Nat) : Sound Go.Proofs.Tryd.prog (natTbl TM) GB QW 76 spec_l1Byte.x.sig (spec_l1Byte.fs N) := sound_of N (known_nil) hQs hmix spec_l1Byte.ok
theorem spec_l1Below.ok : funcOk (mkE Go.Proofs.Tryd.prog GB QW TM FM [(32, (spec_l1Byte.x.sig, false))]) 63 spec_l1Below.x = true := by kernel_rfl
theorem spec_l1Below.sound (N : Nat) : Sound Go.Proofs.Tryd.prog (natTbl TM) GB QW 63 spec_l1Below.x.sig (spec_l1Below.fs N) := sound_of N (known_cons (fm := FM) (n := 32) (by kernel_rfl) (spec_l1Byte.sound N) rfl (known_nil)) hQs hmix spec_l1Below.ok
theorem spec_l1Once.ok : funcOk (mkE Go.Proofs.Tryd.prog GB QW TM FM [(33, (spec_l1Below.x.sig, false))]) 73 spec_l1Once.x = true := by kernel_rfl
theorem spec_l1Once.sound (N : Nat) : Sound Go.Proofs.Tryd.prog (natTbl TM) GB QW 73 spec_l1Once.x.sig (spec_l1Once.fs N) := sound_of N (known_cons (fm := FM) (n := 33) (by kernel_rfl) (spec_l1Below.sound N) rfl (known_nil)) hQs hmix spec_l1Once.ok
theorem spec_l1PickInt.ok : funcOk (mkE Go.Proofs.Tryd.prog GB QW TM FM [(33, (spec_l1Below.x.sig, false))]) 74 spec_l1PickInt.x = true := by kernel_rfl
theorem spec_l1PickInt.sound (N : Nat) : Sound Go.Proofs.Tryd.prog (natTbl TM) GB QW 74 spec_l1PickInt.x.sig (spec_l1PickInt.fs N) := sound_of N (known_cons (fm := FM) (n := 33) (by kernel_rfl) (spec_l1Below.sound N) rfl (known_nil)) hQs hmix spec_l1PickInt.ok
theorem spec_l13Reports.ok : funcOk (mkE Go.Proofs.Tryd.prog GB QW TM FM [(33, (spec_l1Below.x.sig, false)), (102, (spec_l1Once.x.sig, false)), (46, (spec_l1PickInt.x.sig, false))]) 49 spec_l13Reports.x = true := by kernel_rfl
theorem spec_l13Reports.sound (N : Nat) : Sound Go.Proofs.Tryd.prog (natTbl TM) GB QW 49 spec_l13Reports.x.sig (spec_l13Reports.fs N) := sound_of N (known_cons (fm := FM) (n := 33) (by kernel_rfl) (spec_l1Below.sound N) rfl (known_cons (fm := FM) (n := 102) (by kernel_rfl) (spec_l1Once.sound N) rfl (known_cons (fm := FM) (n := 46) (by kernel_rfl) (spec_l1PickInt.sound N) rfl (known_nil)))) hQs hmix spec_l13Reports.ok
theorem spec_MakeReports.ok : funcOk (mkE Go.Proofs.Tryd.prog GB QW TM FM [(399, (spec_l13Reports.x.sig, false)), (237, (spec_l24New.x.sig, false))]) 29 spec_MakeReports.x = true := by kernel_rfl
theorem spec_MakeReports.sound (N : Nat) : Sound Go.Proofs.Tryd.prog (natTbl TM) GB QW 29 spec_MakeReports.x.sig (spec_MakeReports.fs N) := sound_of N (known_cons (fm := FM) (n := 399) (by kernel_rfl) (spec_l13Reports.sound N) rfl (known_cons (fm := FM) (n := 237) (by kernel_rfl) (spec_l24New.sound N) rfl (known_nil))) hQs hmix spec_MakeReports.ok
theorem impl_isCode.ok : funcOk (mkE Go.Proofs.Tryd.prog GB QW TM FM []) 38 impl_isCode.x = true := by kernel_rfl
theorem impl_isCode.sound (N : Nat) : Sound Go.Proofs.Tryd.prog (natTbl TM) GB QW 38 impl_isCode.x.sig (impl_isCode.fs N) := sound_of N (known_nil) hQs hmix impl_isCode.ok
theorem impl_IsReport.ok : funcOk (mkE Go.Proofs.Tryd.prog GB QW TM FM [(153, (impl_isCode.x.sig, true))]) 51 impl_IsReport.x = true := by kernel_rfl
theorem impl_IsReport.sound (N : Nat) : Sound Go.Proofs.Tryd.prog (natTbl TM) GB QW 51 impl_IsReport.x.sig (impl_IsReport.fs N) := sound_of N (known_cons (fm := FM) (n := 153) (by kernel_rfl) (impl_isCode.sound N) rfl (known_nil)) hQs hmix impl_IsReport.ok
theorem impl_sameInts.ok : funcOk (mkE Go.Proofs.Tryd.prog GB QW TM FM []) 64 impl_sameInts.x = true := by kernel_rfl
theorem impl_sameInts.sound (N : Nat) : Sound Go.Proofs.Tryd.prog (natTbl TM) GB QW 64 impl_sameInts.x.sig (impl_sameInts.fs N) := sound_of N (known_nil) hQs hmix impl_sameInts.ok
theorem impl_SameReport.ok : funcOk (mkE Go.Proofs.Tryd.prog GB QW TM FM [(205, (impl_sameInts.x.sig, true))]) 35 impl_SameReport.x = true := by kernel_rfl
theorem impl_SameReport.sound (N : Nat) : Sound Go.Proofs.Tryd.prog (natTbl TM) GB QW 35 impl_SameReport.x.sig (impl_SameReport.fs N) := sound_of N (known_cons (fm := FM) (n := 205) (by kernel_rfl) (impl_sameInts.sound N) rfl (known_nil)) hQs hmix impl_SameReport.ok
theorem impl_IsPipe.ok : funcOk (mkE Go.Proofs.Tryd.prog GB QW TM FM [(263, (impl_IsReport.x.sig, true)), (206, (impl_SameReport.x.sig, true))]) 34 impl_IsPipe.x = true := by kernel_rfl
theorem impl_IsPipe.sound (N : Nat) : Sound Go.Proofs.Tryd.prog (natTbl TM) GB QW 34 impl_IsPipe.x.sig (impl_IsPipe.fs N) := sound_of N (known_cons (fm := FM) (n := 263) (by kernel_rfl) (impl_IsReport.sound N) rfl (known_cons (fm := FM) (n := 206) (by kernel_rfl) (impl_SameReport.sound N) rfl (known_nil))) hQs hmix impl_IsPipe.ok
theorem impl_copyInts.ok : funcOk (mkE Go.Proofs.Tryd.prog GB QW TM FM []) 70 impl_copyInts.x = true := by kernel_rfl
theorem impl_copyInts.sound (N : Nat) : Sound Go.Proofs.Tryd.prog (natTbl TM) GB QW 70 impl_copyInts.x.sig (impl_copyInts.fs N) := sound_of N (known_nil) hQs hmix impl_copyInts.ok
theorem impl_copyReport.ok : funcOk (mkE Go.Proofs.Tryd.prog GB QW TM FM [(114, (impl_copyInts.x.sig, true))]) 57 impl_copyReport.x = true := by kernel_rfl
theorem impl_copyReport.sound (N : Nat) : Sound Go.Proofs.Tryd.prog (natTbl TM) GB QW 57 impl_copyReport.x.sig (impl_copyReport.fs N) := sound_of N (known_cons (fm := FM) (n := 114) (by kernel_rfl) (impl_copyInts.sound N) rfl (known_nil)) hQs hmix impl_copyReport.ok
theorem impl_copyPipe.ok : funcOk (mkE Go.Proofs.Tryd.prog GB QW TM FM [(334, (impl_copyReport.x.sig, true))]) 56 impl_copyPipe.x = true := by kernel_rfl
theorem impl_copyPipe.sound (N : Nat) : Sound Go.Proofs.Tryd.prog (natTbl TM) GB QW 56 impl_copyPipe.x.sig (impl_copyPipe.fs N) := sound_of N (known_cons (fm := FM) (n := 334) (by kernel_rfl) (impl_copyReport.sound N) rfl (known_nil)) hQs hmix impl_copyPipe.ok
theorem impl_hasInt.ok : funcOk (mkE Go.Proofs.Tryd.prog GB QW TM FM []) 52 impl_hasInt.x = true := by kernel_rfl
theorem impl_hasInt.sound (N : Nat) : Sound Go.Proofs.Tryd.prog (natTbl TM) GB QW 52 impl_hasInt.x.sig (impl_hasInt.fs N) := sound_of N (known_nil) hQs hmix impl_hasInt.ok
theorem impl_NewKeys.ok : funcOk (mkE Go.Proofs.Tryd.prog GB QW TM FM [(263, (impl_IsReport.x.sig, true)), (202, (impl_hasInt.x.sig, true))]) 28 impl_NewKeys.x = true := by kernel_rfl
theorem impl_NewKeys.sound (N : Nat) : Sound Go.Proofs.Tryd.prog (natTbl TM) GB QW 28 impl_NewKeys.x.sig (impl_NewKeys.fs N) := sound_of N (known_cons (fm := FM) (n := 263) (by kernel_rfl) (impl_IsReport.sound N) rfl (known_cons (fm := FM) (n := 202) (by kernel_rfl) (impl_hasInt.sound N) rfl (known_nil))) hQs hmix impl_NewKeys.ok
theorem impl_MayDrop.ok : funcOk (mkE Go.Proofs.Tryd.prog GB QW TM FM [(263, (impl_IsReport.x.sig, true)), (264, (impl_NewKeys.x.sig, true)), (202, (impl_hasInt.x.sig, true))]) 25 impl_MayDrop.x = true := by kernel_rfl
theorem impl_MayDrop.sound (N : Nat) : Sound Go.Proofs.Tryd.prog (natTbl TM) GB QW 25 impl_MayDrop.x.sig (impl_MayDrop.fs N) := sound_of N (known_cons (fm := FM) (n := 263) (by kernel_rfl) (impl_IsReport.sound N) rfl (known_cons (fm := FM) (n := 264) (by kernel_rfl) (impl_NewKeys.sound N) rfl (known_cons (fm := FM) (n := 202) (by kernel_rfl) (impl_hasInt.sound N) rfl (known_nil)))) hQs hmix impl_MayDrop.ok
theorem impl_PushReport.ok : funcOk (mkE Go.Proofs.Tryd.prog GB QW TM FM [(279, (impl_IsPipe.x.sig, true)), (263, (impl_IsReport.x.sig, true)), (269, (impl_MayDrop.x.sig, true)), (206, (impl_SameReport.x.sig, true)), (335, (impl_copyPipe.x.sig, true)), (334, (impl_copyReport.x.sig, true))]) 30 impl_PushReport.x = true := by kernel_rfl
theorem impl_PushReport.sound (N : Nat) : Sound Go.Proofs.Tryd.prog (natTbl TM) GB QW 30 impl_PushReport.x.sig (impl_PushReport.fs N) := sound_of N (known_cons (fm := FM) (n := 279) (by kernel_rfl) (impl_IsPipe.sound N) rfl (known_cons (fm := FM) (n := 263) (by kernel_rfl) (impl_IsReport.sound N) rfl (known_cons (fm := FM) (n := 269) (by kernel_rfl) (impl_MayDrop.sound N) rfl (known_cons (fm := FM) (n := 206) (by kernel_rfl) (impl_SameReport.sound N) rfl (known_cons (fm := FM) (n := 335) (by kernel_rfl) (impl_copyPipe.sound N) rfl (known_cons (fm := FM) (n := 334) (by kernel_rfl) (impl_copyReport.sound N) rfl (known_nil))))))) hQs hmix impl_PushReport.ok
theorem spec_l1In.ok : funcOk (mkE Go.Proofs.Tryd.prog GB QW TM FM []) 36 spec_l1In.x = true := by kernel_rfl
theorem spec_l1In.sound (N : Nat) : Sound Go.Proofs.Tryd.prog (natTbl TM) GB QW 36 spec_l1In.x.sig (spec_l1In.fs N) := sound_of N (known_nil) hQs hmix spec_l1In.ok
theorem spec_IsReport.ok : funcOk (mkE Go.Proofs.Tryd.prog GB QW TM FM [(1, (spec_l1In.x.sig, true))]) 53 spec_IsReport.x = true := by kernel_rfl
theorem spec_IsReport.sound (N : Nat) : Sound Go.Proofs.Tryd.prog (natTbl TM) GB QW 53 spec_IsReport.x.sig (spec_IsReport.fs N) := sound_of N (known_cons (fm := FM) (n := 1) (by kernel_rfl) (spec_l1In.sound N) rfl (known_nil)) hQs hmix spec_IsReport.ok
theorem spec_SameReport.ok : funcOk (mkE Go.Proofs.Tryd.prog GB QW TM FM []) 60 spec_SameReport.x = true := by kernel_rfl
theorem spec_SameReport.sound (N : Nat) : Sound Go.Proofs.Tryd.prog (natTbl TM) GB QW 60 spec_SameReport.x.sig (spec_SameReport.fs N) := sound_of N (known_nil) hQs hmix spec_SameReport.ok
theorem spec_IsPipe.ok : funcOk (mkE Go.Proofs.Tryd.prog GB QW TM FM [(260, (spec_IsReport.x.sig, true)), (277, (spec_SameReport.x.sig, true))]) 58 spec_IsPipe.x = true := by kernel_rfl
theorem spec_IsPipe.sound (N : Nat) : Sound Go.Proofs.Tryd.prog (natTbl TM) GB QW 58 spec_IsPipe.x.sig (spec_IsPipe.fs N) := sound_of N (known_cons (fm := FM) (n := 260) (by kernel_rfl) (spec_IsReport.sound N) rfl (known_cons (fm := FM) (n := 277) (by kernel_rfl) (spec_SameReport.sound N) rfl (known_nil))) hQs hmix spec_IsPipe.ok
theorem spec_l7Copy.ok : funcOk (mkE Go.Proofs.Tryd.prog GB QW TM FM []) 61 spec_l7Copy.x = true := by kernel_rfl
theorem spec_l7Copy.sound (N : Nat) : Sound Go.Proofs.Tryd.prog (natTbl TM) GB QW 61 spec_l7Copy.x.sig (spec_l7Copy.fs N) := sound_of N (known_nil) hQs hmix spec_l7Copy.ok
theorem spec_l13Copy.ok : funcOk (mkE Go.Proofs.Tryd.prog GB QW TM FM [(314, (spec_l7Copy.x.sig, true))]) 59 spec_l13Copy.x = true := by kernel_rfl
theorem spec_l13Copy.sound (N : Nat) : Sound Go.Proofs.Tryd.prog (natTbl TM) GB QW 59 spec_l13Copy.x.sig (spec_l13Copy.fs N) := sound_of N (known_cons (fm := FM) (n := 314) (by kernel_rfl) (spec_l7Copy.sound N) rfl (known_nil)) hQs hmix spec_l13Copy.ok
theorem spec_l12Has.ok : funcOk (mkE Go.Proofs.Tryd.prog GB QW TM FM []) 55 spec_l12Has.x = true := by kernel_rfl
theorem spec_l12Has.sound (N : Nat) : Sound Go.Proofs.Tryd.prog (natTbl TM) GB QW 55 spec_l12Has.x.sig (spec_l12Has.fs N) := sound_of N (known_nil) hQs hmix spec_l12Has.ok
theorem spec_NewKeys.ok : funcOk (mkE Go.Proofs.Tryd.prog GB QW TM FM [(260, (spec_IsReport.x.sig, true)), (261, (spec_l12Has.x.sig, true))]) 54 spec_NewKeys.x = true := by kernel_rfl
theorem spec_NewKeys.sound (N : Nat) : Sound Go.Proofs.Tryd.prog (natTbl TM) GB QW 54 spec_NewKeys.x.sig (spec_NewKeys.fs N) := sound_of N (known_cons (fm := FM) (n := 260) (by kernel_rfl) (spec_IsReport.sound N) rfl (known_cons (fm := FM) (n := 261) (by kernel_rfl) (spec_l12Has.sound N) rfl (known_nil))) hQs hmix spec_NewKeys.ok
theorem spec_MayDrop.ok : funcOk (mkE Go.Proofs.Tryd.prog GB QW TM FM [(260, (spec_IsReport.x.sig, true)), (262, (spec_NewKeys.x.sig, true)), (261, (spec_l12Has.x.sig, true))]) 26 spec_MayDrop.x = true := by kernel_rfl
theorem spec_MayDrop.sound (N : Nat) : Sound Go.Proofs.Tryd.prog (natTbl TM) GB QW 26 spec_MayDrop.x.sig (spec_MayDrop.fs N) := sound_of N (known_cons (fm := FM) (n := 260) (by kernel_rfl) (spec_IsReport.sound N) rfl (known_cons (fm := FM) (n := 262) (by kernel_rfl) (spec_NewKeys.sound N) rfl (known_cons (fm := FM) (n := 261) (by kernel_rfl) (spec_l12Has.sound N) rfl (known_nil)))) hQs hmix spec_MayDrop.ok
theorem spec_l13Drop.ok : funcOk (mkE Go.Proofs.Tryd.prog GB QW TM FM [(268, (spec_MayDrop.x.sig, true))]) 62 spec_l13Drop.x = true := by kernel_rfl
theorem spec_l13Drop.sound (N : Nat) : Sound Go.Proofs.Tryd.prog (natTbl TM) GB QW 62 spec_l13Drop.x.sig (spec_l13Drop.fs N) := sound_of N (known_cons (fm := FM) (n := 268) (by kernel_rfl) (spec_MayDrop.sound N) rfl (known_nil)) hQs hmix spec_l13Drop.ok
theorem spec_PushReport.ok : funcOk (mkE Go.Proofs.Tryd.prog GB QW TM FM [(278, (spec_IsPipe.x.sig, true)), (260, (spec_IsReport.x.sig, true)), (277, (spec_SameReport.x.sig, true)), (332, (spec_l13Copy.x.sig, true)), (352, (spec_l13Drop.x.sig, false)), (314, (spec_l7Copy.x.sig, true))]) 31 spec_PushReport.x = true := by kernel_rfl
theorem spec_PushReport.sound (N : Nat) : Sound Go.Proofs.Tryd.prog (natTbl TM) GB QW 31 spec_PushReport.x.sig (spec_PushReport.fs N) := sound_of N (known_cons (fm := FM) (n := 278) (by kernel_rfl) (spec_IsPipe.sound N) rfl (known_cons (fm := FM) (n := 260) (by kernel_rfl) (spec_IsReport.sound N) rfl (known_cons (fm := FM) (n := 277) (by kernel_rfl) (spec_SameReport.sound N) rfl (known_cons (fm := FM) (n := 332) (by kernel_rfl) (spec_l13Copy.sound N) rfl (known_cons (fm := FM) (n := 352) (by kernel_rfl) (spec_l13Drop.sound N) rfl (known_cons (fm := FM) (n := 314) (by kernel_rfl) (spec_l7Copy.sound N) rfl (known_nil))))))) hQs hmix spec_PushReport.ok
theorem spec_MakeNumber.ok : funcOk (mkE Go.Proofs.Tryd.prog GB QW TM FM [(33, (spec_l1Below.x.sig, false)), (237, (spec_l24New.x.sig, false))]) 32 spec_MakeNumber.x = true := by kernel_rfl
theorem spec_MakeNumber.sound (N : Nat) : Sound Go.Proofs.Tryd.prog (natTbl TM) GB QW 32 spec_MakeNumber.x.sig (spec_MakeNumber.fs N) := sound_of N (known_cons (fm := FM) (n := 33) (by kernel_rfl) (spec_l1Below.sound N) rfl (known_cons (fm := FM) (n := 237) (by kernel_rfl) (spec_l24New.sound N) rfl (known_nil))) hQs hmix spec_MakeNumber.ok
theorem impl_TakeReport.ok : funcOk (mkE Go.Proofs.Tryd.prog GB QW TM FM [(279, (impl_IsPipe.x.sig, true)), (335, (impl_copyPipe.x.sig, true))]) 33 impl_TakeReport.x = true := by kernel_rfl
theorem impl_TakeReport.sound (N : Nat) : Sound Go.Proofs.Tryd.prog (natTbl TM) GB QW 33 impl_TakeReport.x.sig (impl_TakeReport.fs N) := sound_of N (known_cons (fm := FM) (n := 279) (by kernel_rfl) (impl_IsPipe.sound N) rfl (known_cons (fm := FM) (n := 335) (by kernel_rfl) (impl_copyPipe.sound N) rfl (known_nil))) hQs hmix impl_TakeReport.ok
theorem impl_CodeName.ok : funcOk (mkE Go.Proofs.Tryd.prog GB QW TM FM [(372, (ext_strings_Split.sig, true))]) 39 impl_CodeName.x = true := by kernel_rfl
theorem impl_CodeName.sound (N : Nat) : Sound Go.Proofs.Tryd.prog (natTbl TM) GB QW 39 impl_CodeName.x.sig (impl_CodeName.fs N) := sound_of N (known_cons (fm := FM) (n := 372) (by kernel_rfl) (ext_strings_Split.sound N) rfl (known_nil)) hQs hmix impl_CodeName.ok
theorem impl_CharOf.ok : funcOk (mkE Go.Proofs.Tryd.prog GB QW TM FM [(373, (impl_CodeName.x.sig, true)), (153, (impl_isCode.x.sig, true))]) 10 impl_CharOf.x = true := by kernel_rfl
theorem impl_CharOf.sound (N : Nat) : Sound Go.Proofs.Tryd.prog (natTbl TM) GB QW 10 impl_CharOf.x.sig (impl_CharOf.fs N) := sound_of N (known_cons (fm := FM) (n := 373) (by kernel_rfl) (impl_CodeName.sound N) rfl (known_cons (fm := FM) (n := 153) (by kernel_rfl) (impl_isCode.sound N) rfl (known_nil))) hQs hmix impl_CharOf.ok
theorem impl_TypedText.ok : funcOk (mkE Go.Proofs.Tryd.prog GB QW TM FM [(374, (impl_CharOf.x.sig, true)), (264, (impl_NewKeys.x.sig, true))]) 23 impl_TypedText.x = true := by kernel_rfl
theorem impl_TypedText.sound (N : Nat) : Sound Go.Proofs.Tryd.prog (natTbl TM) GB QW 23 impl_TypedText.x.sig (impl_TypedText.fs N) := sound_of N (known_cons (fm := FM) (n := 374) (by kernel_rfl) (impl_CharOf.sound N) rfl (known_cons (fm := FM) (n := 264) (by kernel_rfl) (impl_NewKeys.sound N) rfl (known_nil))) hQs hmix impl_TypedText.ok
theorem laws_FnPipe.ok : funcOk (mkE Go.Proofs.Tryd.prog GB QW TM FM [(279, (impl_IsPipe.x.sig, true)), (354, (impl_PushReport.x.sig, true)), (206, (impl_SameReport.x.sig, true)), (336, (impl_TakeReport.x.sig, true)), (403, (impl_TypedText.x.sig, true)), (31, (laws_big.x.sig, true)), (81, (spec_MakeNumber.x.sig, true)), (407, (spec_MakeReports.x.sig, false)), (353, (spec_PushReport.x.sig, false))]) 8 laws_FnPipe.x = true := by kernel_rfl
theorem laws_FnPipe.sound (N : Nat) : Sound Go.Proofs.Tryd.prog (natTbl TM) GB QW 8 laws_FnPipe.x.sig (laws_FnPipe.fs N) := sound_of N (known_cons (fm := FM) (n := 279) (by kernel_rfl) (impl_IsPipe.sound N) rfl (known_cons (fm := FM) (n := 354) (by kernel_rfl) (impl_PushReport.sound N) rfl (known_cons (fm := FM) (n := 206) (by kernel_rfl) (impl_SameReport.sound N) rfl (known_cons (fm := FM) (n := 336) (by kernel_rfl) (impl_TakeReport.sound N) rfl (known_cons (fm := FM) (n := 403) (by kernel_rfl) (impl_TypedText.sound N) rfl (known_cons (fm := FM) (n := 31) (by kernel_rfl) (laws_big.sound N) rfl (known_cons (fm := FM) (n := 81) (by kernel_rfl) (spec_MakeNumber.sound N) rfl (known_cons (fm := FM) (n := 407) (by kernel_rfl) (spec_MakeReports.sound N) rfl (known_cons (fm := FM) (n := 353) (by kernel_rfl) (spec_PushReport.sound N) rfl (known_nil)))))))))) hQs hmix laws_FnPipe.ok
end Go.Kb
