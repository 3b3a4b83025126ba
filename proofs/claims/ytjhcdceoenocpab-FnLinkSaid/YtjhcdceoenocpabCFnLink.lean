/- Each function of the law does what its abstract text does, over the program. -/
import Derived.Test.YtjhcdceoenocpabKc
import Derived.Test.YtjhcdceoenocpabF1
import Derived.Test.YtjhcdceoenocpabF2
import Derived.Test.YtjhcdceoenocpabRows
import Derived.KernelRfl
namespace Go.Kb
def TM : List (Nat × Nat) := [(2, 3), (1, 5), (16, 9), (6, 22), (12, 27)]
def FM : List (Nat × Nat) := [(31, 13), (29, 14), (236, 61), (237, 44), (32, 60), (33, 43), (81, 15), (46, 62), (87, 45), (88, 16), (8, 46), (23, 17), (20, 19), (24, 63), (90, 47), (91, 18), (92, 20), (93, 21), (94, 4)]
theorem hmix : Go.Proofs.Try.prog.follows .mixedOrders = true := by kernel_rfl
theorem laws_big.ok : funcOk (mkE Go.Proofs.Try.prog TM FM []) 13 laws_big.x = true := by kernel_rfl
theorem laws_big.sound (N : Nat) : Sound Go.Proofs.Try.prog (natTbl TM) 13 laws_big.x.sig (laws_big.fs N) := sound_of N (known_nil) hmix laws_big.ok
theorem impl_NewReceiver.ok : funcOk (mkE Go.Proofs.Try.prog TM FM []) 14 impl_NewReceiver.x = true := by kernel_rfl
theorem impl_NewReceiver.sound (N : Nat) : Sound Go.Proofs.Try.prog (natTbl TM) 14 impl_NewReceiver.x.sig (impl_NewReceiver.fs N) := sound_of N (known_nil) hmix impl_NewReceiver.ok
theorem spec_l1New.ok : funcOk (mkE Go.Proofs.Try.prog TM FM []) 61 spec_l1New.x = true := by kernel_rfl
theorem spec_l1New.sound (N : Nat) : Sound Go.Proofs.Try.prog (natTbl TM) 61 spec_l1New.x.sig (spec_l1New.fs N) := sound_of N (known_nil) hmix spec_l1New.ok
theorem spec_l24New.ok : funcOk (mkE Go.Proofs.Try.prog TM FM [(236, (spec_l1New.x.sig, false))]) 44 spec_l24New.x = true := by kernel_rfl
theorem spec_l24New.sound (N : Nat) : Sound Go.Proofs.Try.prog (natTbl TM) 44 spec_l24New.x.sig (spec_l24New.fs N) := sound_of N (known_cons (fm := FM) (n := 236) (by kernel_rfl) (spec_l1New.sound N) rfl (known_nil)) hmix spec_l24New.ok
theorem spec_l1Byte.ok : funcOk (mkE Go.Proofs.Try.prog TM FM []) 60 spec_l1Byte.x = true := by kernel_rfl
theorem spec_l1Byte.sound (N : Nat) : Sound Go.Proofs.Try.prog (natTbl TM) 60 spec_l1Byte.x.sig (spec_l1Byte.fs N) := sound_of N (known_nil) hmix spec_l1Byte.ok
theorem spec_l1Below.ok : funcOk (mkE Go.Proofs.Try.prog TM FM [(32, (spec_l1Byte.x.sig, false))]) 43 spec_l1Below.x = true := by kernel_rfl
theorem spec_l1Below.sound (N : Nat) : Sound Go.Proofs.Try.prog (natTbl TM) 43 spec_l1Below.x.sig (spec_l1Below.fs N) := sound_of N (known_cons (fm := FM) (n := 32) (by kernel_rfl) (spec_l1Byte.sound N) rfl (known_nil)) hmix spec_l1Below.ok
theorem spec_MakeNumber.ok : funcOk (mkE Go.Proofs.Try.prog TM FM [(33, (spec_l1Below.x.sig, false)), (237, (spec_l24New.x.sig, false))]) 15 spec_MakeNumber.x = true := by kernel_rfl
theorem spec_MakeNumber.sound (N : Nat) : Sound Go.Proofs.Try.prog (natTbl TM) 15 spec_MakeNumber.x.sig (spec_MakeNumber.fs N) := sound_of N (known_cons (fm := FM) (n := 33) (by kernel_rfl) (spec_l1Below.sound N) rfl (known_cons (fm := FM) (n := 237) (by kernel_rfl) (spec_l24New.sound N) rfl (known_nil))) hmix spec_MakeNumber.ok
theorem spec_l1PickInt.ok : funcOk (mkE Go.Proofs.Try.prog TM FM [(33, (spec_l1Below.x.sig, false))]) 62 spec_l1PickInt.x = true := by kernel_rfl
theorem spec_l1PickInt.sound (N : Nat) : Sound Go.Proofs.Try.prog (natTbl TM) 62 spec_l1PickInt.x.sig (spec_l1PickInt.fs N) := sound_of N (known_cons (fm := FM) (n := 33) (by kernel_rfl) (spec_l1Below.sound N) rfl (known_nil)) hmix spec_l1PickInt.ok
theorem spec_l15Mask.ok : funcOk (mkE Go.Proofs.Try.prog TM FM [(33, (spec_l1Below.x.sig, false)), (46, (spec_l1PickInt.x.sig, false))]) 45 spec_l15Mask.x = true := by kernel_rfl
theorem spec_l15Mask.sound (N : Nat) : Sound Go.Proofs.Try.prog (natTbl TM) 45 spec_l15Mask.x.sig (spec_l15Mask.fs N) := sound_of N (known_cons (fm := FM) (n := 33) (by kernel_rfl) (spec_l1Below.sound N) rfl (known_cons (fm := FM) (n := 46) (by kernel_rfl) (spec_l1PickInt.sound N) rfl (known_nil))) hmix spec_l15Mask.ok
theorem spec_MakeMask.ok : funcOk (mkE Go.Proofs.Try.prog TM FM [(87, (spec_l15Mask.x.sig, false)), (237, (spec_l24New.x.sig, false))]) 16 spec_MakeMask.x = true := by kernel_rfl
theorem spec_MakeMask.sound (N : Nat) : Sound Go.Proofs.Try.prog (natTbl TM) 16 spec_MakeMask.x.sig (spec_MakeMask.fs N) := sound_of N (known_cons (fm := FM) (n := 87) (by kernel_rfl) (spec_l15Mask.sound N) rfl (known_cons (fm := FM) (n := 237) (by kernel_rfl) (spec_l24New.sound N) rfl (known_nil))) hmix spec_MakeMask.ok
theorem impl_Checksum.ok : funcOk (mkE Go.Proofs.Try.prog TM FM []) 46 impl_Checksum.x = true := by kernel_rfl
theorem impl_Checksum.sound (N : Nat) : Sound Go.Proofs.Try.prog (natTbl TM) 46 impl_Checksum.x.sig (impl_Checksum.fs N) := sound_of N (known_nil) hmix impl_Checksum.ok
theorem impl_LinkFrame.ok : funcOk (mkE Go.Proofs.Try.prog TM FM [(8, (impl_Checksum.x.sig, true))]) 17 impl_LinkFrame.x = true := by kernel_rfl
theorem impl_LinkFrame.sound (N : Nat) : Sound Go.Proofs.Try.prog (natTbl TM) 17 impl_LinkFrame.x.sig (impl_LinkFrame.fs N) := sound_of N (known_cons (fm := FM) (n := 8) (by kernel_rfl) (impl_Checksum.sound N) rfl (known_nil)) hmix impl_LinkFrame.ok
theorem impl_IsReceiver.ok : funcOk (mkE Go.Proofs.Try.prog TM FM []) 19 impl_IsReceiver.x = true := by kernel_rfl
theorem impl_IsReceiver.sound (N : Nat) : Sound Go.Proofs.Try.prog (natTbl TM) 19 impl_IsReceiver.x.sig (impl_IsReceiver.fs N) := sound_of N (known_nil) hmix impl_IsReceiver.ok
theorem impl_ReadFrame.ok : funcOk (mkE Go.Proofs.Try.prog TM FM [(23, (impl_LinkFrame.x.sig, true))]) 63 impl_ReadFrame.x = true := by kernel_rfl
theorem impl_ReadFrame.sound (N : Nat) : Sound Go.Proofs.Try.prog (natTbl TM) 63 impl_ReadFrame.x.sig (impl_ReadFrame.fs N) := sound_of N (known_cons (fm := FM) (n := 23) (by kernel_rfl) (impl_LinkFrame.sound N) rfl (known_nil)) hmix impl_ReadFrame.ok
theorem impl_ReceiveByte.ok : funcOk (mkE Go.Proofs.Try.prog TM FM [(20, (impl_IsReceiver.x.sig, true)), (24, (impl_ReadFrame.x.sig, true))]) 47 impl_ReceiveByte.x = true := by kernel_rfl
theorem impl_ReceiveByte.sound (N : Nat) : Sound Go.Proofs.Try.prog (natTbl TM) 47 impl_ReceiveByte.x.sig (impl_ReceiveByte.fs N) := sound_of N (known_cons (fm := FM) (n := 20) (by kernel_rfl) (impl_IsReceiver.sound N) rfl (known_cons (fm := FM) (n := 24) (by kernel_rfl) (impl_ReadFrame.sound N) rfl (known_nil))) hmix impl_ReceiveByte.ok
theorem impl_ReceiveAll.ok : funcOk (mkE Go.Proofs.Try.prog TM FM [(20, (impl_IsReceiver.x.sig, true)), (90, (impl_ReceiveByte.x.sig, true))]) 18 impl_ReceiveAll.x = true := by kernel_rfl
theorem impl_ReceiveAll.sound (N : Nat) : Sound Go.Proofs.Try.prog (natTbl TM) 18 impl_ReceiveAll.x.sig (impl_ReceiveAll.fs N) := sound_of N (known_cons (fm := FM) (n := 20) (by kernel_rfl) (impl_IsReceiver.sound N) rfl (known_cons (fm := FM) (n := 90) (by kernel_rfl) (impl_ReceiveByte.sound N) rfl (known_nil))) hmix impl_ReceiveAll.ok
theorem laws_sameInts.ok : funcOk (mkE Go.Proofs.Try.prog TM FM []) 20 laws_sameInts.x = true := by kernel_rfl
theorem laws_sameInts.sound (N : Nat) : Sound Go.Proofs.Try.prog (natTbl TM) 20 laws_sameInts.x.sig (laws_sameInts.fs N) := sound_of N (known_nil) hmix laws_sameInts.ok
theorem impl_SilentTick.ok : funcOk (mkE Go.Proofs.Try.prog TM FM [(20, (impl_IsReceiver.x.sig, true))]) 21 impl_SilentTick.x = true := by kernel_rfl
theorem impl_SilentTick.sound (N : Nat) : Sound Go.Proofs.Try.prog (natTbl TM) 21 impl_SilentTick.x.sig (impl_SilentTick.fs N) := sound_of N (known_cons (fm := FM) (n := 20) (by kernel_rfl) (impl_IsReceiver.sound N) rfl (known_nil)) hmix impl_SilentTick.ok
theorem laws_FnLink.ok : funcOk (mkE Go.Proofs.Try.prog TM FM [(20, (impl_IsReceiver.x.sig, true)), (23, (impl_LinkFrame.x.sig, true)), (29, (impl_NewReceiver.x.sig, true)), (91, (impl_ReceiveAll.x.sig, true)), (93, (impl_SilentTick.x.sig, true)), (31, (laws_big.x.sig, true)), (92, (laws_sameInts.x.sig, true)), (88, (spec_MakeMask.x.sig, true)), (81, (spec_MakeNumber.x.sig, true))]) 4 laws_FnLink.x = true := by kernel_rfl
theorem laws_FnLink.sound (N : Nat) : Sound Go.Proofs.Try.prog (natTbl TM) 4 laws_FnLink.x.sig (laws_FnLink.fs N) := sound_of N (known_cons (fm := FM) (n := 20) (by kernel_rfl) (impl_IsReceiver.sound N) rfl (known_cons (fm := FM) (n := 23) (by kernel_rfl) (impl_LinkFrame.sound N) rfl (known_cons (fm := FM) (n := 29) (by kernel_rfl) (impl_NewReceiver.sound N) rfl (known_cons (fm := FM) (n := 91) (by kernel_rfl) (impl_ReceiveAll.sound N) rfl (known_cons (fm := FM) (n := 93) (by kernel_rfl) (impl_SilentTick.sound N) rfl (known_cons (fm := FM) (n := 31) (by kernel_rfl) (laws_big.sound N) rfl (known_cons (fm := FM) (n := 92) (by kernel_rfl) (laws_sameInts.sound N) rfl (known_cons (fm := FM) (n := 88) (by kernel_rfl) (spec_MakeMask.sound N) rfl (known_cons (fm := FM) (n := 81) (by kernel_rfl) (spec_MakeNumber.sound N) rfl (known_nil)))))))))) hmix laws_FnLink.ok
end Go.Kb
