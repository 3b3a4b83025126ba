/- Each function of the law does what its abstract text does, over the program. -/
import Derived.Test.YtjhcdceoenocpaaKc
import Derived.Test.YtjhcdceoenocpaaF1
import Derived.Test.YtjhcdceoenocpaaF2
import Derived.Test.YtjhcdceoenocpaaRows
import Derived.KernelRfl
namespace Go.Kb
def TM : List (Nat × Nat) := [(2, 3), (1, 5), (16, 9), (4, 36), (6, 46), (12, 71), (5, 93), (3, 119)]
def FM : List (Nat × Nat) := [(31, 9), (236, 79), (237, 46), (32, 85), (33, 50), (81, 13), (46, 92), (87, 59), (88, 19), (8, 58), (23, 18), (24, 20), (89, 4)]
theorem hmix : Go.Proofs.Try.prog.follows .mixedOrders = true := by kernel_rfl
theorem laws_big.ok : funcOk (mkE Go.Proofs.Try.prog TM FM []) 9 laws_big.x = true := by kernel_rfl
theorem laws_big.sound (N : Nat) : Sound Go.Proofs.Try.prog (natTbl TM) 9 laws_big.x.sig (laws_big.fs N) := sound_of N (known_nil) hmix laws_big.ok
theorem spec_l1New.ok : funcOk (mkE Go.Proofs.Try.prog TM FM []) 79 spec_l1New.x = true := by kernel_rfl
theorem spec_l1New.sound (N : Nat) : Sound Go.Proofs.Try.prog (natTbl TM) 79 spec_l1New.x.sig (spec_l1New.fs N) := sound_of N (known_nil) hmix spec_l1New.ok
theorem spec_l24New.ok : funcOk (mkE Go.Proofs.Try.prog TM FM [(236, (spec_l1New.x.sig, false))]) 46 spec_l24New.x = true := by kernel_rfl
theorem spec_l24New.sound (N : Nat) : Sound Go.Proofs.Try.prog (natTbl TM) 46 spec_l24New.x.sig (spec_l24New.fs N) := sound_of N (known_cons (fm := FM) (n := 236) (by kernel_rfl) (spec_l1New.sound N) rfl (known_nil)) hmix spec_l24New.ok
theorem spec_l1Byte.ok : funcOk (mkE Go.Proofs.Try.prog TM FM []) 85 spec_l1Byte.x = true := by kernel_rfl
theorem spec_l1Byte.sound (N : Nat) : Sound Go.Proofs.Try.prog (natTbl TM) 85 spec_l1Byte.x.sig (spec_l1Byte.fs N) := sound_of N (known_nil) hmix spec_l1Byte.ok
theorem spec_l1Below.ok : funcOk (mkE Go.Proofs.Try.prog TM FM [(32, (spec_l1Byte.x.sig, false))]) 50 spec_l1Below.x = true := by kernel_rfl
theorem spec_l1Below.sound (N : Nat) : Sound Go.Proofs.Try.prog (natTbl TM) 50 spec_l1Below.x.sig (spec_l1Below.fs N) := sound_of N (known_cons (fm := FM) (n := 32) (by kernel_rfl) (spec_l1Byte.sound N) rfl (known_nil)) hmix spec_l1Below.ok
theorem spec_MakeNumber.ok : funcOk (mkE Go.Proofs.Try.prog TM FM [(33, (spec_l1Below.x.sig, false)), (237, (spec_l24New.x.sig, false))]) 13 spec_MakeNumber.x = true := by kernel_rfl
theorem spec_MakeNumber.sound (N : Nat) : Sound Go.Proofs.Try.prog (natTbl TM) 13 spec_MakeNumber.x.sig (spec_MakeNumber.fs N) := sound_of N (known_cons (fm := FM) (n := 33) (by kernel_rfl) (spec_l1Below.sound N) rfl (known_cons (fm := FM) (n := 237) (by kernel_rfl) (spec_l24New.sound N) rfl (known_nil))) hmix spec_MakeNumber.ok
theorem spec_l1PickInt.ok : funcOk (mkE Go.Proofs.Try.prog TM FM [(33, (spec_l1Below.x.sig, false))]) 92 spec_l1PickInt.x = true := by kernel_rfl
theorem spec_l1PickInt.sound (N : Nat) : Sound Go.Proofs.Try.prog (natTbl TM) 92 spec_l1PickInt.x.sig (spec_l1PickInt.fs N) := sound_of N (known_cons (fm := FM) (n := 33) (by kernel_rfl) (spec_l1Below.sound N) rfl (known_nil)) hmix spec_l1PickInt.ok
theorem spec_l15Mask.ok : funcOk (mkE Go.Proofs.Try.prog TM FM [(33, (spec_l1Below.x.sig, false)), (46, (spec_l1PickInt.x.sig, false))]) 59 spec_l15Mask.x = true := by kernel_rfl
theorem spec_l15Mask.sound (N : Nat) : Sound Go.Proofs.Try.prog (natTbl TM) 59 spec_l15Mask.x.sig (spec_l15Mask.fs N) := sound_of N (known_cons (fm := FM) (n := 33) (by kernel_rfl) (spec_l1Below.sound N) rfl (known_cons (fm := FM) (n := 46) (by kernel_rfl) (spec_l1PickInt.sound N) rfl (known_nil))) hmix spec_l15Mask.ok
theorem spec_MakeMask.ok : funcOk (mkE Go.Proofs.Try.prog TM FM [(87, (spec_l15Mask.x.sig, false)), (237, (spec_l24New.x.sig, false))]) 19 spec_MakeMask.x = true := by kernel_rfl
theorem spec_MakeMask.sound (N : Nat) : Sound Go.Proofs.Try.prog (natTbl TM) 19 spec_MakeMask.x.sig (spec_MakeMask.fs N) := sound_of N (known_cons (fm := FM) (n := 87) (by kernel_rfl) (spec_l15Mask.sound N) rfl (known_cons (fm := FM) (n := 237) (by kernel_rfl) (spec_l24New.sound N) rfl (known_nil))) hmix spec_MakeMask.ok
theorem impl_Checksum.ok : funcOk (mkE Go.Proofs.Try.prog TM FM []) 58 impl_Checksum.x = true := by kernel_rfl
theorem impl_Checksum.sound (N : Nat) : Sound Go.Proofs.Try.prog (natTbl TM) 58 impl_Checksum.x.sig (impl_Checksum.fs N) := sound_of N (known_nil) hmix impl_Checksum.ok
theorem impl_LinkFrame.ok : funcOk (mkE Go.Proofs.Try.prog TM FM [(8, (impl_Checksum.x.sig, true))]) 18 impl_LinkFrame.x = true := by kernel_rfl
theorem impl_LinkFrame.sound (N : Nat) : Sound Go.Proofs.Try.prog (natTbl TM) 18 impl_LinkFrame.x.sig (impl_LinkFrame.fs N) := sound_of N (known_cons (fm := FM) (n := 8) (by kernel_rfl) (impl_Checksum.sound N) rfl (known_nil)) hmix impl_LinkFrame.ok
theorem impl_ReadFrame.ok : funcOk (mkE Go.Proofs.Try.prog TM FM [(23, (impl_LinkFrame.x.sig, true))]) 20 impl_ReadFrame.x = true := by kernel_rfl
theorem impl_ReadFrame.sound (N : Nat) : Sound Go.Proofs.Try.prog (natTbl TM) 20 impl_ReadFrame.x.sig (impl_ReadFrame.fs N) := sound_of N (known_cons (fm := FM) (n := 23) (by kernel_rfl) (impl_LinkFrame.sound N) rfl (known_nil)) hmix impl_ReadFrame.ok
theorem laws_FnBurst.ok : funcOk (mkE Go.Proofs.Try.prog TM FM [(23, (impl_LinkFrame.x.sig, true)), (24, (impl_ReadFrame.x.sig, true)), (31, (laws_big.x.sig, true)), (88, (spec_MakeMask.x.sig, true)), (81, (spec_MakeNumber.x.sig, true))]) 4 laws_FnBurst.x = true := by kernel_rfl
theorem laws_FnBurst.sound (N : Nat) : Sound Go.Proofs.Try.prog (natTbl TM) 4 laws_FnBurst.x.sig (laws_FnBurst.fs N) := sound_of N (known_cons (fm := FM) (n := 23) (by kernel_rfl) (impl_LinkFrame.sound N) rfl (known_cons (fm := FM) (n := 24) (by kernel_rfl) (impl_ReadFrame.sound N) rfl (known_cons (fm := FM) (n := 31) (by kernel_rfl) (laws_big.sound N) rfl (known_cons (fm := FM) (n := 88) (by kernel_rfl) (spec_MakeMask.sound N) rfl (known_cons (fm := FM) (n := 81) (by kernel_rfl) (spec_MakeNumber.sound N) rfl (known_nil)))))) hmix laws_FnBurst.ok
end Go.Kb
