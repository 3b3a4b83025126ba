/- Each function of the law does what its abstract text does, over the program. -/
import Derived.Test.YtjhcdceoenocpacKc
import Derived.Test.YtjhcdceoenocpacF1
import Derived.Test.YtjhcdceoenocpacF2
import Derived.Test.YtjhcdceoenocpacRows
import Derived.KernelRfl
namespace Go.Kb
def TM : List (Nat × Nat) := [(2, 3), (1, 5), (16, 9), (6, 34), (7, 48), (12, 66)]
def FM : List (Nat × Nat) := [(17, 40), (18, 8), (6, 26), (30, 10), (1, 49), (19, 41), (7, 77), (22, 42), (325, 9), (330, 25), (20, 43), (8, 86), (23, 78), (24, 44), (90, 11), (91, 27), (9, 29), (11, 12), (239, 28), (12, 30), (13, 13), (242, 31), (14, 45), (15, 14), (245, 32), (331, 6)]
theorem hmix : Go.Proofs.Try.prog.follows .mixedOrders = true := by kernel_rfl
theorem laws_szByteS.ok : funcOk (mkE Go.Proofs.Try.prog TM FM []) 40 laws_szByteS.x = true := by kernel_rfl
theorem laws_szByteS.sound (N : Nat) : Sound Go.Proofs.Try.prog (natTbl TM) 40 laws_szByteS.x.sig (laws_szByteS.fs N) := sound_of N (known_nil) hmix laws_szByteS.ok
theorem laws_szReceiver.ok : funcOk (mkE Go.Proofs.Try.prog TM FM [(17, (laws_szByteS.x.sig, true))]) 8 laws_szReceiver.x = true := by kernel_rfl
theorem laws_szReceiver.sound (N : Nat) : Sound Go.Proofs.Try.prog (natTbl TM) 8 laws_szReceiver.x.sig (laws_szReceiver.fs N) := sound_of N (known_cons (fm := FM) (n := 17) (by kernel_rfl) (laws_szByteS.sound N) rfl (known_nil)) hmix laws_szReceiver.ok
theorem laws_toByteS.ok : funcOk (mkE Go.Proofs.Try.prog TM FM []) 26 laws_toByteS.x = true := by kernel_rfl
theorem laws_toByteS.sound (N : Nat) : Sound Go.Proofs.Try.prog (natTbl TM) 26 laws_toByteS.x.sig (laws_toByteS.fs N) := sound_of N (known_nil) hmix laws_toByteS.ok
theorem laws_toReceiver.ok : funcOk (mkE Go.Proofs.Try.prog TM FM [(6, (laws_toByteS.x.sig, true))]) 10 laws_toReceiver.x = true := by kernel_rfl
theorem laws_toReceiver.sound (N : Nat) : Sound Go.Proofs.Try.prog (natTbl TM) 10 laws_toReceiver.x.sig (laws_toReceiver.fs N) := sound_of N (known_cons (fm := FM) (n := 6) (by kernel_rfl) (laws_toByteS.sound N) rfl (known_nil)) hmix laws_toReceiver.ok
theorem spec_l1In.ok : funcOk (mkE Go.Proofs.Try.prog TM FM []) 49 spec_l1In.x = true := by kernel_rfl
theorem spec_l1In.sound (N : Nat) : Sound Go.Proofs.Try.prog (natTbl TM) 49 spec_l1In.x.sig (spec_l1In.fs N) := sound_of N (known_nil) hmix spec_l1In.ok
theorem spec_IsReceiver.ok : funcOk (mkE Go.Proofs.Try.prog TM FM [(1, (spec_l1In.x.sig, true))]) 41 spec_IsReceiver.x = true := by kernel_rfl
theorem spec_IsReceiver.sound (N : Nat) : Sound Go.Proofs.Try.prog (natTbl TM) 41 spec_IsReceiver.x.sig (spec_IsReceiver.fs N) := sound_of N (known_cons (fm := FM) (n := 1) (by kernel_rfl) (spec_l1In.sound N) rfl (known_nil)) hmix spec_IsReceiver.ok
theorem spec_Checksum.ok : funcOk (mkE Go.Proofs.Try.prog TM FM []) 77 spec_Checksum.x = true := by kernel_rfl
theorem spec_Checksum.sound (N : Nat) : Sound Go.Proofs.Try.prog (natTbl TM) 77 spec_Checksum.x.sig (spec_Checksum.fs N) := sound_of N (known_nil) hmix spec_Checksum.ok
theorem spec_ReadFrame.ok : funcOk (mkE Go.Proofs.Try.prog TM FM [(7, (spec_Checksum.x.sig, true))]) 42 spec_ReadFrame.x = true := by kernel_rfl
theorem spec_ReadFrame.sound (N : Nat) : Sound Go.Proofs.Try.prog (natTbl TM) 42 spec_ReadFrame.x.sig (spec_ReadFrame.fs N) := sound_of N (known_cons (fm := FM) (n := 7) (by kernel_rfl) (spec_Checksum.sound N) rfl (known_nil)) hmix spec_ReadFrame.ok
theorem spec_ReceiveByte.ok : funcOk (mkE Go.Proofs.Try.prog TM FM [(19, (spec_IsReceiver.x.sig, true)), (22, (spec_ReadFrame.x.sig, true))]) 9 spec_ReceiveByte.x = true := by kernel_rfl
theorem spec_ReceiveByte.sound (N : Nat) : Sound Go.Proofs.Try.prog (natTbl TM) 9 spec_ReceiveByte.x.sig (spec_ReceiveByte.fs N) := sound_of N (known_cons (fm := FM) (n := 19) (by kernel_rfl) (spec_IsReceiver.sound N) rfl (known_cons (fm := FM) (n := 22) (by kernel_rfl) (spec_ReadFrame.sound N) rfl (known_nil))) hmix spec_ReceiveByte.ok
theorem spec_ReceiveAll.ok : funcOk (mkE Go.Proofs.Try.prog TM FM [(19, (spec_IsReceiver.x.sig, true)), (325, (spec_ReceiveByte.x.sig, true))]) 25 spec_ReceiveAll.x = true := by kernel_rfl
theorem spec_ReceiveAll.sound (N : Nat) : Sound Go.Proofs.Try.prog (natTbl TM) 25 spec_ReceiveAll.x.sig (spec_ReceiveAll.fs N) := sound_of N (known_cons (fm := FM) (n := 19) (by kernel_rfl) (spec_IsReceiver.sound N) rfl (known_cons (fm := FM) (n := 325) (by kernel_rfl) (spec_ReceiveByte.sound N) rfl (known_nil))) hmix spec_ReceiveAll.ok
theorem impl_IsReceiver.ok : funcOk (mkE Go.Proofs.Try.prog TM FM []) 43 impl_IsReceiver.x = true := by kernel_rfl
theorem impl_IsReceiver.sound (N : Nat) : Sound Go.Proofs.Try.prog (natTbl TM) 43 impl_IsReceiver.x.sig (impl_IsReceiver.fs N) := sound_of N (known_nil) hmix impl_IsReceiver.ok
theorem impl_Checksum.ok : funcOk (mkE Go.Proofs.Try.prog TM FM []) 86 impl_Checksum.x = true := by kernel_rfl
theorem impl_Checksum.sound (N : Nat) : Sound Go.Proofs.Try.prog (natTbl TM) 86 impl_Checksum.x.sig (impl_Checksum.fs N) := sound_of N (known_nil) hmix impl_Checksum.ok
theorem impl_LinkFrame.ok : funcOk (mkE Go.Proofs.Try.prog TM FM [(8, (impl_Checksum.x.sig, true))]) 78 impl_LinkFrame.x = true := by kernel_rfl
theorem impl_LinkFrame.sound (N : Nat) : Sound Go.Proofs.Try.prog (natTbl TM) 78 impl_LinkFrame.x.sig (impl_LinkFrame.fs N) := sound_of N (known_cons (fm := FM) (n := 8) (by kernel_rfl) (impl_Checksum.sound N) rfl (known_nil)) hmix impl_LinkFrame.ok
theorem impl_ReadFrame.ok : funcOk (mkE Go.Proofs.Try.prog TM FM [(23, (impl_LinkFrame.x.sig, true))]) 44 impl_ReadFrame.x = true := by kernel_rfl
theorem impl_ReadFrame.sound (N : Nat) : Sound Go.Proofs.Try.prog (natTbl TM) 44 impl_ReadFrame.x.sig (impl_ReadFrame.fs N) := sound_of N (known_cons (fm := FM) (n := 23) (by kernel_rfl) (impl_LinkFrame.sound N) rfl (known_nil)) hmix impl_ReadFrame.ok
theorem impl_ReceiveByte.ok : funcOk (mkE Go.Proofs.Try.prog TM FM [(20, (impl_IsReceiver.x.sig, true)), (24, (impl_ReadFrame.x.sig, true))]) 11 impl_ReceiveByte.x = true := by kernel_rfl
theorem impl_ReceiveByte.sound (N : Nat) : Sound Go.Proofs.Try.prog (natTbl TM) 11 impl_ReceiveByte.x.sig (impl_ReceiveByte.fs N) := sound_of N (known_cons (fm := FM) (n := 20) (by kernel_rfl) (impl_IsReceiver.sound N) rfl (known_cons (fm := FM) (n := 24) (by kernel_rfl) (impl_ReadFrame.sound N) rfl (known_nil))) hmix impl_ReceiveByte.ok
theorem impl_ReceiveAll.ok : funcOk (mkE Go.Proofs.Try.prog TM FM [(20, (impl_IsReceiver.x.sig, true)), (90, (impl_ReceiveByte.x.sig, true))]) 27 impl_ReceiveAll.x = true := by kernel_rfl
theorem impl_ReceiveAll.sound (N : Nat) : Sound Go.Proofs.Try.prog (natTbl TM) 27 impl_ReceiveAll.x.sig (impl_ReceiveAll.fs N) := sound_of N (known_cons (fm := FM) (n := 20) (by kernel_rfl) (impl_IsReceiver.sound N) rfl (known_cons (fm := FM) (n := 90) (by kernel_rfl) (impl_ReceiveByte.sound N) rfl (known_nil))) hmix impl_ReceiveAll.ok
theorem laws_eqByteS.ok : funcOk (mkE Go.Proofs.Try.prog TM FM []) 29 laws_eqByteS.x = true := by kernel_rfl
theorem laws_eqByteS.sound (N : Nat) : Sound Go.Proofs.Try.prog (natTbl TM) 29 laws_eqByteS.x.sig (laws_eqByteS.fs N) := sound_of N (known_nil) hmix laws_eqByteS.ok
theorem laws_eqReceiver.ok : funcOk (mkE Go.Proofs.Try.prog TM FM [(9, (laws_eqByteS.x.sig, true))]) 12 laws_eqReceiver.x = true := by kernel_rfl
theorem laws_eqReceiver.sound (N : Nat) : Sound Go.Proofs.Try.prog (natTbl TM) 12 laws_eqReceiver.x.sig (laws_eqReceiver.fs N) := sound_of N (known_cons (fm := FM) (n := 9) (by kernel_rfl) (laws_eqByteS.sound N) rfl (known_nil)) hmix laws_eqReceiver.ok
theorem laws_eqIntS.ok : funcOk (mkE Go.Proofs.Try.prog TM FM []) 28 laws_eqIntS.x = true := by kernel_rfl
theorem laws_eqIntS.sound (N : Nat) : Sound Go.Proofs.Try.prog (natTbl TM) 28 laws_eqIntS.x.sig (laws_eqIntS.fs N) := sound_of N (known_nil) hmix laws_eqIntS.ok
theorem laws_markByteS.ok : funcOk (mkE Go.Proofs.Try.prog TM FM []) 30 laws_markByteS.x = true := by kernel_rfl
theorem laws_markByteS.sound (N : Nat) : Sound Go.Proofs.Try.prog (natTbl TM) 30 laws_markByteS.x.sig (laws_markByteS.fs N) := sound_of N (known_nil) hmix laws_markByteS.ok
theorem laws_markReceiver.ok : funcOk (mkE Go.Proofs.Try.prog TM FM [(12, (laws_markByteS.x.sig, false))]) 13 laws_markReceiver.x = true := by kernel_rfl
theorem laws_markReceiver.sound (N : Nat) : Sound Go.Proofs.Try.prog (natTbl TM) 13 laws_markReceiver.x.sig (laws_markReceiver.fs N) := sound_of N (known_cons (fm := FM) (n := 12) (by kernel_rfl) (laws_markByteS.sound N) rfl (known_nil)) hmix laws_markReceiver.ok
theorem laws_markIntS.ok : funcOk (mkE Go.Proofs.Try.prog TM FM []) 31 laws_markIntS.x = true := by kernel_rfl
theorem laws_markIntS.sound (N : Nat) : Sound Go.Proofs.Try.prog (natTbl TM) 31 laws_markIntS.x.sig (laws_markIntS.fs N) := sound_of N (known_nil) hmix laws_markIntS.ok
theorem laws_heldByteS.ok : funcOk (mkE Go.Proofs.Try.prog TM FM []) 45 laws_heldByteS.x = true := by kernel_rfl
theorem laws_heldByteS.sound (N : Nat) : Sound Go.Proofs.Try.prog (natTbl TM) 45 laws_heldByteS.x.sig (laws_heldByteS.fs N) := sound_of N (known_nil) hmix laws_heldByteS.ok
theorem laws_heldReceiver.ok : funcOk (mkE Go.Proofs.Try.prog TM FM [(14, (laws_heldByteS.x.sig, true))]) 14 laws_heldReceiver.x = true := by kernel_rfl
theorem laws_heldReceiver.sound (N : Nat) : Sound Go.Proofs.Try.prog (natTbl TM) 14 laws_heldReceiver.x.sig (laws_heldReceiver.fs N) := sound_of N (known_cons (fm := FM) (n := 14) (by kernel_rfl) (laws_heldByteS.sound N) rfl (known_nil)) hmix laws_heldReceiver.ok
theorem laws_heldIntS.ok : funcOk (mkE Go.Proofs.Try.prog TM FM []) 32 laws_heldIntS.x = true := by kernel_rfl
theorem laws_heldIntS.sound (N : Nat) : Sound Go.Proofs.Try.prog (natTbl TM) 32 laws_heldIntS.x.sig (laws_heldIntS.fs N) := sound_of N (known_nil) hmix laws_heldIntS.ok
theorem laws_FnExactReceiveAll.ok : funcOk (mkE Go.Proofs.Try.prog TM FM [(91, (impl_ReceiveAll.x.sig, true)), (9, (laws_eqByteS.x.sig, true)), (239, (laws_eqIntS.x.sig, true)), (11, (laws_eqReceiver.x.sig, true)), (245, (laws_heldIntS.x.sig, true)), (15, (laws_heldReceiver.x.sig, true)), (12, (laws_markByteS.x.sig, false)), (242, (laws_markIntS.x.sig, false)), (13, (laws_markReceiver.x.sig, false)), (18, (laws_szReceiver.x.sig, true)), (6, (laws_toByteS.x.sig, true)), (30, (laws_toReceiver.x.sig, true)), (330, (spec_ReceiveAll.x.sig, true))]) 6 laws_FnExactReceiveAll.x = true := by kernel_rfl
theorem laws_FnExactReceiveAll.sound (N : Nat) : Sound Go.Proofs.Try.prog (natTbl TM) 6 laws_FnExactReceiveAll.x.sig (laws_FnExactReceiveAll.fs N) := sound_of N (known_cons (fm := FM) (n := 91) (by kernel_rfl) (impl_ReceiveAll.sound N) rfl (known_cons (fm := FM) (n := 9) (by kernel_rfl) (laws_eqByteS.sound N) rfl (known_cons (fm := FM) (n := 239) (by kernel_rfl) (laws_eqIntS.sound N) rfl (known_cons (fm := FM) (n := 11) (by kernel_rfl) (laws_eqReceiver.sound N) rfl (known_cons (fm := FM) (n := 245) (by kernel_rfl) (laws_heldIntS.sound N) rfl (known_cons (fm := FM) (n := 15) (by kernel_rfl) (laws_heldReceiver.sound N) rfl (known_cons (fm := FM) (n := 12) (by kernel_rfl) (laws_markByteS.sound N) rfl (known_cons (fm := FM) (n := 242) (by kernel_rfl) (laws_markIntS.sound N) rfl (known_cons (fm := FM) (n := 13) (by kernel_rfl) (laws_markReceiver.sound N) rfl (known_cons (fm := FM) (n := 18) (by kernel_rfl) (laws_szReceiver.sound N) rfl (known_cons (fm := FM) (n := 6) (by kernel_rfl) (laws_toByteS.sound N) rfl (known_cons (fm := FM) (n := 30) (by kernel_rfl) (laws_toReceiver.sound N) rfl (known_cons (fm := FM) (n := 330) (by kernel_rfl) (spec_ReceiveAll.sound N) rfl (known_nil)))))))))))))) hmix laws_FnExactReceiveAll.ok
end Go.Kb
