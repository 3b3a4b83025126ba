/- Each function of the law does what its abstract text does, over the program. -/
import Derived.Test.YtjhcdceoenocpaaKc
import Derived.Test.YtjhcdceoenocpaaF1
import Derived.Test.YtjhcdceoenocpaaF2
import Derived.Test.YtjhcdceoenocpaaRows
import Derived.KernelRfl
namespace Go.Kb
def TM : List (Nat × Nat) := [(2, 3), (1, 5), (16, 9), (4, 36), (6, 46), (12, 71), (5, 93), (3, 119)]
def FM : List (Nat × Nat) := [(17, 63), (18, 26), (6, 65), (30, 28), (1, 72), (19, 64), (249, 27), (20, 66), (93, 29), (9, 67), (11, 30), (12, 68), (13, 31), (14, 69), (15, 32), (250, 6)]
theorem hmix : Go.Proofs.Try.prog.follows .mixedOrders = true := by kernel_rfl
theorem laws_szByteS.ok : funcOk (mkE Go.Proofs.Try.prog TM FM []) 63 laws_szByteS.x = true := by kernel_rfl
theorem laws_szByteS.sound (N : Nat) : Sound Go.Proofs.Try.prog (natTbl TM) 63 laws_szByteS.x.sig (laws_szByteS.fs N) := sound_of N (known_nil) hmix laws_szByteS.ok
theorem laws_szReceiver.ok : funcOk (mkE Go.Proofs.Try.prog TM FM [(17, (laws_szByteS.x.sig, true))]) 26 laws_szReceiver.x = true := by kernel_rfl
theorem laws_szReceiver.sound (N : Nat) : Sound Go.Proofs.Try.prog (natTbl TM) 26 laws_szReceiver.x.sig (laws_szReceiver.fs N) := sound_of N (known_cons (fm := FM) (n := 17) (by kernel_rfl) (laws_szByteS.sound N) rfl (known_nil)) hmix laws_szReceiver.ok
theorem laws_toByteS.ok : funcOk (mkE Go.Proofs.Try.prog TM FM []) 65 laws_toByteS.x = true := by kernel_rfl
theorem laws_toByteS.sound (N : Nat) : Sound Go.Proofs.Try.prog (natTbl TM) 65 laws_toByteS.x.sig (laws_toByteS.fs N) := sound_of N (known_nil) hmix laws_toByteS.ok
theorem laws_toReceiver.ok : funcOk (mkE Go.Proofs.Try.prog TM FM [(6, (laws_toByteS.x.sig, true))]) 28 laws_toReceiver.x = true := by kernel_rfl
theorem laws_toReceiver.sound (N : Nat) : Sound Go.Proofs.Try.prog (natTbl TM) 28 laws_toReceiver.x.sig (laws_toReceiver.fs N) := sound_of N (known_cons (fm := FM) (n := 6) (by kernel_rfl) (laws_toByteS.sound N) rfl (known_nil)) hmix laws_toReceiver.ok
theorem spec_l1In.ok : funcOk (mkE Go.Proofs.Try.prog TM FM []) 72 spec_l1In.x = true := by kernel_rfl
theorem spec_l1In.sound (N : Nat) : Sound Go.Proofs.Try.prog (natTbl TM) 72 spec_l1In.x.sig (spec_l1In.fs N) := sound_of N (known_nil) hmix spec_l1In.ok
theorem spec_IsReceiver.ok : funcOk (mkE Go.Proofs.Try.prog TM FM [(1, (spec_l1In.x.sig, true))]) 64 spec_IsReceiver.x = true := by kernel_rfl
theorem spec_IsReceiver.sound (N : Nat) : Sound Go.Proofs.Try.prog (natTbl TM) 64 spec_IsReceiver.x.sig (spec_IsReceiver.fs N) := sound_of N (known_cons (fm := FM) (n := 1) (by kernel_rfl) (spec_l1In.sound N) rfl (known_nil)) hmix spec_IsReceiver.ok
theorem spec_SilentTick.ok : funcOk (mkE Go.Proofs.Try.prog TM FM [(19, (spec_IsReceiver.x.sig, true))]) 27 spec_SilentTick.x = true := by kernel_rfl
theorem spec_SilentTick.sound (N : Nat) : Sound Go.Proofs.Try.prog (natTbl TM) 27 spec_SilentTick.x.sig (spec_SilentTick.fs N) := sound_of N (known_cons (fm := FM) (n := 19) (by kernel_rfl) (spec_IsReceiver.sound N) rfl (known_nil)) hmix spec_SilentTick.ok
theorem impl_IsReceiver.ok : funcOk (mkE Go.Proofs.Try.prog TM FM []) 66 impl_IsReceiver.x = true := by kernel_rfl
theorem impl_IsReceiver.sound (N : Nat) : Sound Go.Proofs.Try.prog (natTbl TM) 66 impl_IsReceiver.x.sig (impl_IsReceiver.fs N) := sound_of N (known_nil) hmix impl_IsReceiver.ok
theorem impl_SilentTick.ok : funcOk (mkE Go.Proofs.Try.prog TM FM [(20, (impl_IsReceiver.x.sig, true))]) 29 impl_SilentTick.x = true := by kernel_rfl
theorem impl_SilentTick.sound (N : Nat) : Sound Go.Proofs.Try.prog (natTbl TM) 29 impl_SilentTick.x.sig (impl_SilentTick.fs N) := sound_of N (known_cons (fm := FM) (n := 20) (by kernel_rfl) (impl_IsReceiver.sound N) rfl (known_nil)) hmix impl_SilentTick.ok
theorem laws_eqByteS.ok : funcOk (mkE Go.Proofs.Try.prog TM FM []) 67 laws_eqByteS.x = true := by kernel_rfl
theorem laws_eqByteS.sound (N : Nat) : Sound Go.Proofs.Try.prog (natTbl TM) 67 laws_eqByteS.x.sig (laws_eqByteS.fs N) := sound_of N (known_nil) hmix laws_eqByteS.ok
theorem laws_eqReceiver.ok : funcOk (mkE Go.Proofs.Try.prog TM FM [(9, (laws_eqByteS.x.sig, true))]) 30 laws_eqReceiver.x = true := by kernel_rfl
theorem laws_eqReceiver.sound (N : Nat) : Sound Go.Proofs.Try.prog (natTbl TM) 30 laws_eqReceiver.x.sig (laws_eqReceiver.fs N) := sound_of N (known_cons (fm := FM) (n := 9) (by kernel_rfl) (laws_eqByteS.sound N) rfl (known_nil)) hmix laws_eqReceiver.ok
theorem laws_markByteS.ok : funcOk (mkE Go.Proofs.Try.prog TM FM []) 68 laws_markByteS.x = true := by kernel_rfl
theorem laws_markByteS.sound (N : Nat) : Sound Go.Proofs.Try.prog (natTbl TM) 68 laws_markByteS.x.sig (laws_markByteS.fs N) := sound_of N (known_nil) hmix laws_markByteS.ok
theorem laws_markReceiver.ok : funcOk (mkE Go.Proofs.Try.prog TM FM [(12, (laws_markByteS.x.sig, false))]) 31 laws_markReceiver.x = true := by kernel_rfl
theorem laws_markReceiver.sound (N : Nat) : Sound Go.Proofs.Try.prog (natTbl TM) 31 laws_markReceiver.x.sig (laws_markReceiver.fs N) := sound_of N (known_cons (fm := FM) (n := 12) (by kernel_rfl) (laws_markByteS.sound N) rfl (known_nil)) hmix laws_markReceiver.ok
theorem laws_heldByteS.ok : funcOk (mkE Go.Proofs.Try.prog TM FM []) 69 laws_heldByteS.x = true := by kernel_rfl
theorem laws_heldByteS.sound (N : Nat) : Sound Go.Proofs.Try.prog (natTbl TM) 69 laws_heldByteS.x.sig (laws_heldByteS.fs N) := sound_of N (known_nil) hmix laws_heldByteS.ok
theorem laws_heldReceiver.ok : funcOk (mkE Go.Proofs.Try.prog TM FM [(14, (laws_heldByteS.x.sig, true))]) 32 laws_heldReceiver.x = true := by kernel_rfl
theorem laws_heldReceiver.sound (N : Nat) : Sound Go.Proofs.Try.prog (natTbl TM) 32 laws_heldReceiver.x.sig (laws_heldReceiver.fs N) := sound_of N (known_cons (fm := FM) (n := 14) (by kernel_rfl) (laws_heldByteS.sound N) rfl (known_nil)) hmix laws_heldReceiver.ok
theorem laws_FnExactSilentTick.ok : funcOk (mkE Go.Proofs.Try.prog TM FM [(93, (impl_SilentTick.x.sig, true)), (11, (laws_eqReceiver.x.sig, true)), (15, (laws_heldReceiver.x.sig, true)), (13, (laws_markReceiver.x.sig, false)), (18, (laws_szReceiver.x.sig, true)), (30, (laws_toReceiver.x.sig, true)), (249, (spec_SilentTick.x.sig, true))]) 6 laws_FnExactSilentTick.x = true := by kernel_rfl
theorem laws_FnExactSilentTick.sound (N : Nat) : Sound Go.Proofs.Try.prog (natTbl TM) 6 laws_FnExactSilentTick.x.sig (laws_FnExactSilentTick.fs N) := sound_of N (known_cons (fm := FM) (n := 93) (by kernel_rfl) (impl_SilentTick.sound N) rfl (known_cons (fm := FM) (n := 11) (by kernel_rfl) (laws_eqReceiver.sound N) rfl (known_cons (fm := FM) (n := 15) (by kernel_rfl) (laws_heldReceiver.sound N) rfl (known_cons (fm := FM) (n := 13) (by kernel_rfl) (laws_markReceiver.sound N) rfl (known_cons (fm := FM) (n := 18) (by kernel_rfl) (laws_szReceiver.sound N) rfl (known_cons (fm := FM) (n := 30) (by kernel_rfl) (laws_toReceiver.sound N) rfl (known_cons (fm := FM) (n := 249) (by kernel_rfl) (spec_SilentTick.sound N) rfl (known_nil)))))))) hmix laws_FnExactSilentTick.ok
end Go.Kb
