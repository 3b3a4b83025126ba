/- Each function of the law does what its abstract text does, over the program. -/
import Derived.Test.YtfohiojijhnjlaaKc
import Derived.Test.YtfohiojijhnjlaaFP0
import Derived.Test.YtfohiojijhnjlaaRows
import Derived.KernelRfl
namespace Go.Kb
def TM : List (Nat × Nat) := [(2, 3), (1, 5), (16, 9)]
def FM : List (Nat × Nat) := [(17, 32), (18, 20), (6, 12), (30, 22), (1, 30), (19, 21), (20, 23), (9, 14), (11, 17), (21, 6)]
theorem hmix : Go.Proofs.Try.prog.follows .mixedOrders = true := by kernel_rfl
theorem laws_szByteS.ok : funcOk (mkE Go.Proofs.Try.prog TM FM []) 32 laws_szByteS.x = true := by kernel_rfl
theorem laws_szByteS.sound (N : Nat) : Sound Go.Proofs.Try.prog (natTbl TM) 32 laws_szByteS.x.sig (laws_szByteS.fs N) := sound_of N (known_nil) hmix laws_szByteS.ok
theorem laws_szReceiver.ok : funcOk (mkE Go.Proofs.Try.prog TM FM [(17, (laws_szByteS.x.sig, true))]) 20 laws_szReceiver.x = true := by kernel_rfl
theorem laws_szReceiver.sound (N : Nat) : Sound Go.Proofs.Try.prog (natTbl TM) 20 laws_szReceiver.x.sig (laws_szReceiver.fs N) := sound_of N (known_cons (fm := FM) (n := 17) (by kernel_rfl) (laws_szByteS.sound N) rfl (known_nil)) hmix laws_szReceiver.ok
theorem laws_toByteS.ok : funcOk (mkE Go.Proofs.Try.prog TM FM []) 12 laws_toByteS.x = true := by kernel_rfl
theorem laws_toByteS.sound (N : Nat) : Sound Go.Proofs.Try.prog (natTbl TM) 12 laws_toByteS.x.sig (laws_toByteS.fs N) := sound_of N (known_nil) hmix laws_toByteS.ok
theorem laws_toReceiver.ok : funcOk (mkE Go.Proofs.Try.prog TM FM [(6, (laws_toByteS.x.sig, true))]) 22 laws_toReceiver.x = true := by kernel_rfl
theorem laws_toReceiver.sound (N : Nat) : Sound Go.Proofs.Try.prog (natTbl TM) 22 laws_toReceiver.x.sig (laws_toReceiver.fs N) := sound_of N (known_cons (fm := FM) (n := 6) (by kernel_rfl) (laws_toByteS.sound N) rfl (known_nil)) hmix laws_toReceiver.ok
theorem spec_l1In.ok : funcOk (mkE Go.Proofs.Try.prog TM FM []) 30 spec_l1In.x = true := by kernel_rfl
theorem spec_l1In.sound (N : Nat) : Sound Go.Proofs.Try.prog (natTbl TM) 30 spec_l1In.x.sig (spec_l1In.fs N) := sound_of N (known_nil) hmix spec_l1In.ok
theorem spec_IsReceiver.ok : funcOk (mkE Go.Proofs.Try.prog TM FM [(1, (spec_l1In.x.sig, true))]) 21 spec_IsReceiver.x = true := by kernel_rfl
theorem spec_IsReceiver.sound (N : Nat) : Sound Go.Proofs.Try.prog (natTbl TM) 21 spec_IsReceiver.x.sig (spec_IsReceiver.fs N) := sound_of N (known_cons (fm := FM) (n := 1) (by kernel_rfl) (spec_l1In.sound N) rfl (known_nil)) hmix spec_IsReceiver.ok
theorem impl_IsReceiver.ok : funcOk (mkE Go.Proofs.Try.prog TM FM []) 23 impl_IsReceiver.x = true := by kernel_rfl
theorem impl_IsReceiver.sound (N : Nat) : Sound Go.Proofs.Try.prog (natTbl TM) 23 impl_IsReceiver.x.sig (impl_IsReceiver.fs N) := sound_of N (known_nil) hmix impl_IsReceiver.ok
theorem laws_eqByteS.ok : funcOk (mkE Go.Proofs.Try.prog TM FM []) 14 laws_eqByteS.x = true := by kernel_rfl
theorem laws_eqByteS.sound (N : Nat) : Sound Go.Proofs.Try.prog (natTbl TM) 14 laws_eqByteS.x.sig (laws_eqByteS.fs N) := sound_of N (known_nil) hmix laws_eqByteS.ok
theorem laws_eqReceiver.ok : funcOk (mkE Go.Proofs.Try.prog TM FM [(9, (laws_eqByteS.x.sig, true))]) 17 laws_eqReceiver.x = true := by kernel_rfl
theorem laws_eqReceiver.sound (N : Nat) : Sound Go.Proofs.Try.prog (natTbl TM) 17 laws_eqReceiver.x.sig (laws_eqReceiver.fs N) := sound_of N (known_cons (fm := FM) (n := 9) (by kernel_rfl) (laws_eqByteS.sound N) rfl (known_nil)) hmix laws_eqReceiver.ok
theorem laws_FnExactIsReceiver.ok : funcOk (mkE Go.Proofs.Try.prog TM FM [(11, (laws_eqReceiver.x.sig, true)), (18, (laws_szReceiver.x.sig, true)), (19, (spec_IsReceiver.x.sig, true)), (30, (laws_toReceiver.x.sig, true)), (20, (impl_IsReceiver.x.sig, true))]) 6 laws_FnExactIsReceiver.x = true := by kernel_rfl
theorem laws_FnExactIsReceiver.sound (N : Nat) : Sound Go.Proofs.Try.prog (natTbl TM) 6 laws_FnExactIsReceiver.x.sig (laws_FnExactIsReceiver.fs N) := sound_of N (known_cons (fm := FM) (n := 11) (by kernel_rfl) (laws_eqReceiver.sound N) rfl (known_cons (fm := FM) (n := 18) (by kernel_rfl) (laws_szReceiver.sound N) rfl (known_cons (fm := FM) (n := 19) (by kernel_rfl) (spec_IsReceiver.sound N) rfl (known_cons (fm := FM) (n := 30) (by kernel_rfl) (laws_toReceiver.sound N) rfl (known_cons (fm := FM) (n := 20) (by kernel_rfl) (impl_IsReceiver.sound N) rfl (known_nil)))))) hmix laws_FnExactIsReceiver.ok
end Go.Kb
