/- Each function of the law does what its abstract text does, over the program. -/
import Derived.Test.YtfohiojijhnjlaaKc
import Derived.Test.YtfohiojijhnjlaaFP0
import Derived.Test.YtfohiojijhnjlaaRows
import Derived.KernelRfl
namespace Go.Kb
def TM : List (Nat × Nat) := [(2, 3), (1, 5), (16, 9)]
def FM : List (Nat × Nat) := [(28, 15), (29, 16), (9, 14), (11, 17), (12, 28), (13, 18), (14, 29), (15, 19), (16, 5)]
theorem hmix : Go.Proofs.Try.prog.follows .mixedOrders = true := by kernel_rfl
theorem spec_NewReceiver.ok : funcOk (mkE Go.Proofs.Try.prog TM FM []) 15 spec_NewReceiver.x = true := by kernel_rfl
theorem spec_NewReceiver.sound (N : Nat) : Sound Go.Proofs.Try.prog (natTbl TM) 15 spec_NewReceiver.x.sig (spec_NewReceiver.fs N) := sound_of N (known_nil) hmix spec_NewReceiver.ok
theorem impl_NewReceiver.ok : funcOk (mkE Go.Proofs.Try.prog TM FM []) 16 impl_NewReceiver.x = true := by kernel_rfl
theorem impl_NewReceiver.sound (N : Nat) : Sound Go.Proofs.Try.prog (natTbl TM) 16 impl_NewReceiver.x.sig (impl_NewReceiver.fs N) := sound_of N (known_nil) hmix impl_NewReceiver.ok
theorem laws_eqByteS.ok : funcOk (mkE Go.Proofs.Try.prog TM FM []) 14 laws_eqByteS.x = true := by kernel_rfl
theorem laws_eqByteS.sound (N : Nat) : Sound Go.Proofs.Try.prog (natTbl TM) 14 laws_eqByteS.x.sig (laws_eqByteS.fs N) := sound_of N (known_nil) hmix laws_eqByteS.ok
theorem laws_eqReceiver.ok : funcOk (mkE Go.Proofs.Try.prog TM FM [(9, (laws_eqByteS.x.sig, true))]) 17 laws_eqReceiver.x = true := by kernel_rfl
theorem laws_eqReceiver.sound (N : Nat) : Sound Go.Proofs.Try.prog (natTbl TM) 17 laws_eqReceiver.x.sig (laws_eqReceiver.fs N) := sound_of N (known_cons (fm := FM) (n := 9) (by kernel_rfl) (laws_eqByteS.sound N) rfl (known_nil)) hmix laws_eqReceiver.ok
theorem laws_markByteS.ok : funcOk (mkE Go.Proofs.Try.prog TM FM []) 28 laws_markByteS.x = true := by kernel_rfl
theorem laws_markByteS.sound (N : Nat) : Sound Go.Proofs.Try.prog (natTbl TM) 28 laws_markByteS.x.sig (laws_markByteS.fs N) := sound_of N (known_nil) hmix laws_markByteS.ok
theorem laws_markReceiver.ok : funcOk (mkE Go.Proofs.Try.prog TM FM [(12, (laws_markByteS.x.sig, false))]) 18 laws_markReceiver.x = true := by kernel_rfl
theorem laws_markReceiver.sound (N : Nat) : Sound Go.Proofs.Try.prog (natTbl TM) 18 laws_markReceiver.x.sig (laws_markReceiver.fs N) := sound_of N (known_cons (fm := FM) (n := 12) (by kernel_rfl) (laws_markByteS.sound N) rfl (known_nil)) hmix laws_markReceiver.ok
theorem laws_heldByteS.ok : funcOk (mkE Go.Proofs.Try.prog TM FM []) 29 laws_heldByteS.x = true := by kernel_rfl
theorem laws_heldByteS.sound (N : Nat) : Sound Go.Proofs.Try.prog (natTbl TM) 29 laws_heldByteS.x.sig (laws_heldByteS.fs N) := sound_of N (known_nil) hmix laws_heldByteS.ok
theorem laws_heldReceiver.ok : funcOk (mkE Go.Proofs.Try.prog TM FM [(14, (laws_heldByteS.x.sig, true))]) 19 laws_heldReceiver.x = true := by kernel_rfl
theorem laws_heldReceiver.sound (N : Nat) : Sound Go.Proofs.Try.prog (natTbl TM) 19 laws_heldReceiver.x.sig (laws_heldReceiver.fs N) := sound_of N (known_cons (fm := FM) (n := 14) (by kernel_rfl) (laws_heldByteS.sound N) rfl (known_nil)) hmix laws_heldReceiver.ok
theorem laws_FnExactNewReceiver.ok : funcOk (mkE Go.Proofs.Try.prog TM FM [(28, (spec_NewReceiver.x.sig, true)), (29, (impl_NewReceiver.x.sig, true)), (11, (laws_eqReceiver.x.sig, true)), (13, (laws_markReceiver.x.sig, false)), (15, (laws_heldReceiver.x.sig, true))]) 5 laws_FnExactNewReceiver.x = true := by kernel_rfl
theorem laws_FnExactNewReceiver.sound (N : Nat) : Sound Go.Proofs.Try.prog (natTbl TM) 5 laws_FnExactNewReceiver.x.sig (laws_FnExactNewReceiver.fs N) := sound_of N (known_cons (fm := FM) (n := 28) (by kernel_rfl) (spec_NewReceiver.sound N) rfl (known_cons (fm := FM) (n := 29) (by kernel_rfl) (impl_NewReceiver.sound N) rfl (known_cons (fm := FM) (n := 11) (by kernel_rfl) (laws_eqReceiver.sound N) rfl (known_cons (fm := FM) (n := 13) (by kernel_rfl) (laws_markReceiver.sound N) rfl (known_cons (fm := FM) (n := 15) (by kernel_rfl) (laws_heldReceiver.sound N) rfl (known_nil)))))) hmix laws_FnExactNewReceiver.ok
end Go.Kb
