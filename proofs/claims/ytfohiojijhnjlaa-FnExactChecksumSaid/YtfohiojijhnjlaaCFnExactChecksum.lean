/- Each function of the law does what its abstract text does, over the program. -/
import Derived.Test.YtfohiojijhnjlaaKc
import Derived.Test.YtfohiojijhnjlaaFP0
import Derived.Test.YtfohiojijhnjlaaRows
import Derived.KernelRfl
namespace Go.Kb
def TM : List (Nat × Nat) := [(2, 3), (1, 5), (16, 9)]
def FM : List (Nat × Nat) := [(6, 12), (7, 11), (8, 13), (9, 14), (10, 4)]
theorem hmix : Go.Proofs.Try.prog.follows .mixedOrders = true := by kernel_rfl
theorem laws_toByteS.ok : funcOk (mkE Go.Proofs.Try.prog TM FM []) 12 laws_toByteS.x = true := by kernel_rfl
theorem laws_toByteS.sound (N : Nat) : Sound Go.Proofs.Try.prog (natTbl TM) 12 laws_toByteS.x.sig (laws_toByteS.fs N) := sound_of N (known_nil) hmix laws_toByteS.ok
theorem spec_Checksum.ok : funcOk (mkE Go.Proofs.Try.prog TM FM []) 11 spec_Checksum.x = true := by kernel_rfl
theorem spec_Checksum.sound (N : Nat) : Sound Go.Proofs.Try.prog (natTbl TM) 11 spec_Checksum.x.sig (spec_Checksum.fs N) := sound_of N (known_nil) hmix spec_Checksum.ok
theorem impl_Checksum.ok : funcOk (mkE Go.Proofs.Try.prog TM FM []) 13 impl_Checksum.x = true := by kernel_rfl
theorem impl_Checksum.sound (N : Nat) : Sound Go.Proofs.Try.prog (natTbl TM) 13 impl_Checksum.x.sig (impl_Checksum.fs N) := sound_of N (known_nil) hmix impl_Checksum.ok
theorem laws_eqByteS.ok : funcOk (mkE Go.Proofs.Try.prog TM FM []) 14 laws_eqByteS.x = true := by kernel_rfl
theorem laws_eqByteS.sound (N : Nat) : Sound Go.Proofs.Try.prog (natTbl TM) 14 laws_eqByteS.x.sig (laws_eqByteS.fs N) := sound_of N (known_nil) hmix laws_eqByteS.ok
theorem laws_FnExactChecksum.ok : funcOk (mkE Go.Proofs.Try.prog TM FM [(7, (spec_Checksum.x.sig, true)), (6, (laws_toByteS.x.sig, true)), (8, (impl_Checksum.x.sig, true)), (9, (laws_eqByteS.x.sig, true))]) 4 laws_FnExactChecksum.x = true := by kernel_rfl
theorem laws_FnExactChecksum.sound (N : Nat) : Sound Go.Proofs.Try.prog (natTbl TM) 4 laws_FnExactChecksum.x.sig (laws_FnExactChecksum.fs N) := sound_of N (known_cons (fm := FM) (n := 7) (by kernel_rfl) (spec_Checksum.sound N) rfl (known_cons (fm := FM) (n := 6) (by kernel_rfl) (laws_toByteS.sound N) rfl (known_cons (fm := FM) (n := 8) (by kernel_rfl) (impl_Checksum.sound N) rfl (known_cons (fm := FM) (n := 9) (by kernel_rfl) (laws_eqByteS.sound N) rfl (known_nil))))) hmix laws_FnExactChecksum.ok
end Go.Kb
