/- Each function of the law does what its abstract text does, over the program. -/
import Derived.Test.YtfohiojijhnjlaaKc
import Derived.Test.YtfohiojijhnjlaaFP0
import Derived.Test.YtfohiojijhnjlaaRows
import Derived.KernelRfl
namespace Go.Kb
def TM : List (Nat × Nat) := [(2, 3), (1, 5), (16, 9)]
def FM : List (Nat × Nat) := [(1, 30), (2, 9), (3, 31), (4, 10), (5, 3)]
theorem hmix : Go.Proofs.Try.prog.follows .mixedOrders = true := by kernel_rfl
theorem spec_l1In.ok : funcOk (mkE Go.Proofs.Try.prog TM FM []) 30 spec_l1In.x = true := by kernel_rfl
theorem spec_l1In.sound (N : Nat) : Sound Go.Proofs.Try.prog (natTbl TM) 30 spec_l1In.x.sig (spec_l1In.fs N) := sound_of N (known_nil) hmix spec_l1In.ok
theorem spec_CheckOf.ok : funcOk (mkE Go.Proofs.Try.prog TM FM [(1, (spec_l1In.x.sig, true))]) 9 spec_CheckOf.x = true := by kernel_rfl
theorem spec_CheckOf.sound (N : Nat) : Sound Go.Proofs.Try.prog (natTbl TM) 9 spec_CheckOf.x.sig (spec_CheckOf.fs N) := sound_of N (known_cons (fm := FM) (n := 1) (by kernel_rfl) (spec_l1In.sound N) rfl (known_nil)) hmix spec_CheckOf.ok
theorem impl_isSetting.ok : funcOk (mkE Go.Proofs.Try.prog TM FM []) 31 impl_isSetting.x = true := by kernel_rfl
theorem impl_isSetting.sound (N : Nat) : Sound Go.Proofs.Try.prog (natTbl TM) 31 impl_isSetting.x.sig (impl_isSetting.fs N) := sound_of N (known_nil) hmix impl_isSetting.ok
theorem impl_CheckOf.ok : funcOk (mkE Go.Proofs.Try.prog TM FM [(3, (impl_isSetting.x.sig, true))]) 10 impl_CheckOf.x = true := by kernel_rfl
theorem impl_CheckOf.sound (N : Nat) : Sound Go.Proofs.Try.prog (natTbl TM) 10 impl_CheckOf.x.sig (impl_CheckOf.fs N) := sound_of N (known_cons (fm := FM) (n := 3) (by kernel_rfl) (impl_isSetting.sound N) rfl (known_nil)) hmix impl_CheckOf.ok
theorem laws_FnExactCheckOf.ok : funcOk (mkE Go.Proofs.Try.prog TM FM [(2, (spec_CheckOf.x.sig, true)), (4, (impl_CheckOf.x.sig, true))]) 3 laws_FnExactCheckOf.x = true := by kernel_rfl
theorem laws_FnExactCheckOf.sound (N : Nat) : Sound Go.Proofs.Try.prog (natTbl TM) 3 laws_FnExactCheckOf.x.sig (laws_FnExactCheckOf.fs N) := sound_of N (known_cons (fm := FM) (n := 2) (by kernel_rfl) (spec_CheckOf.sound N) rfl (known_cons (fm := FM) (n := 4) (by kernel_rfl) (impl_CheckOf.sound N) rfl (known_nil))) hmix laws_FnExactCheckOf.ok
end Go.Kb
