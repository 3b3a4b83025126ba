/- Each function of the law does what its abstract text does, over the program. -/
import Derived.Test.YtfohiojijhnjlaaKc
import Derived.Test.YtfohiojijhnjlaaFP0
import Derived.Test.YtfohiojijhnjlaaRows
import Derived.KernelRfl
namespace Go.Kb
def TM : List (Nat × Nat) := [(2, 3), (1, 5), (16, 9)]
def FM : List (Nat × Nat) := [(1, 30), (7, 11), (26, 26), (8, 13), (23, 27), (9, 14), (12, 28), (14, 29), (27, 8)]
theorem hmix : Go.Proofs.Try.prog.follows .mixedOrders = true := by kernel_rfl
theorem spec_l1In.ok : funcOk (mkE Go.Proofs.Try.prog TM FM []) 30 spec_l1In.x = true := by kernel_rfl
theorem spec_l1In.sound (N : Nat) : Sound Go.Proofs.Try.prog (natTbl TM) 30 spec_l1In.x.sig (spec_l1In.fs N) := sound_of N (known_nil) hmix spec_l1In.ok
theorem spec_Checksum.ok : funcOk (mkE Go.Proofs.Try.prog TM FM []) 11 spec_Checksum.x = true := by kernel_rfl
theorem spec_Checksum.sound (N : Nat) : Sound Go.Proofs.Try.prog (natTbl TM) 11 spec_Checksum.x.sig (spec_Checksum.fs N) := sound_of N (known_nil) hmix spec_Checksum.ok
theorem spec_LinkFrame.ok : funcOk (mkE Go.Proofs.Try.prog TM FM [(7, (spec_Checksum.x.sig, true)), (1, (spec_l1In.x.sig, true))]) 26 spec_LinkFrame.x = true := by kernel_rfl
theorem spec_LinkFrame.sound (N : Nat) : Sound Go.Proofs.Try.prog (natTbl TM) 26 spec_LinkFrame.x.sig (spec_LinkFrame.fs N) := sound_of N (known_cons (fm := FM) (n := 7) (by kernel_rfl) (spec_Checksum.sound N) rfl (known_cons (fm := FM) (n := 1) (by kernel_rfl) (spec_l1In.sound N) rfl (known_nil))) hmix spec_LinkFrame.ok
theorem impl_Checksum.ok : funcOk (mkE Go.Proofs.Try.prog TM FM []) 13 impl_Checksum.x = true := by kernel_rfl
theorem impl_Checksum.sound (N : Nat) : Sound Go.Proofs.Try.prog (natTbl TM) 13 impl_Checksum.x.sig (impl_Checksum.fs N) := sound_of N (known_nil) hmix impl_Checksum.ok
theorem impl_LinkFrame.ok : funcOk (mkE Go.Proofs.Try.prog TM FM [(8, (impl_Checksum.x.sig, true))]) 27 impl_LinkFrame.x = true := by kernel_rfl
theorem impl_LinkFrame.sound (N : Nat) : Sound Go.Proofs.Try.prog (natTbl TM) 27 impl_LinkFrame.x.sig (impl_LinkFrame.fs N) := sound_of N (known_cons (fm := FM) (n := 8) (by kernel_rfl) (impl_Checksum.sound N) rfl (known_nil)) hmix impl_LinkFrame.ok
theorem laws_eqByteS.ok : funcOk (mkE Go.Proofs.Try.prog TM FM []) 14 laws_eqByteS.x = true := by kernel_rfl
theorem laws_eqByteS.sound (N : Nat) : Sound Go.Proofs.Try.prog (natTbl TM) 14 laws_eqByteS.x.sig (laws_eqByteS.fs N) := sound_of N (known_nil) hmix laws_eqByteS.ok
theorem laws_markByteS.ok : funcOk (mkE Go.Proofs.Try.prog TM FM []) 28 laws_markByteS.x = true := by kernel_rfl
theorem laws_markByteS.sound (N : Nat) : Sound Go.Proofs.Try.prog (natTbl TM) 28 laws_markByteS.x.sig (laws_markByteS.fs N) := sound_of N (known_nil) hmix laws_markByteS.ok
theorem laws_heldByteS.ok : funcOk (mkE Go.Proofs.Try.prog TM FM []) 29 laws_heldByteS.x = true := by kernel_rfl
theorem laws_heldByteS.sound (N : Nat) : Sound Go.Proofs.Try.prog (natTbl TM) 29 laws_heldByteS.x.sig (laws_heldByteS.fs N) := sound_of N (known_nil) hmix laws_heldByteS.ok
theorem laws_FnExactLinkFrame.ok : funcOk (mkE Go.Proofs.Try.prog TM FM [(9, (laws_eqByteS.x.sig, true)), (26, (spec_LinkFrame.x.sig, true)), (23, (impl_LinkFrame.x.sig, true)), (12, (laws_markByteS.x.sig, false)), (14, (laws_heldByteS.x.sig, true))]) 8 laws_FnExactLinkFrame.x = true := by kernel_rfl
theorem laws_FnExactLinkFrame.sound (N : Nat) : Sound Go.Proofs.Try.prog (natTbl TM) 8 laws_FnExactLinkFrame.x.sig (laws_FnExactLinkFrame.fs N) := sound_of N (known_cons (fm := FM) (n := 9) (by kernel_rfl) (laws_eqByteS.sound N) rfl (known_cons (fm := FM) (n := 26) (by kernel_rfl) (spec_LinkFrame.sound N) rfl (known_cons (fm := FM) (n := 23) (by kernel_rfl) (impl_LinkFrame.sound N) rfl (known_cons (fm := FM) (n := 12) (by kernel_rfl) (laws_markByteS.sound N) rfl (known_cons (fm := FM) (n := 14) (by kernel_rfl) (laws_heldByteS.sound N) rfl (known_nil)))))) hmix laws_FnExactLinkFrame.ok
end Go.Kb
