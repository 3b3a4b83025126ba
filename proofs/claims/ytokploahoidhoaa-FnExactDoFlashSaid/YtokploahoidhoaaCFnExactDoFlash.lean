/- Each function of the law does what its abstract text does, over the program. -/
import Derived.Test.YtokploahoidhoaaKc
import Derived.Test.YtokploahoidhoaaExactDoFlashF1
import Derived.Test.YtokploahoidhoaaExactDoFlashF2
import Derived.Test.YtokploahoidhoaaExactDoFlashF3
import Derived.Test.YtokploahoidhoaaExactDoFlashF20
import Derived.Test.YtokploahoidhoaaExactDoFlashF21
import Derived.Test.YtokploahoidhoaaRows
import Derived.KernelRfl
namespace Go.Kb
def TM : List (Nat × Nat) := [(2, 3), (1, 5), (16, 9), (6, 23), (7, 37)]
def FM : List (Nat × Nat) := [(251, 41), (252, 40), (253, 14), (254, 46), (255, 45), (256, 16), (328, 17), (1, 43), (96, 42), (103, 44), (104, 15), (108, 47), (114, 61), (115, 48), (116, 18), (239, 35), (240, 34), (241, 11), (242, 37), (243, 36), (244, 12), (245, 39), (246, 38), (247, 13), (329, 4)]
def GB : Nat → Prop := fun _ => False
def QW : World → Prop := fun _ => True
theorem hQs : ∀ w w' : World, (∀ b, GB b → w'.heap[b]? = w.heap[b]?) → QW w → QW w' := fun _ _ _ _ => trivial
theorem hmix : Go.Proofs.Try.prog.follows .mixedOrders = true := by kernel_rfl
theorem laws_szIntS.ok : funcOk (mkE Go.Proofs.Try.prog GB QW TM FM []) 41 laws_szIntS.x = true := by kernel_rfl
theorem laws_szIntS.sound (N : Nat) : Sound Go.Proofs.Try.prog (natTbl TM) GB QW 41 laws_szIntS.x.sig (laws_szIntS.fs N) := sound_of N (known_nil) hQs hmix laws_szIntS.ok
theorem laws_szIntSS.ok : funcOk (mkE Go.Proofs.Try.prog GB QW TM FM [(251, (laws_szIntS.x.sig, true))]) 40 laws_szIntSS.x = true := by kernel_rfl
theorem laws_szIntSS.sound (N : Nat) : Sound Go.Proofs.Try.prog (natTbl TM) GB QW 40 laws_szIntSS.x.sig (laws_szIntSS.fs N) := sound_of N (known_cons (fm := FM) (n := 251) (by kernel_rfl) (laws_szIntS.sound N) rfl (known_nil)) hQs hmix laws_szIntSS.ok
theorem laws_szFlash.ok : funcOk (mkE Go.Proofs.Try.prog GB QW TM FM [(251, (laws_szIntS.x.sig, true)), (252, (laws_szIntSS.x.sig, true))]) 14 laws_szFlash.x = true := by kernel_rfl
theorem laws_szFlash.sound (N : Nat) : Sound Go.Proofs.Try.prog (natTbl TM) GB QW 14 laws_szFlash.x.sig (laws_szFlash.fs N) := sound_of N (known_cons (fm := FM) (n := 251) (by kernel_rfl) (laws_szIntS.sound N) rfl (known_cons (fm := FM) (n := 252) (by kernel_rfl) (laws_szIntSS.sound N) rfl (known_nil))) hQs hmix laws_szFlash.ok
theorem laws_toIntS.ok : funcOk (mkE Go.Proofs.Try.prog GB QW TM FM []) 46 laws_toIntS.x = true := by kernel_rfl
theorem laws_toIntS.sound (N : Nat) : Sound Go.Proofs.Try.prog (natTbl TM) GB QW 46 laws_toIntS.x.sig (laws_toIntS.fs N) := sound_of N (known_nil) hQs hmix laws_toIntS.ok
theorem laws_toIntSSh.ok : funcOk (mkE Go.Proofs.Try.prog GB QW TM FM [(254, (laws_toIntS.x.sig, true))]) 45 laws_toIntSSh.x = true := by kernel_rfl
theorem laws_toIntSSh.sound (N : Nat) : Sound Go.Proofs.Try.prog (natTbl TM) GB QW 45 laws_toIntSSh.x.sig (laws_toIntSSh.fs N) := sound_ofH N (known_cons (fm := FM) (n := 254) (by kernel_rfl) (laws_toIntS.sound N) rfl (known_nil)) hQs hmix laws_toIntSSh.ok
theorem laws_toFlashh.ok : funcOk (mkE Go.Proofs.Try.prog GB QW TM FM [(254, (laws_toIntS.x.sig, true)), (255, (laws_toIntSSh.x.sig, true))]) 16 laws_toFlashh.x = true := by kernel_rfl
theorem laws_toFlashh.sound (N : Nat) : Sound Go.Proofs.Try.prog (natTbl TM) GB QW 16 laws_toFlashh.x.sig (laws_toFlashh.fs N) := sound_ofH N (known_cons (fm := FM) (n := 254) (by kernel_rfl) (laws_toIntS.sound N) rfl (known_cons (fm := FM) (n := 255) (by kernel_rfl) (laws_toIntSSh.sound N) rfl (known_nil))) hQs hmix laws_toFlashh.ok
theorem laws_toFlashOp.ok : funcOk (mkE Go.Proofs.Try.prog GB QW TM FM []) 17 laws_toFlashOp.x = true := by kernel_rfl
theorem laws_toFlashOp.sound (N : Nat) : Sound Go.Proofs.Try.prog (natTbl TM) GB QW 17 laws_toFlashOp.x.sig (laws_toFlashOp.fs N) := sound_of N (known_nil) hQs hmix laws_toFlashOp.ok
theorem spec_l1In.ok : funcOk (mkE Go.Proofs.Try.prog GB QW TM FM []) 43 spec_l1In.x = true := by kernel_rfl
theorem spec_l1In.sound (N : Nat) : Sound Go.Proofs.Try.prog (natTbl TM) GB QW 43 spec_l1In.x.sig (spec_l1In.fs N) := sound_of N (known_nil) hQs hmix spec_l1In.ok
theorem spec_IsFlash.ok : funcOk (mkE Go.Proofs.Try.prog GB QW TM FM [(1, (spec_l1In.x.sig, true))]) 42 spec_IsFlash.x = true := by kernel_rfl
theorem spec_IsFlash.sound (N : Nat) : Sound Go.Proofs.Try.prog (natTbl TM) GB QW 42 spec_IsFlash.x.sig (spec_IsFlash.fs N) := sound_of N (known_cons (fm := FM) (n := 1) (by kernel_rfl) (spec_l1In.sound N) rfl (known_nil)) hQs hmix spec_IsFlash.ok
theorem spec_l14Copy.ok : funcOk (mkE Go.Proofs.Try.prog GB QW TM FM []) 44 spec_l14Copy.x = true := by kernel_rfl
theorem spec_l14Copy.sound (N : Nat) : Sound Go.Proofs.Try.prog (natTbl TM) GB QW 44 spec_l14Copy.x.sig (spec_l14Copy.fs N) := sound_ofH N (known_nil) hQs hmix spec_l14Copy.ok
theorem spec_DoFlash.ok : funcOk (mkE Go.Proofs.Try.prog GB QW TM FM [(96, (spec_IsFlash.x.sig, true)), (103, (spec_l14Copy.x.sig, true)), (1, (spec_l1In.x.sig, true))]) 15 spec_DoFlash.x = true := by kernel_rfl
theorem spec_DoFlash.sound (N : Nat) : Sound Go.Proofs.Try.prog (natTbl TM) GB QW 15 spec_DoFlash.x.sig (spec_DoFlash.fs N) := sound_ofH N (known_cons (fm := FM) (n := 96) (by kernel_rfl) (spec_IsFlash.sound N) rfl (known_cons (fm := FM) (n := 103) (by kernel_rfl) (spec_l14Copy.sound N) rfl (known_cons (fm := FM) (n := 1) (by kernel_rfl) (spec_l1In.sound N) rfl (known_nil)))) hQs hmix spec_DoFlash.ok
theorem impl_IsFlash.ok : funcOk (mkE Go.Proofs.Try.prog GB QW TM FM []) 47 impl_IsFlash.x = true := by kernel_rfl
theorem impl_IsFlash.sound (N : Nat) : Sound Go.Proofs.Try.prog (natTbl TM) GB QW 47 impl_IsFlash.x.sig (impl_IsFlash.fs N) := sound_of N (known_nil) hQs hmix impl_IsFlash.ok
theorem impl_copyInts.ok : funcOk (mkE Go.Proofs.Try.prog GB QW TM FM []) 61 impl_copyInts.x = true := by kernel_rfl
theorem impl_copyInts.sound (N : Nat) : Sound Go.Proofs.Try.prog (natTbl TM) GB QW 61 impl_copyInts.x.sig (impl_copyInts.fs N) := sound_of N (known_nil) hQs hmix impl_copyInts.ok
theorem impl_copyFlash.ok : funcOk (mkE Go.Proofs.Try.prog GB QW TM FM [(114, (impl_copyInts.x.sig, true))]) 48 impl_copyFlash.x = true := by kernel_rfl
theorem impl_copyFlash.sound (N : Nat) : Sound Go.Proofs.Try.prog (natTbl TM) GB QW 48 impl_copyFlash.x.sig (impl_copyFlash.fs N) := sound_ofH N (known_cons (fm := FM) (n := 114) (by kernel_rfl) (impl_copyInts.sound N) rfl (known_nil)) hQs hmix impl_copyFlash.ok
theorem impl_DoFlash.ok : funcOk (mkE Go.Proofs.Try.prog GB QW TM FM [(108, (impl_IsFlash.x.sig, true)), (115, (impl_copyFlash.x.sig, true))]) 18 impl_DoFlash.x = true := by kernel_rfl
theorem impl_DoFlash.sound (N : Nat) : Sound Go.Proofs.Try.prog (natTbl TM) GB QW 18 impl_DoFlash.x.sig (impl_DoFlash.fs N) := sound_ofH N (known_cons (fm := FM) (n := 108) (by kernel_rfl) (impl_IsFlash.sound N) rfl (known_cons (fm := FM) (n := 115) (by kernel_rfl) (impl_copyFlash.sound N) rfl (known_nil))) hQs hmix impl_DoFlash.ok
theorem laws_eqIntS.ok : funcOk (mkE Go.Proofs.Try.prog GB QW TM FM []) 35 laws_eqIntS.x = true := by kernel_rfl
theorem laws_eqIntS.sound (N : Nat) : Sound Go.Proofs.Try.prog (natTbl TM) GB QW 35 laws_eqIntS.x.sig (laws_eqIntS.fs N) := sound_of N (known_nil) hQs hmix laws_eqIntS.ok
theorem laws_eqIntSS.ok : funcOk (mkE Go.Proofs.Try.prog GB QW TM FM [(239, (laws_eqIntS.x.sig, true))]) 34 laws_eqIntSS.x = true := by kernel_rfl
theorem laws_eqIntSS.sound (N : Nat) : Sound Go.Proofs.Try.prog (natTbl TM) GB QW 34 laws_eqIntSS.x.sig (laws_eqIntSS.fs N) := sound_of N (known_cons (fm := FM) (n := 239) (by kernel_rfl) (laws_eqIntS.sound N) rfl (known_nil)) hQs hmix laws_eqIntSS.ok
theorem laws_eqFlash.ok : funcOk (mkE Go.Proofs.Try.prog GB QW TM FM [(239, (laws_eqIntS.x.sig, true)), (240, (laws_eqIntSS.x.sig, true))]) 11 laws_eqFlash.x = true := by kernel_rfl
theorem laws_eqFlash.sound (N : Nat) : Sound Go.Proofs.Try.prog (natTbl TM) GB QW 11 laws_eqFlash.x.sig (laws_eqFlash.fs N) := sound_of N (known_cons (fm := FM) (n := 239) (by kernel_rfl) (laws_eqIntS.sound N) rfl (known_cons (fm := FM) (n := 240) (by kernel_rfl) (laws_eqIntSS.sound N) rfl (known_nil))) hQs hmix laws_eqFlash.ok
theorem laws_markIntS.ok : funcOk (mkE Go.Proofs.Try.prog GB QW TM FM []) 37 laws_markIntS.x = true := by kernel_rfl
theorem laws_markIntS.sound (N : Nat) : Sound Go.Proofs.Try.prog (natTbl TM) GB QW 37 laws_markIntS.x.sig (laws_markIntS.fs N) := sound_of N (known_nil) hQs hmix laws_markIntS.ok
theorem laws_markIntSS.ok : funcOk (mkE Go.Proofs.Try.prog GB QW TM FM [(242, (laws_markIntS.x.sig, false))]) 36 laws_markIntSS.x = true := by kernel_rfl
theorem laws_markIntSS.sound (N : Nat) : Sound Go.Proofs.Try.prog (natTbl TM) GB QW 36 laws_markIntSS.x.sig (laws_markIntSS.fs N) := sound_ofH N (known_cons (fm := FM) (n := 242) (by kernel_rfl) (laws_markIntS.sound N) rfl (known_nil)) hQs hmix laws_markIntSS.ok
theorem laws_markFlash.ok : funcOk (mkE Go.Proofs.Try.prog GB QW TM FM [(242, (laws_markIntS.x.sig, false)), (243, (laws_markIntSS.x.sig, true))]) 12 laws_markFlash.x = true := by kernel_rfl
theorem laws_markFlash.sound (N : Nat) : Sound Go.Proofs.Try.prog (natTbl TM) GB QW 12 laws_markFlash.x.sig (laws_markFlash.fs N) := sound_ofH N (known_cons (fm := FM) (n := 242) (by kernel_rfl) (laws_markIntS.sound N) rfl (known_cons (fm := FM) (n := 243) (by kernel_rfl) (laws_markIntSS.sound N) rfl (known_nil))) hQs hmix laws_markFlash.ok
theorem laws_heldIntS.ok : funcOk (mkE Go.Proofs.Try.prog GB QW TM FM []) 39 laws_heldIntS.x = true := by kernel_rfl
theorem laws_heldIntS.sound (N : Nat) : Sound Go.Proofs.Try.prog (natTbl TM) GB QW 39 laws_heldIntS.x.sig (laws_heldIntS.fs N) := sound_of N (known_nil) hQs hmix laws_heldIntS.ok
theorem laws_heldIntSS.ok : funcOk (mkE Go.Proofs.Try.prog GB QW TM FM [(245, (laws_heldIntS.x.sig, true))]) 38 laws_heldIntSS.x = true := by kernel_rfl
theorem laws_heldIntSS.sound (N : Nat) : Sound Go.Proofs.Try.prog (natTbl TM) GB QW 38 laws_heldIntSS.x.sig (laws_heldIntSS.fs N) := sound_of N (known_cons (fm := FM) (n := 245) (by kernel_rfl) (laws_heldIntS.sound N) rfl (known_nil)) hQs hmix laws_heldIntSS.ok
theorem laws_heldFlash.ok : funcOk (mkE Go.Proofs.Try.prog GB QW TM FM [(245, (laws_heldIntS.x.sig, true)), (246, (laws_heldIntSS.x.sig, true))]) 13 laws_heldFlash.x = true := by kernel_rfl
theorem laws_heldFlash.sound (N : Nat) : Sound Go.Proofs.Try.prog (natTbl TM) GB QW 13 laws_heldFlash.x.sig (laws_heldFlash.fs N) := sound_of N (known_cons (fm := FM) (n := 245) (by kernel_rfl) (laws_heldIntS.sound N) rfl (known_cons (fm := FM) (n := 246) (by kernel_rfl) (laws_heldIntSS.sound N) rfl (known_nil))) hQs hmix laws_heldFlash.ok
theorem laws_FnExactDoFlash.ok : funcOk (mkE Go.Proofs.Try.prog GB QW TM FM [(116, (impl_DoFlash.x.sig, true)), (241, (laws_eqFlash.x.sig, true)), (247, (laws_heldFlash.x.sig, true)), (244, (laws_markFlash.x.sig, false)), (253, (laws_szFlash.x.sig, true)), (328, (laws_toFlashOp.x.sig, true)), (256, (laws_toFlashh.x.sig, true)), (104, (spec_DoFlash.x.sig, true))]) 4 laws_FnExactDoFlash.x = true := by kernel_rfl
theorem laws_FnExactDoFlash.sound (N : Nat) : Sound Go.Proofs.Try.prog (natTbl TM) GB QW 4 laws_FnExactDoFlash.x.sig (laws_FnExactDoFlash.fs N) := sound_of N (known_cons (fm := FM) (n := 116) (by kernel_rfl) (impl_DoFlash.sound N) rfl (known_cons (fm := FM) (n := 241) (by kernel_rfl) (laws_eqFlash.sound N) rfl (known_cons (fm := FM) (n := 247) (by kernel_rfl) (laws_heldFlash.sound N) rfl (known_cons (fm := FM) (n := 244) (by kernel_rfl) (laws_markFlash.sound N) rfl (known_cons (fm := FM) (n := 253) (by kernel_rfl) (laws_szFlash.sound N) rfl (known_cons (fm := FM) (n := 328) (by kernel_rfl) (laws_toFlashOp.sound N) rfl (known_cons (fm := FM) (n := 256) (by kernel_rfl) (laws_toFlashh.sound N) rfl (known_cons (fm := FM) (n := 104) (by kernel_rfl) (spec_DoFlash.sound N) rfl (known_nil))))))))) hQs hmix laws_FnExactDoFlash.ok
end Go.Kb
