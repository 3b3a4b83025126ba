/- Each function of the law does what its abstract text does, over the program. -/
import Derived.Test.YtokploahoidhoaaKc
import Derived.Test.YtokploahoidhoaaExactNewFlashF1
import Derived.Test.YtokploahoidhoaaExactNewFlashF2
import Derived.Test.YtokploahoidhoaaExactNewFlashF3
import Derived.Test.YtokploahoidhoaaExactNewFlashF20
import Derived.Test.YtokploahoidhoaaRows
import Derived.KernelRfl
namespace Go.Kb
def TM : List (Nat × Nat) := [(2, 3), (1, 5), (16, 9), (6, 23), (7, 37)]
def FM : List (Nat × Nat) := [(95, 9), (238, 10), (239, 35), (240, 34), (241, 11), (242, 37), (243, 36), (244, 12), (245, 39), (246, 38), (247, 13), (248, 3)]
def GB : Nat → Prop := fun _ => False
def QW : World → Prop := fun _ => True
theorem hQs : ∀ w w' : World, (∀ b, GB b → w'.heap[b]? = w.heap[b]?) → QW w → QW w' := fun _ _ _ _ => trivial
theorem hmix : Go.Proofs.Try.prog.follows .mixedOrders = true := by kernel_rfl
theorem spec_NewFlash.ok : funcOk (mkE Go.Proofs.Try.prog GB QW TM FM []) 9 spec_NewFlash.x = true := by kernel_rfl
theorem spec_NewFlash.sound (N : Nat) : Sound Go.Proofs.Try.prog (natTbl TM) GB QW 9 spec_NewFlash.x.sig (spec_NewFlash.fs N) := sound_ofH N (known_nil) hQs hmix spec_NewFlash.ok
theorem impl_NewFlash.ok : funcOk (mkE Go.Proofs.Try.prog GB QW TM FM []) 10 impl_NewFlash.x = true := by kernel_rfl
theorem impl_NewFlash.sound (N : Nat) : Sound Go.Proofs.Try.prog (natTbl TM) GB QW 10 impl_NewFlash.x.sig (impl_NewFlash.fs N) := sound_ofH N (known_nil) hQs hmix impl_NewFlash.ok
theorem laws_eqIntS.ok : funcOk (mkE Go.Proofs.Try.prog GB QW TM FM []) 35 laws_eqIntS.x = true := by kernel_rfl
theorem laws_eqIntS.sound (N : Nat) : Sound Go.Proofs.Try.prog (natTbl TM) GB QW 35 laws_eqIntS.x.sig (laws_eqIntS.fs N) := sound_of N (known_nil) hQs hmix laws_eqIntS.ok
theorem laws_eqIntSS.ok : funcOk (mkE Go.Proofs.Try.prog GB QW TM FM [(239, (laws_eqIntS.x.sig, true))]) 34 laws_eqIntSS.x = true := by kernel_rfl
theorem laws_eqIntSS.sound (N : Nat) : Sound Go.Proofs.Try.prog (natTbl TM) GB QW 34 laws_eqIntSS.x.sig (laws_eqIntSS.fs N) := sound_of N (known_cons (fm := FM) (n := 239) (by kernel_rfl) (laws_eqIntS.sound N) rfl (known_nil)) hQs hmix laws_eqIntSS.ok
theorem laws_eqFlash.ok : funcOk (mkE Go.Proofs.Try.prog GB QW TM FM [(239, (laws_eqIntS.x.sig, true)), (240, (laws_eqIntSS.x.sig, true))]) 11 laws_eqFlash.x = true := by kernel_rfl
theorem laws_eqFlash.sound (N : Nat) : Sound Go.Proofs.Try.prog (natTbl TM) GB QW 11 laws_eqFlash.x.sig (laws_eqFlash.fs N) := sound_of N (known_cons (fm := FM) (n := 239) (by kernel_rfl) (laws_eqIntS.sound N) rfl (known_cons (fm := FM) (n := 240) (by kernel_rfl) (laws_eqIntSS.sound N) rfl (known_nil))) hQs hmix laws_eqFlash.ok
theorem laws_markIntS.ok : funcOk (mkE Go.Proofs.Try.prog GB QW TM FM []) 37 laws_markIntS.x = true := by kernel_rfl
theorem laws_markIntS.sound (N : Nat) : Sound Go.Proofs.Try.prog (natTbl TM) GB QW 37 laws_markIntS.x.sig (laws_markIntS.fs N) := sound_of N (known_nil) hQs hmix laws_markIntS.ok
theorem laws_markIntSS.ok : funcOk (mkE Go.Proofs.Try.prog GB QW TM FM [(242, (laws_markIntS.x.sig, false))]) 36 laws_markIntSS.x = true := by kernel_rfl
theorem laws_markIntSS.sound (N : Nat) : Sound Go.Proofs.Try.prog (natTbl TM) GB QW 36 laws_markIntSS.x.sig (laws_markIntSS.fs N) := sound_ofH N (known_cons (fm := FM) (n := 242) (by kernel_rfl) (laws_markIntS.sound N) rfl (known_nil)) hQs hmix laws_markIntSS.ok
theorem laws_markFlash.ok : funcOk (mkE Go.Proofs.Try.prog GB QW TM FM [(242, (laws_markIntS.x.sig, false)), (243, (laws_markIntSS.x.sig, true))]) 12 laws_markFlash.x = true := by kernel_rfl
theorem laws_markFlash.sound (N : Nat) : Sound Go.Proofs.Try.prog (natTbl TM) GB QW 12 laws_markFlash.x.sig (laws_markFlash.fs N) := sound_ofH N (known_cons (fm := FM) (n := 242) (by kernel_rfl) (laws_markIntS.sound N) rfl (known_cons (fm := FM) (n := 243) (by kernel_rfl) (laws_markIntSS.sound N) rfl (known_nil))) hQs hmix laws_markFlash.ok
theorem laws_heldIntS.ok : funcOk (mkE Go.Proofs.Try.prog GB QW TM FM []) 39 laws_heldIntS.x = true := by kernel_rfl
theorem laws_heldIntS.sound (N : Nat) : Sound Go.Proofs.Try.prog (natTbl TM) GB QW 39 laws_heldIntS.x.sig (laws_heldIntS.fs N) := sound_of N (known_nil) hQs hmix laws_heldIntS.ok
theorem laws_heldIntSS.ok : funcOk (mkE Go.Proofs.Try.prog GB QW TM FM [(245, (laws_heldIntS.x.sig, true))]) 38 laws_heldIntSS.x = true := by kernel_rfl
theorem laws_heldIntSS.sound (N : Nat) : Sound Go.Proofs.Try.prog (natTbl TM) GB QW 38 laws_heldIntSS.x.sig (laws_heldIntSS.fs N) := sound_of N (known_cons (fm := FM) (n := 245) (by kernel_rfl) (laws_heldIntS.sound N) rfl (known_nil)) hQs hmix laws_heldIntSS.ok
theorem laws_heldFlash.ok : funcOk (mkE Go.Proofs.Try.prog GB QW TM FM [(245, (laws_heldIntS.x.sig, true)), (246, (laws_heldIntSS.x.sig, true))]) 13 laws_heldFlash.x = true := by kernel_rfl
theorem laws_heldFlash.sound (N : Nat) : Sound Go.Proofs.Try.prog (natTbl TM) GB QW 13 laws_heldFlash.x.sig (laws_heldFlash.fs N) := sound_of N (known_cons (fm := FM) (n := 245) (by kernel_rfl) (laws_heldIntS.sound N) rfl (known_cons (fm := FM) (n := 246) (by kernel_rfl) (laws_heldIntSS.sound N) rfl (known_nil))) hQs hmix laws_heldFlash.ok
theorem laws_FnExactNewFlash.ok : funcOk (mkE Go.Proofs.Try.prog GB QW TM FM [(238, (impl_NewFlash.x.sig, true)), (241, (laws_eqFlash.x.sig, true)), (247, (laws_heldFlash.x.sig, true)), (244, (laws_markFlash.x.sig, false)), (95, (spec_NewFlash.x.sig, true))]) 3 laws_FnExactNewFlash.x = true := by kernel_rfl
theorem laws_FnExactNewFlash.sound (N : Nat) : Sound Go.Proofs.Try.prog (natTbl TM) GB QW 3 laws_FnExactNewFlash.x.sig (laws_FnExactNewFlash.fs N) := sound_of N (known_cons (fm := FM) (n := 238) (by kernel_rfl) (impl_NewFlash.sound N) rfl (known_cons (fm := FM) (n := 241) (by kernel_rfl) (laws_eqFlash.sound N) rfl (known_cons (fm := FM) (n := 247) (by kernel_rfl) (laws_heldFlash.sound N) rfl (known_cons (fm := FM) (n := 244) (by kernel_rfl) (laws_markFlash.sound N) rfl (known_cons (fm := FM) (n := 95) (by kernel_rfl) (spec_NewFlash.sound N) rfl (known_nil)))))) hQs hmix laws_FnExactNewFlash.ok
end Go.Kb
