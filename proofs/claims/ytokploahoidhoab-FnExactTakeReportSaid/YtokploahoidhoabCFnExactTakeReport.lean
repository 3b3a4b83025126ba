/- Each function of the law does what its abstract text does, over the program. -/
import Derived.Test.YtokploahoidhoabKc
import Derived.Test.YtokploahoidhoabExactTakeReportF1
import Derived.Test.YtokploahoidhoabExactTakeReportF2
import Derived.Test.YtokploahoidhoabExactTakeReportF3
import Derived.Test.YtokploahoidhoabExactTakeReportF22
import Derived.Test.YtokploahoidhoabRows
import Derived.KernelRfl
namespace Go.Kb
def TM : List (Nat × Nat) := [(2, 3), (1, 5), (16, 9), (6, 25), (12, 45), (7, 77)]
def FM : List (Nat × Nat) := [(251, 49), (258, 22), (273, 28), (274, 15), (254, 54), (259, 24), (275, 30), (276, 17), (1, 70), (260, 50), (277, 51), (278, 43), (314, 52), (332, 44), (333, 16), (153, 72), (263, 55), (205, 73), (206, 56), (279, 45), (114, 74), (334, 57), (335, 46), (336, 18), (239, 59), (265, 26), (280, 32), (281, 19), (242, 60), (266, 27), (337, 33), (338, 20), (245, 69), (339, 47), (340, 48), (341, 21), (342, 4)]
def GB : Nat → Prop := fun _ => False
def QW : World → Prop := fun _ => True
theorem hQs : ∀ w w' : World, (∀ b, GB b → w'.heap[b]? = w.heap[b]?) → QW w → QW w' := fun _ _ _ _ => trivial
theorem hmix : Go.Proofs.Try.prog.follows .mixedOrders = true := by kernel_rfl
theorem laws_szIntS.ok : funcOk (mkE Go.Proofs.Try.prog GB QW TM FM []) 49 laws_szIntS.x = true := by kernel_rfl
theorem laws_szIntS.sound (N : Nat) : Sound Go.Proofs.Try.prog (natTbl TM) GB QW 49 laws_szIntS.x.sig (laws_szIntS.fs N) := sound_of N (known_nil) hQs hmix laws_szIntS.ok
theorem laws_szReport.ok : funcOk (mkE Go.Proofs.Try.prog GB QW TM FM [(251, (laws_szIntS.x.sig, true))]) 22 laws_szReport.x = true := by kernel_rfl
theorem laws_szReport.sound (N : Nat) : Sound Go.Proofs.Try.prog (natTbl TM) GB QW 22 laws_szReport.x.sig (laws_szReport.fs N) := sound_of N (known_cons (fm := FM) (n := 251) (by kernel_rfl) (laws_szIntS.sound N) rfl (known_nil)) hQs hmix laws_szReport.ok
theorem laws_szReportS.ok : funcOk (mkE Go.Proofs.Try.prog GB QW TM FM [(258, (laws_szReport.x.sig, true))]) 28 laws_szReportS.x = true := by kernel_rfl
theorem laws_szReportS.sound (N : Nat) : Sound Go.Proofs.Try.prog (natTbl TM) GB QW 28 laws_szReportS.x.sig (laws_szReportS.fs N) := sound_of N (known_cons (fm := FM) (n := 258) (by kernel_rfl) (laws_szReport.sound N) rfl (known_nil)) hQs hmix laws_szReportS.ok
theorem laws_szPipe.ok : funcOk (mkE Go.Proofs.Try.prog GB QW TM FM [(258, (laws_szReport.x.sig, true)), (273, (laws_szReportS.x.sig, true))]) 15 laws_szPipe.x = true := by kernel_rfl
theorem laws_szPipe.sound (N : Nat) : Sound Go.Proofs.Try.prog (natTbl TM) GB QW 15 laws_szPipe.x.sig (laws_szPipe.fs N) := sound_of N (known_cons (fm := FM) (n := 258) (by kernel_rfl) (laws_szReport.sound N) rfl (known_cons (fm := FM) (n := 273) (by kernel_rfl) (laws_szReportS.sound N) rfl (known_nil))) hQs hmix laws_szPipe.ok
theorem laws_toIntS.ok : funcOk (mkE Go.Proofs.Try.prog GB QW TM FM []) 54 laws_toIntS.x = true := by kernel_rfl
theorem laws_toIntS.sound (N : Nat) : Sound Go.Proofs.Try.prog (natTbl TM) GB QW 54 laws_toIntS.x.sig (laws_toIntS.fs N) := sound_of N (known_nil) hQs hmix laws_toIntS.ok
theorem laws_toReport.ok : funcOk (mkE Go.Proofs.Try.prog GB QW TM FM [(254, (laws_toIntS.x.sig, true))]) 24 laws_toReport.x = true := by kernel_rfl
theorem laws_toReport.sound (N : Nat) : Sound Go.Proofs.Try.prog (natTbl TM) GB QW 24 laws_toReport.x.sig (laws_toReport.fs N) := sound_of N (known_cons (fm := FM) (n := 254) (by kernel_rfl) (laws_toIntS.sound N) rfl (known_nil)) hQs hmix laws_toReport.ok
theorem laws_toReportSh.ok : funcOk (mkE Go.Proofs.Try.prog GB QW TM FM [(259, (laws_toReport.x.sig, true))]) 30 laws_toReportSh.x = true := by kernel_rfl
theorem laws_toReportSh.sound (N : Nat) : Sound Go.Proofs.Try.prog (natTbl TM) GB QW 30 laws_toReportSh.x.sig (laws_toReportSh.fs N) := sound_ofH N (known_cons (fm := FM) (n := 259) (by kernel_rfl) (laws_toReport.sound N) rfl (known_nil)) hQs hmix laws_toReportSh.ok
theorem laws_toPipeh.ok : funcOk (mkE Go.Proofs.Try.prog GB QW TM FM [(259, (laws_toReport.x.sig, true)), (275, (laws_toReportSh.x.sig, true))]) 17 laws_toPipeh.x = true := by kernel_rfl
theorem laws_toPipeh.sound (N : Nat) : Sound Go.Proofs.Try.prog (natTbl TM) GB QW 17 laws_toPipeh.x.sig (laws_toPipeh.fs N) := sound_ofH N (known_cons (fm := FM) (n := 259) (by kernel_rfl) (laws_toReport.sound N) rfl (known_cons (fm := FM) (n := 275) (by kernel_rfl) (laws_toReportSh.sound N) rfl (known_nil))) hQs hmix laws_toPipeh.ok
theorem spec_l1In.ok : funcOk (mkE Go.Proofs.Try.prog GB QW TM FM []) 70 spec_l1In.x = true := by kernel_rfl
theorem spec_l1In.sound (N : Nat) : Sound Go.Proofs.Try.prog (natTbl TM) GB QW 70 spec_l1In.x.sig (spec_l1In.fs N) := sound_of N (known_nil) hQs hmix spec_l1In.ok
theorem spec_IsReport.ok : funcOk (mkE Go.Proofs.Try.prog GB QW TM FM [(1, (spec_l1In.x.sig, true))]) 50 spec_IsReport.x = true := by kernel_rfl
theorem spec_IsReport.sound (N : Nat) : Sound Go.Proofs.Try.prog (natTbl TM) GB QW 50 spec_IsReport.x.sig (spec_IsReport.fs N) := sound_of N (known_cons (fm := FM) (n := 1) (by kernel_rfl) (spec_l1In.sound N) rfl (known_nil)) hQs hmix spec_IsReport.ok
theorem spec_SameReport.ok : funcOk (mkE Go.Proofs.Try.prog GB QW TM FM []) 51 spec_SameReport.x = true := by kernel_rfl
theorem spec_SameReport.sound (N : Nat) : Sound Go.Proofs.Try.prog (natTbl TM) GB QW 51 spec_SameReport.x.sig (spec_SameReport.fs N) := sound_of N (known_nil) hQs hmix spec_SameReport.ok
theorem spec_IsPipe.ok : funcOk (mkE Go.Proofs.Try.prog GB QW TM FM [(260, (spec_IsReport.x.sig, true)), (277, (spec_SameReport.x.sig, true))]) 43 spec_IsPipe.x = true := by kernel_rfl
theorem spec_IsPipe.sound (N : Nat) : Sound Go.Proofs.Try.prog (natTbl TM) GB QW 43 spec_IsPipe.x.sig (spec_IsPipe.fs N) := sound_of N (known_cons (fm := FM) (n := 260) (by kernel_rfl) (spec_IsReport.sound N) rfl (known_cons (fm := FM) (n := 277) (by kernel_rfl) (spec_SameReport.sound N) rfl (known_nil))) hQs hmix spec_IsPipe.ok
theorem spec_l7Copy.ok : funcOk (mkE Go.Proofs.Try.prog GB QW TM FM []) 52 spec_l7Copy.x = true := by kernel_rfl
theorem spec_l7Copy.sound (N : Nat) : Sound Go.Proofs.Try.prog (natTbl TM) GB QW 52 spec_l7Copy.x.sig (spec_l7Copy.fs N) := sound_of N (known_nil) hQs hmix spec_l7Copy.ok
theorem spec_l13Copy.ok : funcOk (mkE Go.Proofs.Try.prog GB QW TM FM [(314, (spec_l7Copy.x.sig, true))]) 44 spec_l13Copy.x = true := by kernel_rfl
theorem spec_l13Copy.sound (N : Nat) : Sound Go.Proofs.Try.prog (natTbl TM) GB QW 44 spec_l13Copy.x.sig (spec_l13Copy.fs N) := sound_of N (known_cons (fm := FM) (n := 314) (by kernel_rfl) (spec_l7Copy.sound N) rfl (known_nil)) hQs hmix spec_l13Copy.ok
theorem spec_TakeReport.ok : funcOk (mkE Go.Proofs.Try.prog GB QW TM FM [(278, (spec_IsPipe.x.sig, true)), (332, (spec_l13Copy.x.sig, true))]) 16 spec_TakeReport.x = true := by kernel_rfl
theorem spec_TakeReport.sound (N : Nat) : Sound Go.Proofs.Try.prog (natTbl TM) GB QW 16 spec_TakeReport.x.sig (spec_TakeReport.fs N) := sound_of N (known_cons (fm := FM) (n := 278) (by kernel_rfl) (spec_IsPipe.sound N) rfl (known_cons (fm := FM) (n := 332) (by kernel_rfl) (spec_l13Copy.sound N) rfl (known_nil))) hQs hmix spec_TakeReport.ok
theorem impl_isCode.ok : funcOk (mkE Go.Proofs.Try.prog GB QW TM FM []) 72 impl_isCode.x = true := by kernel_rfl
theorem impl_isCode.sound (N : Nat) : Sound Go.Proofs.Try.prog (natTbl TM) GB QW 72 impl_isCode.x.sig (impl_isCode.fs N) := sound_of N (known_nil) hQs hmix impl_isCode.ok
theorem impl_IsReport.ok : funcOk (mkE Go.Proofs.Try.prog GB QW TM FM [(153, (impl_isCode.x.sig, true))]) 55 impl_IsReport.x = true := by kernel_rfl
theorem impl_IsReport.sound (N : Nat) : Sound Go.Proofs.Try.prog (natTbl TM) GB QW 55 impl_IsReport.x.sig (impl_IsReport.fs N) := sound_of N (known_cons (fm := FM) (n := 153) (by kernel_rfl) (impl_isCode.sound N) rfl (known_nil)) hQs hmix impl_IsReport.ok
theorem impl_sameInts.ok : funcOk (mkE Go.Proofs.Try.prog GB QW TM FM []) 73 impl_sameInts.x = true := by kernel_rfl
theorem impl_sameInts.sound (N : Nat) : Sound Go.Proofs.Try.prog (natTbl TM) GB QW 73 impl_sameInts.x.sig (impl_sameInts.fs N) := sound_of N (known_nil) hQs hmix impl_sameInts.ok
theorem impl_SameReport.ok : funcOk (mkE Go.Proofs.Try.prog GB QW TM FM [(205, (impl_sameInts.x.sig, true))]) 56 impl_SameReport.x = true := by kernel_rfl
theorem impl_SameReport.sound (N : Nat) : Sound Go.Proofs.Try.prog (natTbl TM) GB QW 56 impl_SameReport.x.sig (impl_SameReport.fs N) := sound_of N (known_cons (fm := FM) (n := 205) (by kernel_rfl) (impl_sameInts.sound N) rfl (known_nil)) hQs hmix impl_SameReport.ok
theorem impl_IsPipe.ok : funcOk (mkE Go.Proofs.Try.prog GB QW TM FM [(263, (impl_IsReport.x.sig, true)), (206, (impl_SameReport.x.sig, true))]) 45 impl_IsPipe.x = true := by kernel_rfl
theorem impl_IsPipe.sound (N : Nat) : Sound Go.Proofs.Try.prog (natTbl TM) GB QW 45 impl_IsPipe.x.sig (impl_IsPipe.fs N) := sound_of N (known_cons (fm := FM) (n := 263) (by kernel_rfl) (impl_IsReport.sound N) rfl (known_cons (fm := FM) (n := 206) (by kernel_rfl) (impl_SameReport.sound N) rfl (known_nil))) hQs hmix impl_IsPipe.ok
theorem impl_copyInts.ok : funcOk (mkE Go.Proofs.Try.prog GB QW TM FM []) 74 impl_copyInts.x = true := by kernel_rfl
theorem impl_copyInts.sound (N : Nat) : Sound Go.Proofs.Try.prog (natTbl TM) GB QW 74 impl_copyInts.x.sig (impl_copyInts.fs N) := sound_of N (known_nil) hQs hmix impl_copyInts.ok
theorem impl_copyReport.ok : funcOk (mkE Go.Proofs.Try.prog GB QW TM FM [(114, (impl_copyInts.x.sig, true))]) 57 impl_copyReport.x = true := by kernel_rfl
theorem impl_copyReport.sound (N : Nat) : Sound Go.Proofs.Try.prog (natTbl TM) GB QW 57 impl_copyReport.x.sig (impl_copyReport.fs N) := sound_of N (known_cons (fm := FM) (n := 114) (by kernel_rfl) (impl_copyInts.sound N) rfl (known_nil)) hQs hmix impl_copyReport.ok
theorem impl_copyPipeh.ok : funcOk (mkE Go.Proofs.Try.prog GB QW TM FM [(334, (impl_copyReport.x.sig, true))]) 46 impl_copyPipeh.x = true := by kernel_rfl
theorem impl_copyPipeh.sound (N : Nat) : Sound Go.Proofs.Try.prog (natTbl TM) GB QW 46 impl_copyPipeh.x.sig (impl_copyPipeh.fs N) := sound_ofH N (known_cons (fm := FM) (n := 334) (by kernel_rfl) (impl_copyReport.sound N) rfl (known_nil)) hQs hmix impl_copyPipeh.ok
theorem impl_TakeReporth.ok : funcOk (mkE Go.Proofs.Try.prog GB QW TM FM [(279, (impl_IsPipe.x.sig, true)), (335, (impl_copyPipeh.x.sig, true))]) 18 impl_TakeReporth.x = true := by kernel_rfl
theorem impl_TakeReporth.sound (N : Nat) : Sound Go.Proofs.Try.prog (natTbl TM) GB QW 18 impl_TakeReporth.x.sig (impl_TakeReporth.fs N) := sound_ofH N (known_cons (fm := FM) (n := 279) (by kernel_rfl) (impl_IsPipe.sound N) rfl (known_cons (fm := FM) (n := 335) (by kernel_rfl) (impl_copyPipeh.sound N) rfl (known_nil))) hQs hmix impl_TakeReporth.ok
theorem laws_eqIntS.ok : funcOk (mkE Go.Proofs.Try.prog GB QW TM FM []) 59 laws_eqIntS.x = true := by kernel_rfl
theorem laws_eqIntS.sound (N : Nat) : Sound Go.Proofs.Try.prog (natTbl TM) GB QW 59 laws_eqIntS.x.sig (laws_eqIntS.fs N) := sound_of N (known_nil) hQs hmix laws_eqIntS.ok
theorem laws_eqReport.ok : funcOk (mkE Go.Proofs.Try.prog GB QW TM FM [(239, (laws_eqIntS.x.sig, true))]) 26 laws_eqReport.x = true := by kernel_rfl
theorem laws_eqReport.sound (N : Nat) : Sound Go.Proofs.Try.prog (natTbl TM) GB QW 26 laws_eqReport.x.sig (laws_eqReport.fs N) := sound_of N (known_cons (fm := FM) (n := 239) (by kernel_rfl) (laws_eqIntS.sound N) rfl (known_nil)) hQs hmix laws_eqReport.ok
theorem laws_eqReportS.ok : funcOk (mkE Go.Proofs.Try.prog GB QW TM FM [(265, (laws_eqReport.x.sig, true))]) 32 laws_eqReportS.x = true := by kernel_rfl
theorem laws_eqReportS.sound (N : Nat) : Sound Go.Proofs.Try.prog (natTbl TM) GB QW 32 laws_eqReportS.x.sig (laws_eqReportS.fs N) := sound_of N (known_cons (fm := FM) (n := 265) (by kernel_rfl) (laws_eqReport.sound N) rfl (known_nil)) hQs hmix laws_eqReportS.ok
theorem laws_eqPipe.ok : funcOk (mkE Go.Proofs.Try.prog GB QW TM FM [(265, (laws_eqReport.x.sig, true)), (280, (laws_eqReportS.x.sig, true))]) 19 laws_eqPipe.x = true := by kernel_rfl
theorem laws_eqPipe.sound (N : Nat) : Sound Go.Proofs.Try.prog (natTbl TM) GB QW 19 laws_eqPipe.x.sig (laws_eqPipe.fs N) := sound_of N (known_cons (fm := FM) (n := 265) (by kernel_rfl) (laws_eqReport.sound N) rfl (known_cons (fm := FM) (n := 280) (by kernel_rfl) (laws_eqReportS.sound N) rfl (known_nil))) hQs hmix laws_eqPipe.ok
theorem laws_markIntS.ok : funcOk (mkE Go.Proofs.Try.prog GB QW TM FM []) 60 laws_markIntS.x = true := by kernel_rfl
theorem laws_markIntS.sound (N : Nat) : Sound Go.Proofs.Try.prog (natTbl TM) GB QW 60 laws_markIntS.x.sig (laws_markIntS.fs N) := sound_of N (known_nil) hQs hmix laws_markIntS.ok
theorem laws_markReport.ok : funcOk (mkE Go.Proofs.Try.prog GB QW TM FM [(242, (laws_markIntS.x.sig, false))]) 27 laws_markReport.x = true := by kernel_rfl
theorem laws_markReport.sound (N : Nat) : Sound Go.Proofs.Try.prog (natTbl TM) GB QW 27 laws_markReport.x.sig (laws_markReport.fs N) := sound_of N (known_cons (fm := FM) (n := 242) (by kernel_rfl) (laws_markIntS.sound N) rfl (known_nil)) hQs hmix laws_markReport.ok
theorem laws_markReportS.ok : funcOk (mkE Go.Proofs.Try.prog GB QW TM FM [(242, (laws_markIntS.x.sig, false))]) 33 laws_markReportS.x = true := by kernel_rfl
theorem laws_markReportS.sound (N : Nat) : Sound Go.Proofs.Try.prog (natTbl TM) GB QW 33 laws_markReportS.x.sig (laws_markReportS.fs N) := sound_ofH N (known_cons (fm := FM) (n := 242) (by kernel_rfl) (laws_markIntS.sound N) rfl (known_nil)) hQs hmix laws_markReportS.ok
theorem laws_markPipe.ok : funcOk (mkE Go.Proofs.Try.prog GB QW TM FM [(266, (laws_markReport.x.sig, false)), (337, (laws_markReportS.x.sig, false))]) 20 laws_markPipe.x = true := by kernel_rfl
theorem laws_markPipe.sound (N : Nat) : Sound Go.Proofs.Try.prog (natTbl TM) GB QW 20 laws_markPipe.x.sig (laws_markPipe.fs N) := sound_ofH N (known_cons (fm := FM) (n := 266) (by kernel_rfl) (laws_markReport.sound N) rfl (known_cons (fm := FM) (n := 337) (by kernel_rfl) (laws_markReportS.sound N) rfl (known_nil))) hQs hmix laws_markPipe.ok
theorem laws_heldIntS.ok : funcOk (mkE Go.Proofs.Try.prog GB QW TM FM []) 69 laws_heldIntS.x = true := by kernel_rfl
theorem laws_heldIntS.sound (N : Nat) : Sound Go.Proofs.Try.prog (natTbl TM) GB QW 69 laws_heldIntS.x.sig (laws_heldIntS.fs N) := sound_of N (known_nil) hQs hmix laws_heldIntS.ok
theorem laws_heldReport.ok : funcOk (mkE Go.Proofs.Try.prog GB QW TM FM [(245, (laws_heldIntS.x.sig, true))]) 47 laws_heldReport.x = true := by kernel_rfl
theorem laws_heldReport.sound (N : Nat) : Sound Go.Proofs.Try.prog (natTbl TM) GB QW 47 laws_heldReport.x.sig (laws_heldReport.fs N) := sound_of N (known_cons (fm := FM) (n := 245) (by kernel_rfl) (laws_heldIntS.sound N) rfl (known_nil)) hQs hmix laws_heldReport.ok
theorem laws_heldReportS.ok : funcOk (mkE Go.Proofs.Try.prog GB QW TM FM [(245, (laws_heldIntS.x.sig, true))]) 48 laws_heldReportS.x = true := by kernel_rfl
theorem laws_heldReportS.sound (N : Nat) : Sound Go.Proofs.Try.prog (natTbl TM) GB QW 48 laws_heldReportS.x.sig (laws_heldReportS.fs N) := sound_of N (known_cons (fm := FM) (n := 245) (by kernel_rfl) (laws_heldIntS.sound N) rfl (known_nil)) hQs hmix laws_heldReportS.ok
theorem laws_heldPipe.ok : funcOk (mkE Go.Proofs.Try.prog GB QW TM FM [(339, (laws_heldReport.x.sig, true)), (340, (laws_heldReportS.x.sig, true))]) 21 laws_heldPipe.x = true := by kernel_rfl
theorem laws_heldPipe.sound (N : Nat) : Sound Go.Proofs.Try.prog (natTbl TM) GB QW 21 laws_heldPipe.x.sig (laws_heldPipe.fs N) := sound_of N (known_cons (fm := FM) (n := 339) (by kernel_rfl) (laws_heldReport.sound N) rfl (known_cons (fm := FM) (n := 340) (by kernel_rfl) (laws_heldReportS.sound N) rfl (known_nil))) hQs hmix laws_heldPipe.ok
theorem laws_FnExactTakeReport.ok : funcOk (mkE Go.Proofs.Try.prog GB QW TM FM [(336, (impl_TakeReporth.x.sig, true)), (281, (laws_eqPipe.x.sig, true)), (341, (laws_heldPipe.x.sig, true)), (338, (laws_markPipe.x.sig, false)), (274, (laws_szPipe.x.sig, true)), (276, (laws_toPipeh.x.sig, true)), (333, (spec_TakeReport.x.sig, true))]) 4 laws_FnExactTakeReport.x = true := by kernel_rfl
theorem laws_FnExactTakeReport.sound (N : Nat) : Sound Go.Proofs.Try.prog (natTbl TM) GB QW 4 laws_FnExactTakeReport.x.sig (laws_FnExactTakeReport.fs N) := sound_of N (known_cons (fm := FM) (n := 336) (by kernel_rfl) (impl_TakeReporth.sound N) rfl (known_cons (fm := FM) (n := 281) (by kernel_rfl) (laws_eqPipe.sound N) rfl (known_cons (fm := FM) (n := 341) (by kernel_rfl) (laws_heldPipe.sound N) rfl (known_cons (fm := FM) (n := 338) (by kernel_rfl) (laws_markPipe.sound N) rfl (known_cons (fm := FM) (n := 274) (by kernel_rfl) (laws_szPipe.sound N) rfl (known_cons (fm := FM) (n := 276) (by kernel_rfl) (laws_toPipeh.sound N) rfl (known_cons (fm := FM) (n := 333) (by kernel_rfl) (spec_TakeReport.sound N) rfl (known_nil)))))))) hQs hmix laws_FnExactTakeReport.ok
end Go.Kb
