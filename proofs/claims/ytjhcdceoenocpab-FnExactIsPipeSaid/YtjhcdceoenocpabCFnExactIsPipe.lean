/- Each function of the law does what its abstract text does, over the program. -/
import Derived.Test.YtjhcdceoenocpabKc
import Derived.Test.YtjhcdceoenocpabF1
import Derived.Test.YtjhcdceoenocpabF2
import Derived.Test.YtjhcdceoenocpabF3
import Derived.Test.YtjhcdceoenocpabRows
import Derived.KernelRfl
namespace Go.Kb
def TM : List (Nat × Nat) := [(2, 3), (1, 5), (16, 9), (6, 22), (12, 27)]
def FM : List (Nat × Nat) := [(251, 34), (258, 8), (273, 54), (274, 29), (254, 38), (259, 10), (275, 56), (276, 31), (1, 50), (260, 35), (277, 55), (278, 30), (153, 59), (263, 39), (205, 64), (206, 57), (279, 32), (239, 42), (265, 12), (280, 58), (281, 33), (282, 7)]
theorem hmix : Go.Proofs.Try.prog.follows .mixedOrders = true := by kernel_rfl
theorem laws_szIntS.ok : funcOk (mkE Go.Proofs.Try.prog TM FM []) 34 laws_szIntS.x = true := by kernel_rfl
theorem laws_szIntS.sound (N : Nat) : Sound Go.Proofs.Try.prog (natTbl TM) 34 laws_szIntS.x.sig (laws_szIntS.fs N) := sound_of N (known_nil) hmix laws_szIntS.ok
theorem laws_szReport.ok : funcOk (mkE Go.Proofs.Try.prog TM FM [(251, (laws_szIntS.x.sig, true))]) 8 laws_szReport.x = true := by kernel_rfl
theorem laws_szReport.sound (N : Nat) : Sound Go.Proofs.Try.prog (natTbl TM) 8 laws_szReport.x.sig (laws_szReport.fs N) := sound_of N (known_cons (fm := FM) (n := 251) (by kernel_rfl) (laws_szIntS.sound N) rfl (known_nil)) hmix laws_szReport.ok
theorem laws_szReportS.ok : funcOk (mkE Go.Proofs.Try.prog TM FM [(258, (laws_szReport.x.sig, true))]) 54 laws_szReportS.x = true := by kernel_rfl
theorem laws_szReportS.sound (N : Nat) : Sound Go.Proofs.Try.prog (natTbl TM) 54 laws_szReportS.x.sig (laws_szReportS.fs N) := sound_of N (known_cons (fm := FM) (n := 258) (by kernel_rfl) (laws_szReport.sound N) rfl (known_nil)) hmix laws_szReportS.ok
theorem laws_szPipe.ok : funcOk (mkE Go.Proofs.Try.prog TM FM [(258, (laws_szReport.x.sig, true)), (273, (laws_szReportS.x.sig, true))]) 29 laws_szPipe.x = true := by kernel_rfl
theorem laws_szPipe.sound (N : Nat) : Sound Go.Proofs.Try.prog (natTbl TM) 29 laws_szPipe.x.sig (laws_szPipe.fs N) := sound_of N (known_cons (fm := FM) (n := 258) (by kernel_rfl) (laws_szReport.sound N) rfl (known_cons (fm := FM) (n := 273) (by kernel_rfl) (laws_szReportS.sound N) rfl (known_nil))) hmix laws_szPipe.ok
theorem laws_toIntS.ok : funcOk (mkE Go.Proofs.Try.prog TM FM []) 38 laws_toIntS.x = true := by kernel_rfl
theorem laws_toIntS.sound (N : Nat) : Sound Go.Proofs.Try.prog (natTbl TM) 38 laws_toIntS.x.sig (laws_toIntS.fs N) := sound_of N (known_nil) hmix laws_toIntS.ok
theorem laws_toReport.ok : funcOk (mkE Go.Proofs.Try.prog TM FM [(254, (laws_toIntS.x.sig, true))]) 10 laws_toReport.x = true := by kernel_rfl
theorem laws_toReport.sound (N : Nat) : Sound Go.Proofs.Try.prog (natTbl TM) 10 laws_toReport.x.sig (laws_toReport.fs N) := sound_of N (known_cons (fm := FM) (n := 254) (by kernel_rfl) (laws_toIntS.sound N) rfl (known_nil)) hmix laws_toReport.ok
theorem laws_toReportS.ok : funcOk (mkE Go.Proofs.Try.prog TM FM [(259, (laws_toReport.x.sig, true))]) 56 laws_toReportS.x = true := by kernel_rfl
theorem laws_toReportS.sound (N : Nat) : Sound Go.Proofs.Try.prog (natTbl TM) 56 laws_toReportS.x.sig (laws_toReportS.fs N) := sound_of N (known_cons (fm := FM) (n := 259) (by kernel_rfl) (laws_toReport.sound N) rfl (known_nil)) hmix laws_toReportS.ok
theorem laws_toPipe.ok : funcOk (mkE Go.Proofs.Try.prog TM FM [(259, (laws_toReport.x.sig, true)), (275, (laws_toReportS.x.sig, true))]) 31 laws_toPipe.x = true := by kernel_rfl
theorem laws_toPipe.sound (N : Nat) : Sound Go.Proofs.Try.prog (natTbl TM) 31 laws_toPipe.x.sig (laws_toPipe.fs N) := sound_of N (known_cons (fm := FM) (n := 259) (by kernel_rfl) (laws_toReport.sound N) rfl (known_cons (fm := FM) (n := 275) (by kernel_rfl) (laws_toReportS.sound N) rfl (known_nil))) hmix laws_toPipe.ok
theorem spec_l1In.ok : funcOk (mkE Go.Proofs.Try.prog TM FM []) 50 spec_l1In.x = true := by kernel_rfl
theorem spec_l1In.sound (N : Nat) : Sound Go.Proofs.Try.prog (natTbl TM) 50 spec_l1In.x.sig (spec_l1In.fs N) := sound_of N (known_nil) hmix spec_l1In.ok
theorem spec_IsReport.ok : funcOk (mkE Go.Proofs.Try.prog TM FM [(1, (spec_l1In.x.sig, true))]) 35 spec_IsReport.x = true := by kernel_rfl
theorem spec_IsReport.sound (N : Nat) : Sound Go.Proofs.Try.prog (natTbl TM) 35 spec_IsReport.x.sig (spec_IsReport.fs N) := sound_of N (known_cons (fm := FM) (n := 1) (by kernel_rfl) (spec_l1In.sound N) rfl (known_nil)) hmix spec_IsReport.ok
theorem spec_SameReport.ok : funcOk (mkE Go.Proofs.Try.prog TM FM []) 55 spec_SameReport.x = true := by kernel_rfl
theorem spec_SameReport.sound (N : Nat) : Sound Go.Proofs.Try.prog (natTbl TM) 55 spec_SameReport.x.sig (spec_SameReport.fs N) := sound_of N (known_nil) hmix spec_SameReport.ok
theorem spec_IsPipe.ok : funcOk (mkE Go.Proofs.Try.prog TM FM [(260, (spec_IsReport.x.sig, true)), (277, (spec_SameReport.x.sig, true))]) 30 spec_IsPipe.x = true := by kernel_rfl
theorem spec_IsPipe.sound (N : Nat) : Sound Go.Proofs.Try.prog (natTbl TM) 30 spec_IsPipe.x.sig (spec_IsPipe.fs N) := sound_of N (known_cons (fm := FM) (n := 260) (by kernel_rfl) (spec_IsReport.sound N) rfl (known_cons (fm := FM) (n := 277) (by kernel_rfl) (spec_SameReport.sound N) rfl (known_nil))) hmix spec_IsPipe.ok
theorem impl_isCode.ok : funcOk (mkE Go.Proofs.Try.prog TM FM []) 59 impl_isCode.x = true := by kernel_rfl
theorem impl_isCode.sound (N : Nat) : Sound Go.Proofs.Try.prog (natTbl TM) 59 impl_isCode.x.sig (impl_isCode.fs N) := sound_of N (known_nil) hmix impl_isCode.ok
theorem impl_IsReport.ok : funcOk (mkE Go.Proofs.Try.prog TM FM [(153, (impl_isCode.x.sig, true))]) 39 impl_IsReport.x = true := by kernel_rfl
theorem impl_IsReport.sound (N : Nat) : Sound Go.Proofs.Try.prog (natTbl TM) 39 impl_IsReport.x.sig (impl_IsReport.fs N) := sound_of N (known_cons (fm := FM) (n := 153) (by kernel_rfl) (impl_isCode.sound N) rfl (known_nil)) hmix impl_IsReport.ok
theorem impl_sameInts.ok : funcOk (mkE Go.Proofs.Try.prog TM FM []) 64 impl_sameInts.x = true := by kernel_rfl
theorem impl_sameInts.sound (N : Nat) : Sound Go.Proofs.Try.prog (natTbl TM) 64 impl_sameInts.x.sig (impl_sameInts.fs N) := sound_of N (known_nil) hmix impl_sameInts.ok
theorem impl_SameReport.ok : funcOk (mkE Go.Proofs.Try.prog TM FM [(205, (impl_sameInts.x.sig, true))]) 57 impl_SameReport.x = true := by kernel_rfl
theorem impl_SameReport.sound (N : Nat) : Sound Go.Proofs.Try.prog (natTbl TM) 57 impl_SameReport.x.sig (impl_SameReport.fs N) := sound_of N (known_cons (fm := FM) (n := 205) (by kernel_rfl) (impl_sameInts.sound N) rfl (known_nil)) hmix impl_SameReport.ok
theorem impl_IsPipe.ok : funcOk (mkE Go.Proofs.Try.prog TM FM [(263, (impl_IsReport.x.sig, true)), (206, (impl_SameReport.x.sig, true))]) 32 impl_IsPipe.x = true := by kernel_rfl
theorem impl_IsPipe.sound (N : Nat) : Sound Go.Proofs.Try.prog (natTbl TM) 32 impl_IsPipe.x.sig (impl_IsPipe.fs N) := sound_of N (known_cons (fm := FM) (n := 263) (by kernel_rfl) (impl_IsReport.sound N) rfl (known_cons (fm := FM) (n := 206) (by kernel_rfl) (impl_SameReport.sound N) rfl (known_nil))) hmix impl_IsPipe.ok
theorem laws_eqIntS.ok : funcOk (mkE Go.Proofs.Try.prog TM FM []) 42 laws_eqIntS.x = true := by kernel_rfl
theorem laws_eqIntS.sound (N : Nat) : Sound Go.Proofs.Try.prog (natTbl TM) 42 laws_eqIntS.x.sig (laws_eqIntS.fs N) := sound_of N (known_nil) hmix laws_eqIntS.ok
theorem laws_eqReport.ok : funcOk (mkE Go.Proofs.Try.prog TM FM [(239, (laws_eqIntS.x.sig, true))]) 12 laws_eqReport.x = true := by kernel_rfl
theorem laws_eqReport.sound (N : Nat) : Sound Go.Proofs.Try.prog (natTbl TM) 12 laws_eqReport.x.sig (laws_eqReport.fs N) := sound_of N (known_cons (fm := FM) (n := 239) (by kernel_rfl) (laws_eqIntS.sound N) rfl (known_nil)) hmix laws_eqReport.ok
theorem laws_eqReportS.ok : funcOk (mkE Go.Proofs.Try.prog TM FM [(265, (laws_eqReport.x.sig, true))]) 58 laws_eqReportS.x = true := by kernel_rfl
theorem laws_eqReportS.sound (N : Nat) : Sound Go.Proofs.Try.prog (natTbl TM) 58 laws_eqReportS.x.sig (laws_eqReportS.fs N) := sound_of N (known_cons (fm := FM) (n := 265) (by kernel_rfl) (laws_eqReport.sound N) rfl (known_nil)) hmix laws_eqReportS.ok
theorem laws_eqPipe.ok : funcOk (mkE Go.Proofs.Try.prog TM FM [(265, (laws_eqReport.x.sig, true)), (280, (laws_eqReportS.x.sig, true))]) 33 laws_eqPipe.x = true := by kernel_rfl
theorem laws_eqPipe.sound (N : Nat) : Sound Go.Proofs.Try.prog (natTbl TM) 33 laws_eqPipe.x.sig (laws_eqPipe.fs N) := sound_of N (known_cons (fm := FM) (n := 265) (by kernel_rfl) (laws_eqReport.sound N) rfl (known_cons (fm := FM) (n := 280) (by kernel_rfl) (laws_eqReportS.sound N) rfl (known_nil))) hmix laws_eqPipe.ok
theorem laws_FnExactIsPipe.ok : funcOk (mkE Go.Proofs.Try.prog TM FM [(279, (impl_IsPipe.x.sig, true)), (281, (laws_eqPipe.x.sig, true)), (274, (laws_szPipe.x.sig, true)), (276, (laws_toPipe.x.sig, true)), (278, (spec_IsPipe.x.sig, true))]) 7 laws_FnExactIsPipe.x = true := by kernel_rfl
theorem laws_FnExactIsPipe.sound (N : Nat) : Sound Go.Proofs.Try.prog (natTbl TM) 7 laws_FnExactIsPipe.x.sig (laws_FnExactIsPipe.fs N) := sound_of N (known_cons (fm := FM) (n := 279) (by kernel_rfl) (impl_IsPipe.sound N) rfl (known_cons (fm := FM) (n := 281) (by kernel_rfl) (laws_eqPipe.sound N) rfl (known_cons (fm := FM) (n := 274) (by kernel_rfl) (laws_szPipe.sound N) rfl (known_cons (fm := FM) (n := 276) (by kernel_rfl) (laws_toPipe.sound N) rfl (known_cons (fm := FM) (n := 278) (by kernel_rfl) (spec_IsPipe.sound N) rfl (known_nil)))))) hmix laws_FnExactIsPipe.ok
end Go.Kb
