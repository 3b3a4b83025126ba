/- Each function of the law does what its abstract text does, over the program. -/
import Derived.Test.YtjhcdceoenocpabKc
import Derived.Test.YtjhcdceoenocpabF1
import Derived.Test.YtjhcdceoenocpabF2
import Derived.Test.YtjhcdceoenocpabF3
import Derived.Test.YtjhcdceoenocpabRows
import Derived.KernelRfl
namespace Go.Kb
def TM : List (Nat × Nat) := [(2, 3), (1, 5), (16, 9), (6, 22), (12, 27)]
def FM : List (Nat × Nat) := [(251, 34), (258, 8), (254, 38), (259, 10), (1, 50), (260, 35), (261, 37), (262, 36), (268, 9), (153, 59), (263, 39), (202, 41), (264, 40), (269, 11), (239, 42), (265, 12), (270, 3)]
theorem hmix : Go.Proofs.Try.prog.follows .mixedOrders = true := by kernel_rfl
theorem laws_szIntS.ok : funcOk (mkE Go.Proofs.Try.prog TM FM []) 34 laws_szIntS.x = true := by kernel_rfl
theorem laws_szIntS.sound (N : Nat) : Sound Go.Proofs.Try.prog (natTbl TM) 34 laws_szIntS.x.sig (laws_szIntS.fs N) := sound_of N (known_nil) hmix laws_szIntS.ok
theorem laws_szReport.ok : funcOk (mkE Go.Proofs.Try.prog TM FM [(251, (laws_szIntS.x.sig, true))]) 8 laws_szReport.x = true := by kernel_rfl
theorem laws_szReport.sound (N : Nat) : Sound Go.Proofs.Try.prog (natTbl TM) 8 laws_szReport.x.sig (laws_szReport.fs N) := sound_of N (known_cons (fm := FM) (n := 251) (by kernel_rfl) (laws_szIntS.sound N) rfl (known_nil)) hmix laws_szReport.ok
theorem laws_toIntS.ok : funcOk (mkE Go.Proofs.Try.prog TM FM []) 38 laws_toIntS.x = true := by kernel_rfl
theorem laws_toIntS.sound (N : Nat) : Sound Go.Proofs.Try.prog (natTbl TM) 38 laws_toIntS.x.sig (laws_toIntS.fs N) := sound_of N (known_nil) hmix laws_toIntS.ok
theorem laws_toReport.ok : funcOk (mkE Go.Proofs.Try.prog TM FM [(254, (laws_toIntS.x.sig, true))]) 10 laws_toReport.x = true := by kernel_rfl
theorem laws_toReport.sound (N : Nat) : Sound Go.Proofs.Try.prog (natTbl TM) 10 laws_toReport.x.sig (laws_toReport.fs N) := sound_of N (known_cons (fm := FM) (n := 254) (by kernel_rfl) (laws_toIntS.sound N) rfl (known_nil)) hmix laws_toReport.ok
theorem spec_l1In.ok : funcOk (mkE Go.Proofs.Try.prog TM FM []) 50 spec_l1In.x = true := by kernel_rfl
theorem spec_l1In.sound (N : Nat) : Sound Go.Proofs.Try.prog (natTbl TM) 50 spec_l1In.x.sig (spec_l1In.fs N) := sound_of N (known_nil) hmix spec_l1In.ok
theorem spec_IsReport.ok : funcOk (mkE Go.Proofs.Try.prog TM FM [(1, (spec_l1In.x.sig, true))]) 35 spec_IsReport.x = true := by kernel_rfl
theorem spec_IsReport.sound (N : Nat) : Sound Go.Proofs.Try.prog (natTbl TM) 35 spec_IsReport.x.sig (spec_IsReport.fs N) := sound_of N (known_cons (fm := FM) (n := 1) (by kernel_rfl) (spec_l1In.sound N) rfl (known_nil)) hmix spec_IsReport.ok
theorem spec_l12Has.ok : funcOk (mkE Go.Proofs.Try.prog TM FM []) 37 spec_l12Has.x = true := by kernel_rfl
theorem spec_l12Has.sound (N : Nat) : Sound Go.Proofs.Try.prog (natTbl TM) 37 spec_l12Has.x.sig (spec_l12Has.fs N) := sound_of N (known_nil) hmix spec_l12Has.ok
theorem spec_NewKeys.ok : funcOk (mkE Go.Proofs.Try.prog TM FM [(260, (spec_IsReport.x.sig, true)), (261, (spec_l12Has.x.sig, true))]) 36 spec_NewKeys.x = true := by kernel_rfl
theorem spec_NewKeys.sound (N : Nat) : Sound Go.Proofs.Try.prog (natTbl TM) 36 spec_NewKeys.x.sig (spec_NewKeys.fs N) := sound_of N (known_cons (fm := FM) (n := 260) (by kernel_rfl) (spec_IsReport.sound N) rfl (known_cons (fm := FM) (n := 261) (by kernel_rfl) (spec_l12Has.sound N) rfl (known_nil))) hmix spec_NewKeys.ok
theorem spec_MayDrop.ok : funcOk (mkE Go.Proofs.Try.prog TM FM [(260, (spec_IsReport.x.sig, true)), (262, (spec_NewKeys.x.sig, true)), (261, (spec_l12Has.x.sig, true))]) 9 spec_MayDrop.x = true := by kernel_rfl
theorem spec_MayDrop.sound (N : Nat) : Sound Go.Proofs.Try.prog (natTbl TM) 9 spec_MayDrop.x.sig (spec_MayDrop.fs N) := sound_of N (known_cons (fm := FM) (n := 260) (by kernel_rfl) (spec_IsReport.sound N) rfl (known_cons (fm := FM) (n := 262) (by kernel_rfl) (spec_NewKeys.sound N) rfl (known_cons (fm := FM) (n := 261) (by kernel_rfl) (spec_l12Has.sound N) rfl (known_nil)))) hmix spec_MayDrop.ok
theorem impl_isCode.ok : funcOk (mkE Go.Proofs.Try.prog TM FM []) 59 impl_isCode.x = true := by kernel_rfl
theorem impl_isCode.sound (N : Nat) : Sound Go.Proofs.Try.prog (natTbl TM) 59 impl_isCode.x.sig (impl_isCode.fs N) := sound_of N (known_nil) hmix impl_isCode.ok
theorem impl_IsReport.ok : funcOk (mkE Go.Proofs.Try.prog TM FM [(153, (impl_isCode.x.sig, true))]) 39 impl_IsReport.x = true := by kernel_rfl
theorem impl_IsReport.sound (N : Nat) : Sound Go.Proofs.Try.prog (natTbl TM) 39 impl_IsReport.x.sig (impl_IsReport.fs N) := sound_of N (known_cons (fm := FM) (n := 153) (by kernel_rfl) (impl_isCode.sound N) rfl (known_nil)) hmix impl_IsReport.ok
theorem impl_hasInt.ok : funcOk (mkE Go.Proofs.Try.prog TM FM []) 41 impl_hasInt.x = true := by kernel_rfl
theorem impl_hasInt.sound (N : Nat) : Sound Go.Proofs.Try.prog (natTbl TM) 41 impl_hasInt.x.sig (impl_hasInt.fs N) := sound_of N (known_nil) hmix impl_hasInt.ok
theorem impl_NewKeys.ok : funcOk (mkE Go.Proofs.Try.prog TM FM [(263, (impl_IsReport.x.sig, true)), (202, (impl_hasInt.x.sig, true))]) 40 impl_NewKeys.x = true := by kernel_rfl
theorem impl_NewKeys.sound (N : Nat) : Sound Go.Proofs.Try.prog (natTbl TM) 40 impl_NewKeys.x.sig (impl_NewKeys.fs N) := sound_of N (known_cons (fm := FM) (n := 263) (by kernel_rfl) (impl_IsReport.sound N) rfl (known_cons (fm := FM) (n := 202) (by kernel_rfl) (impl_hasInt.sound N) rfl (known_nil))) hmix impl_NewKeys.ok
theorem impl_MayDrop.ok : funcOk (mkE Go.Proofs.Try.prog TM FM [(263, (impl_IsReport.x.sig, true)), (264, (impl_NewKeys.x.sig, true)), (202, (impl_hasInt.x.sig, true))]) 11 impl_MayDrop.x = true := by kernel_rfl
theorem impl_MayDrop.sound (N : Nat) : Sound Go.Proofs.Try.prog (natTbl TM) 11 impl_MayDrop.x.sig (impl_MayDrop.fs N) := sound_of N (known_cons (fm := FM) (n := 263) (by kernel_rfl) (impl_IsReport.sound N) rfl (known_cons (fm := FM) (n := 264) (by kernel_rfl) (impl_NewKeys.sound N) rfl (known_cons (fm := FM) (n := 202) (by kernel_rfl) (impl_hasInt.sound N) rfl (known_nil)))) hmix impl_MayDrop.ok
theorem laws_eqIntS.ok : funcOk (mkE Go.Proofs.Try.prog TM FM []) 42 laws_eqIntS.x = true := by kernel_rfl
theorem laws_eqIntS.sound (N : Nat) : Sound Go.Proofs.Try.prog (natTbl TM) 42 laws_eqIntS.x.sig (laws_eqIntS.fs N) := sound_of N (known_nil) hmix laws_eqIntS.ok
theorem laws_eqReport.ok : funcOk (mkE Go.Proofs.Try.prog TM FM [(239, (laws_eqIntS.x.sig, true))]) 12 laws_eqReport.x = true := by kernel_rfl
theorem laws_eqReport.sound (N : Nat) : Sound Go.Proofs.Try.prog (natTbl TM) 12 laws_eqReport.x.sig (laws_eqReport.fs N) := sound_of N (known_cons (fm := FM) (n := 239) (by kernel_rfl) (laws_eqIntS.sound N) rfl (known_nil)) hmix laws_eqReport.ok
theorem laws_FnExactMayDrop.ok : funcOk (mkE Go.Proofs.Try.prog TM FM [(269, (impl_MayDrop.x.sig, true)), (265, (laws_eqReport.x.sig, true)), (258, (laws_szReport.x.sig, true)), (259, (laws_toReport.x.sig, true)), (268, (spec_MayDrop.x.sig, true))]) 3 laws_FnExactMayDrop.x = true := by kernel_rfl
theorem laws_FnExactMayDrop.sound (N : Nat) : Sound Go.Proofs.Try.prog (natTbl TM) 3 laws_FnExactMayDrop.x.sig (laws_FnExactMayDrop.fs N) := sound_of N (known_cons (fm := FM) (n := 269) (by kernel_rfl) (impl_MayDrop.sound N) rfl (known_cons (fm := FM) (n := 265) (by kernel_rfl) (laws_eqReport.sound N) rfl (known_cons (fm := FM) (n := 258) (by kernel_rfl) (laws_szReport.sound N) rfl (known_cons (fm := FM) (n := 259) (by kernel_rfl) (laws_toReport.sound N) rfl (known_cons (fm := FM) (n := 268) (by kernel_rfl) (spec_MayDrop.sound N) rfl (known_nil)))))) hmix laws_FnExactMayDrop.ok
end Go.Kb
