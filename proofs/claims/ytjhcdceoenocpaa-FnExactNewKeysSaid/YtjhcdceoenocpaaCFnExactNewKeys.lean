/- Each function of the law does what its abstract text does, over the program. -/
import Derived.Test.YtjhcdceoenocpaaKc
import Derived.Test.YtjhcdceoenocpaaF1
import Derived.Test.YtjhcdceoenocpaaF2
import Derived.Test.YtjhcdceoenocpaaF3
import Derived.Test.YtjhcdceoenocpaaRows
import Derived.KernelRfl
namespace Go.Kb
def TM : List (Nat × Nat) := [(2, 3), (1, 5), (16, 9), (4, 36), (6, 46), (12, 71), (5, 93), (3, 119)]
def FM : List (Nat × Nat) := [(251, 71), (258, 37), (254, 74), (259, 39), (1, 72), (260, 75), (261, 76), (262, 38), (153, 93), (263, 77), (202, 78), (264, 40), (239, 41), (265, 42), (242, 44), (266, 43), (245, 45), (267, 8)]
theorem hmix : Go.Proofs.Try.prog.follows .mixedOrders = true := by kernel_rfl
theorem laws_szIntS.ok : funcOk (mkE Go.Proofs.Try.prog TM FM []) 71 laws_szIntS.x = true := by kernel_rfl
theorem laws_szIntS.sound (N : Nat) : Sound Go.Proofs.Try.prog (natTbl TM) 71 laws_szIntS.x.sig (laws_szIntS.fs N) := sound_of N (known_nil) hmix laws_szIntS.ok
theorem laws_szReport.ok : funcOk (mkE Go.Proofs.Try.prog TM FM [(251, (laws_szIntS.x.sig, true))]) 37 laws_szReport.x = true := by kernel_rfl
theorem laws_szReport.sound (N : Nat) : Sound Go.Proofs.Try.prog (natTbl TM) 37 laws_szReport.x.sig (laws_szReport.fs N) := sound_of N (known_cons (fm := FM) (n := 251) (by kernel_rfl) (laws_szIntS.sound N) rfl (known_nil)) hmix laws_szReport.ok
theorem laws_toIntS.ok : funcOk (mkE Go.Proofs.Try.prog TM FM []) 74 laws_toIntS.x = true := by kernel_rfl
theorem laws_toIntS.sound (N : Nat) : Sound Go.Proofs.Try.prog (natTbl TM) 74 laws_toIntS.x.sig (laws_toIntS.fs N) := sound_of N (known_nil) hmix laws_toIntS.ok
theorem laws_toReport.ok : funcOk (mkE Go.Proofs.Try.prog TM FM [(254, (laws_toIntS.x.sig, true))]) 39 laws_toReport.x = true := by kernel_rfl
theorem laws_toReport.sound (N : Nat) : Sound Go.Proofs.Try.prog (natTbl TM) 39 laws_toReport.x.sig (laws_toReport.fs N) := sound_of N (known_cons (fm := FM) (n := 254) (by kernel_rfl) (laws_toIntS.sound N) rfl (known_nil)) hmix laws_toReport.ok
theorem spec_l1In.ok : funcOk (mkE Go.Proofs.Try.prog TM FM []) 72 spec_l1In.x = true := by kernel_rfl
theorem spec_l1In.sound (N : Nat) : Sound Go.Proofs.Try.prog (natTbl TM) 72 spec_l1In.x.sig (spec_l1In.fs N) := sound_of N (known_nil) hmix spec_l1In.ok
theorem spec_IsReport.ok : funcOk (mkE Go.Proofs.Try.prog TM FM [(1, (spec_l1In.x.sig, true))]) 75 spec_IsReport.x = true := by kernel_rfl
theorem spec_IsReport.sound (N : Nat) : Sound Go.Proofs.Try.prog (natTbl TM) 75 spec_IsReport.x.sig (spec_IsReport.fs N) := sound_of N (known_cons (fm := FM) (n := 1) (by kernel_rfl) (spec_l1In.sound N) rfl (known_nil)) hmix spec_IsReport.ok
theorem spec_l12Has.ok : funcOk (mkE Go.Proofs.Try.prog TM FM []) 76 spec_l12Has.x = true := by kernel_rfl
theorem spec_l12Has.sound (N : Nat) : Sound Go.Proofs.Try.prog (natTbl TM) 76 spec_l12Has.x.sig (spec_l12Has.fs N) := sound_of N (known_nil) hmix spec_l12Has.ok
theorem spec_NewKeys.ok : funcOk (mkE Go.Proofs.Try.prog TM FM [(260, (spec_IsReport.x.sig, true)), (261, (spec_l12Has.x.sig, true))]) 38 spec_NewKeys.x = true := by kernel_rfl
theorem spec_NewKeys.sound (N : Nat) : Sound Go.Proofs.Try.prog (natTbl TM) 38 spec_NewKeys.x.sig (spec_NewKeys.fs N) := sound_of N (known_cons (fm := FM) (n := 260) (by kernel_rfl) (spec_IsReport.sound N) rfl (known_cons (fm := FM) (n := 261) (by kernel_rfl) (spec_l12Has.sound N) rfl (known_nil))) hmix spec_NewKeys.ok
theorem impl_isCode.ok : funcOk (mkE Go.Proofs.Try.prog TM FM []) 93 impl_isCode.x = true := by kernel_rfl
theorem impl_isCode.sound (N : Nat) : Sound Go.Proofs.Try.prog (natTbl TM) 93 impl_isCode.x.sig (impl_isCode.fs N) := sound_of N (known_nil) hmix impl_isCode.ok
theorem impl_IsReport.ok : funcOk (mkE Go.Proofs.Try.prog TM FM [(153, (impl_isCode.x.sig, true))]) 77 impl_IsReport.x = true := by kernel_rfl
theorem impl_IsReport.sound (N : Nat) : Sound Go.Proofs.Try.prog (natTbl TM) 77 impl_IsReport.x.sig (impl_IsReport.fs N) := sound_of N (known_cons (fm := FM) (n := 153) (by kernel_rfl) (impl_isCode.sound N) rfl (known_nil)) hmix impl_IsReport.ok
theorem impl_hasInt.ok : funcOk (mkE Go.Proofs.Try.prog TM FM []) 78 impl_hasInt.x = true := by kernel_rfl
theorem impl_hasInt.sound (N : Nat) : Sound Go.Proofs.Try.prog (natTbl TM) 78 impl_hasInt.x.sig (impl_hasInt.fs N) := sound_of N (known_nil) hmix impl_hasInt.ok
theorem impl_NewKeys.ok : funcOk (mkE Go.Proofs.Try.prog TM FM [(263, (impl_IsReport.x.sig, true)), (202, (impl_hasInt.x.sig, true))]) 40 impl_NewKeys.x = true := by kernel_rfl
theorem impl_NewKeys.sound (N : Nat) : Sound Go.Proofs.Try.prog (natTbl TM) 40 impl_NewKeys.x.sig (impl_NewKeys.fs N) := sound_of N (known_cons (fm := FM) (n := 263) (by kernel_rfl) (impl_IsReport.sound N) rfl (known_cons (fm := FM) (n := 202) (by kernel_rfl) (impl_hasInt.sound N) rfl (known_nil))) hmix impl_NewKeys.ok
theorem laws_eqIntS.ok : funcOk (mkE Go.Proofs.Try.prog TM FM []) 41 laws_eqIntS.x = true := by kernel_rfl
theorem laws_eqIntS.sound (N : Nat) : Sound Go.Proofs.Try.prog (natTbl TM) 41 laws_eqIntS.x.sig (laws_eqIntS.fs N) := sound_of N (known_nil) hmix laws_eqIntS.ok
theorem laws_eqReport.ok : funcOk (mkE Go.Proofs.Try.prog TM FM [(239, (laws_eqIntS.x.sig, true))]) 42 laws_eqReport.x = true := by kernel_rfl
theorem laws_eqReport.sound (N : Nat) : Sound Go.Proofs.Try.prog (natTbl TM) 42 laws_eqReport.x.sig (laws_eqReport.fs N) := sound_of N (known_cons (fm := FM) (n := 239) (by kernel_rfl) (laws_eqIntS.sound N) rfl (known_nil)) hmix laws_eqReport.ok
theorem laws_markIntS.ok : funcOk (mkE Go.Proofs.Try.prog TM FM []) 44 laws_markIntS.x = true := by kernel_rfl
theorem laws_markIntS.sound (N : Nat) : Sound Go.Proofs.Try.prog (natTbl TM) 44 laws_markIntS.x.sig (laws_markIntS.fs N) := sound_of N (known_nil) hmix laws_markIntS.ok
theorem laws_markReport.ok : funcOk (mkE Go.Proofs.Try.prog TM FM [(242, (laws_markIntS.x.sig, false))]) 43 laws_markReport.x = true := by kernel_rfl
theorem laws_markReport.sound (N : Nat) : Sound Go.Proofs.Try.prog (natTbl TM) 43 laws_markReport.x.sig (laws_markReport.fs N) := sound_of N (known_cons (fm := FM) (n := 242) (by kernel_rfl) (laws_markIntS.sound N) rfl (known_nil)) hmix laws_markReport.ok
theorem laws_heldIntS.ok : funcOk (mkE Go.Proofs.Try.prog TM FM []) 45 laws_heldIntS.x = true := by kernel_rfl
theorem laws_heldIntS.sound (N : Nat) : Sound Go.Proofs.Try.prog (natTbl TM) 45 laws_heldIntS.x.sig (laws_heldIntS.fs N) := sound_of N (known_nil) hmix laws_heldIntS.ok
theorem laws_FnExactNewKeys.ok : funcOk (mkE Go.Proofs.Try.prog TM FM [(264, (impl_NewKeys.x.sig, true)), (239, (laws_eqIntS.x.sig, true)), (265, (laws_eqReport.x.sig, true)), (245, (laws_heldIntS.x.sig, true)), (242, (laws_markIntS.x.sig, false)), (266, (laws_markReport.x.sig, false)), (258, (laws_szReport.x.sig, true)), (259, (laws_toReport.x.sig, true)), (262, (spec_NewKeys.x.sig, true))]) 8 laws_FnExactNewKeys.x = true := by kernel_rfl
theorem laws_FnExactNewKeys.sound (N : Nat) : Sound Go.Proofs.Try.prog (natTbl TM) 8 laws_FnExactNewKeys.x.sig (laws_FnExactNewKeys.fs N) := sound_of N (known_cons (fm := FM) (n := 264) (by kernel_rfl) (impl_NewKeys.sound N) rfl (known_cons (fm := FM) (n := 239) (by kernel_rfl) (laws_eqIntS.sound N) rfl (known_cons (fm := FM) (n := 265) (by kernel_rfl) (laws_eqReport.sound N) rfl (known_cons (fm := FM) (n := 245) (by kernel_rfl) (laws_heldIntS.sound N) rfl (known_cons (fm := FM) (n := 242) (by kernel_rfl) (laws_markIntS.sound N) rfl (known_cons (fm := FM) (n := 266) (by kernel_rfl) (laws_markReport.sound N) rfl (known_cons (fm := FM) (n := 258) (by kernel_rfl) (laws_szReport.sound N) rfl (known_cons (fm := FM) (n := 259) (by kernel_rfl) (laws_toReport.sound N) rfl (known_cons (fm := FM) (n := 262) (by kernel_rfl) (spec_NewKeys.sound N) rfl (known_nil)))))))))) hmix laws_FnExactNewKeys.ok
end Go.Kb
