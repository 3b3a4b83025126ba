/- Each function of the law does what its abstract text does, over the program. -/
import Derived.Test.YtjhcdceoenocpacKc
import Derived.Test.YtjhcdceoenocpacF1
import Derived.Test.YtjhcdceoenocpacF2
import Derived.Test.YtjhcdceoenocpacF3
import Derived.Test.YtjhcdceoenocpacRows
import Derived.KernelRfl
namespace Go.Kb
def TM : List (Nat × Nat) := [(2, 3), (1, 5), (16, 9), (6, 34), (7, 48), (12, 66)]
def FM : List (Nat × Nat) := [(251, 47), (252, 46), (253, 15), (254, 52), (255, 51), (256, 17), (1, 49), (96, 57), (97, 48), (2, 50), (100, 16), (108, 59), (109, 53), (3, 54), (4, 55), (112, 18), (239, 28), (240, 56), (241, 19), (327, 4)]
theorem hmix : Go.Proofs.Try.prog.follows .mixedOrders = true := by kernel_rfl
theorem laws_szIntS.ok : funcOk (mkE Go.Proofs.Try.prog TM FM []) 47 laws_szIntS.x = true := by kernel_rfl
theorem laws_szIntS.sound (N : Nat) : Sound Go.Proofs.Try.prog (natTbl TM) 47 laws_szIntS.x.sig (laws_szIntS.fs N) := sound_of N (known_nil) hmix laws_szIntS.ok
theorem laws_szIntSS.ok : funcOk (mkE Go.Proofs.Try.prog TM FM [(251, (laws_szIntS.x.sig, true))]) 46 laws_szIntSS.x = true := by kernel_rfl
theorem laws_szIntSS.sound (N : Nat) : Sound Go.Proofs.Try.prog (natTbl TM) 46 laws_szIntSS.x.sig (laws_szIntSS.fs N) := sound_of N (known_cons (fm := FM) (n := 251) (by kernel_rfl) (laws_szIntS.sound N) rfl (known_nil)) hmix laws_szIntSS.ok
theorem laws_szFlash.ok : funcOk (mkE Go.Proofs.Try.prog TM FM [(251, (laws_szIntS.x.sig, true)), (252, (laws_szIntSS.x.sig, true))]) 15 laws_szFlash.x = true := by kernel_rfl
theorem laws_szFlash.sound (N : Nat) : Sound Go.Proofs.Try.prog (natTbl TM) 15 laws_szFlash.x.sig (laws_szFlash.fs N) := sound_of N (known_cons (fm := FM) (n := 251) (by kernel_rfl) (laws_szIntS.sound N) rfl (known_cons (fm := FM) (n := 252) (by kernel_rfl) (laws_szIntSS.sound N) rfl (known_nil))) hmix laws_szFlash.ok
theorem laws_toIntS.ok : funcOk (mkE Go.Proofs.Try.prog TM FM []) 52 laws_toIntS.x = true := by kernel_rfl
theorem laws_toIntS.sound (N : Nat) : Sound Go.Proofs.Try.prog (natTbl TM) 52 laws_toIntS.x.sig (laws_toIntS.fs N) := sound_of N (known_nil) hmix laws_toIntS.ok
theorem laws_toIntSS.ok : funcOk (mkE Go.Proofs.Try.prog TM FM [(254, (laws_toIntS.x.sig, true))]) 51 laws_toIntSS.x = true := by kernel_rfl
theorem laws_toIntSS.sound (N : Nat) : Sound Go.Proofs.Try.prog (natTbl TM) 51 laws_toIntSS.x.sig (laws_toIntSS.fs N) := sound_of N (known_cons (fm := FM) (n := 254) (by kernel_rfl) (laws_toIntS.sound N) rfl (known_nil)) hmix laws_toIntSS.ok
theorem laws_toFlash.ok : funcOk (mkE Go.Proofs.Try.prog TM FM [(254, (laws_toIntS.x.sig, true)), (255, (laws_toIntSS.x.sig, true))]) 17 laws_toFlash.x = true := by kernel_rfl
theorem laws_toFlash.sound (N : Nat) : Sound Go.Proofs.Try.prog (natTbl TM) 17 laws_toFlash.x.sig (laws_toFlash.fs N) := sound_of N (known_cons (fm := FM) (n := 254) (by kernel_rfl) (laws_toIntS.sound N) rfl (known_cons (fm := FM) (n := 255) (by kernel_rfl) (laws_toIntSS.sound N) rfl (known_nil))) hmix laws_toFlash.ok
theorem spec_l1In.ok : funcOk (mkE Go.Proofs.Try.prog TM FM []) 49 spec_l1In.x = true := by kernel_rfl
theorem spec_l1In.sound (N : Nat) : Sound Go.Proofs.Try.prog (natTbl TM) 49 spec_l1In.x.sig (spec_l1In.fs N) := sound_of N (known_nil) hmix spec_l1In.ok
theorem spec_IsFlash.ok : funcOk (mkE Go.Proofs.Try.prog TM FM [(1, (spec_l1In.x.sig, true))]) 57 spec_IsFlash.x = true := by kernel_rfl
theorem spec_IsFlash.sound (N : Nat) : Sound Go.Proofs.Try.prog (natTbl TM) 57 spec_IsFlash.x.sig (spec_IsFlash.fs N) := sound_of N (known_cons (fm := FM) (n := 1) (by kernel_rfl) (spec_l1In.sound N) rfl (known_nil)) hmix spec_IsFlash.ok
theorem spec_ActivePage.ok : funcOk (mkE Go.Proofs.Try.prog TM FM [(96, (spec_IsFlash.x.sig, true)), (1, (spec_l1In.x.sig, true))]) 48 spec_ActivePage.x = true := by kernel_rfl
theorem spec_ActivePage.sound (N : Nat) : Sound Go.Proofs.Try.prog (natTbl TM) 48 spec_ActivePage.x.sig (spec_ActivePage.fs N) := sound_of N (known_cons (fm := FM) (n := 96) (by kernel_rfl) (spec_IsFlash.sound N) rfl (known_cons (fm := FM) (n := 1) (by kernel_rfl) (spec_l1In.sound N) rfl (known_nil))) hmix spec_ActivePage.ok
theorem spec_CheckOf.ok : funcOk (mkE Go.Proofs.Try.prog TM FM [(1, (spec_l1In.x.sig, true))]) 50 spec_CheckOf.x = true := by kernel_rfl
theorem spec_CheckOf.sound (N : Nat) : Sound Go.Proofs.Try.prog (natTbl TM) 50 spec_CheckOf.x.sig (spec_CheckOf.fs N) := sound_of N (known_cons (fm := FM) (n := 1) (by kernel_rfl) (spec_l1In.sound N) rfl (known_nil)) hmix spec_CheckOf.ok
theorem spec_ReadSetting.ok : funcOk (mkE Go.Proofs.Try.prog TM FM [(97, (spec_ActivePage.x.sig, true)), (2, (spec_CheckOf.x.sig, true)), (1, (spec_l1In.x.sig, true))]) 16 spec_ReadSetting.x = true := by kernel_rfl
theorem spec_ReadSetting.sound (N : Nat) : Sound Go.Proofs.Try.prog (natTbl TM) 16 spec_ReadSetting.x.sig (spec_ReadSetting.fs N) := sound_of N (known_cons (fm := FM) (n := 97) (by kernel_rfl) (spec_ActivePage.sound N) rfl (known_cons (fm := FM) (n := 2) (by kernel_rfl) (spec_CheckOf.sound N) rfl (known_cons (fm := FM) (n := 1) (by kernel_rfl) (spec_l1In.sound N) rfl (known_nil)))) hmix spec_ReadSetting.ok
theorem impl_IsFlash.ok : funcOk (mkE Go.Proofs.Try.prog TM FM []) 59 impl_IsFlash.x = true := by kernel_rfl
theorem impl_IsFlash.sound (N : Nat) : Sound Go.Proofs.Try.prog (natTbl TM) 59 impl_IsFlash.x.sig (impl_IsFlash.fs N) := sound_of N (known_nil) hmix impl_IsFlash.ok
theorem impl_ActivePage.ok : funcOk (mkE Go.Proofs.Try.prog TM FM [(108, (impl_IsFlash.x.sig, true))]) 53 impl_ActivePage.x = true := by kernel_rfl
theorem impl_ActivePage.sound (N : Nat) : Sound Go.Proofs.Try.prog (natTbl TM) 53 impl_ActivePage.x.sig (impl_ActivePage.fs N) := sound_of N (known_cons (fm := FM) (n := 108) (by kernel_rfl) (impl_IsFlash.sound N) rfl (known_nil)) hmix impl_ActivePage.ok
theorem impl_isSetting.ok : funcOk (mkE Go.Proofs.Try.prog TM FM []) 54 impl_isSetting.x = true := by kernel_rfl
theorem impl_isSetting.sound (N : Nat) : Sound Go.Proofs.Try.prog (natTbl TM) 54 impl_isSetting.x.sig (impl_isSetting.fs N) := sound_of N (known_nil) hmix impl_isSetting.ok
theorem impl_CheckOf.ok : funcOk (mkE Go.Proofs.Try.prog TM FM [(3, (impl_isSetting.x.sig, true))]) 55 impl_CheckOf.x = true := by kernel_rfl
theorem impl_CheckOf.sound (N : Nat) : Sound Go.Proofs.Try.prog (natTbl TM) 55 impl_CheckOf.x.sig (impl_CheckOf.fs N) := sound_of N (known_cons (fm := FM) (n := 3) (by kernel_rfl) (impl_isSetting.sound N) rfl (known_nil)) hmix impl_CheckOf.ok
theorem impl_ReadSetting.ok : funcOk (mkE Go.Proofs.Try.prog TM FM [(109, (impl_ActivePage.x.sig, true)), (4, (impl_CheckOf.x.sig, true)), (3, (impl_isSetting.x.sig, true))]) 18 impl_ReadSetting.x = true := by kernel_rfl
theorem impl_ReadSetting.sound (N : Nat) : Sound Go.Proofs.Try.prog (natTbl TM) 18 impl_ReadSetting.x.sig (impl_ReadSetting.fs N) := sound_of N (known_cons (fm := FM) (n := 109) (by kernel_rfl) (impl_ActivePage.sound N) rfl (known_cons (fm := FM) (n := 4) (by kernel_rfl) (impl_CheckOf.sound N) rfl (known_cons (fm := FM) (n := 3) (by kernel_rfl) (impl_isSetting.sound N) rfl (known_nil)))) hmix impl_ReadSetting.ok
theorem laws_eqIntS.ok : funcOk (mkE Go.Proofs.Try.prog TM FM []) 28 laws_eqIntS.x = true := by kernel_rfl
theorem laws_eqIntS.sound (N : Nat) : Sound Go.Proofs.Try.prog (natTbl TM) 28 laws_eqIntS.x.sig (laws_eqIntS.fs N) := sound_of N (known_nil) hmix laws_eqIntS.ok
theorem laws_eqIntSS.ok : funcOk (mkE Go.Proofs.Try.prog TM FM [(239, (laws_eqIntS.x.sig, true))]) 56 laws_eqIntSS.x = true := by kernel_rfl
theorem laws_eqIntSS.sound (N : Nat) : Sound Go.Proofs.Try.prog (natTbl TM) 56 laws_eqIntSS.x.sig (laws_eqIntSS.fs N) := sound_of N (known_cons (fm := FM) (n := 239) (by kernel_rfl) (laws_eqIntS.sound N) rfl (known_nil)) hmix laws_eqIntSS.ok
theorem laws_eqFlash.ok : funcOk (mkE Go.Proofs.Try.prog TM FM [(239, (laws_eqIntS.x.sig, true)), (240, (laws_eqIntSS.x.sig, true))]) 19 laws_eqFlash.x = true := by kernel_rfl
theorem laws_eqFlash.sound (N : Nat) : Sound Go.Proofs.Try.prog (natTbl TM) 19 laws_eqFlash.x.sig (laws_eqFlash.fs N) := sound_of N (known_cons (fm := FM) (n := 239) (by kernel_rfl) (laws_eqIntS.sound N) rfl (known_cons (fm := FM) (n := 240) (by kernel_rfl) (laws_eqIntSS.sound N) rfl (known_nil))) hmix laws_eqFlash.ok
theorem laws_FnExactReadSetting.ok : funcOk (mkE Go.Proofs.Try.prog TM FM [(112, (impl_ReadSetting.x.sig, true)), (241, (laws_eqFlash.x.sig, true)), (253, (laws_szFlash.x.sig, true)), (256, (laws_toFlash.x.sig, true)), (100, (spec_ReadSetting.x.sig, true))]) 4 laws_FnExactReadSetting.x = true := by kernel_rfl
theorem laws_FnExactReadSetting.sound (N : Nat) : Sound Go.Proofs.Try.prog (natTbl TM) 4 laws_FnExactReadSetting.x.sig (laws_FnExactReadSetting.fs N) := sound_of N (known_cons (fm := FM) (n := 112) (by kernel_rfl) (impl_ReadSetting.sound N) rfl (known_cons (fm := FM) (n := 241) (by kernel_rfl) (laws_eqFlash.sound N) rfl (known_cons (fm := FM) (n := 253) (by kernel_rfl) (laws_szFlash.sound N) rfl (known_cons (fm := FM) (n := 256) (by kernel_rfl) (laws_toFlash.sound N) rfl (known_cons (fm := FM) (n := 100) (by kernel_rfl) (spec_ReadSetting.sound N) rfl (known_nil)))))) hmix laws_FnExactReadSetting.ok
end Go.Kb
