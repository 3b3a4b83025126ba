/- Each function of the law does what its abstract text does, over the program. -/
import Derived.Test.YtjhcdceoenocpabKc
import Derived.Test.YtjhcdceoenocpabF1
import Derived.Test.YtjhcdceoenocpabF2
import Derived.Test.YtjhcdceoenocpabF3
import Derived.Test.YtjhcdceoenocpabRows
import Derived.KernelRfl
namespace Go.Kb
def TM : List (Nat × Nat) := [(2, 3), (1, 5), (16, 9), (6, 22), (12, 27)]
def FM : List (Nat × Nat) := [(251, 34), (252, 48), (253, 22), (254, 38), (255, 51), (256, 24), (1, 50), (96, 49), (98, 27), (108, 52), (110, 28), (239, 42), (240, 53), (241, 26), (272, 6)]
theorem hmix : Go.Proofs.Try.prog.follows .mixedOrders = true := by kernel_rfl
theorem laws_szIntS.ok : funcOk (mkE Go.Proofs.Try.prog TM FM []) 34 laws_szIntS.x = true := by kernel_rfl
theorem laws_szIntS.sound (N : Nat) : Sound Go.Proofs.Try.prog (natTbl TM) 34 laws_szIntS.x.sig (laws_szIntS.fs N) := sound_of N (known_nil) hmix laws_szIntS.ok
theorem laws_szIntSS.ok : funcOk (mkE Go.Proofs.Try.prog TM FM [(251, (laws_szIntS.x.sig, true))]) 48 laws_szIntSS.x = true := by kernel_rfl
theorem laws_szIntSS.sound (N : Nat) : Sound Go.Proofs.Try.prog (natTbl TM) 48 laws_szIntSS.x.sig (laws_szIntSS.fs N) := sound_of N (known_cons (fm := FM) (n := 251) (by kernel_rfl) (laws_szIntS.sound N) rfl (known_nil)) hmix laws_szIntSS.ok
theorem laws_szFlash.ok : funcOk (mkE Go.Proofs.Try.prog TM FM [(251, (laws_szIntS.x.sig, true)), (252, (laws_szIntSS.x.sig, true))]) 22 laws_szFlash.x = true := by kernel_rfl
theorem laws_szFlash.sound (N : Nat) : Sound Go.Proofs.Try.prog (natTbl TM) 22 laws_szFlash.x.sig (laws_szFlash.fs N) := sound_of N (known_cons (fm := FM) (n := 251) (by kernel_rfl) (laws_szIntS.sound N) rfl (known_cons (fm := FM) (n := 252) (by kernel_rfl) (laws_szIntSS.sound N) rfl (known_nil))) hmix laws_szFlash.ok
theorem laws_toIntS.ok : funcOk (mkE Go.Proofs.Try.prog TM FM []) 38 laws_toIntS.x = true := by kernel_rfl
theorem laws_toIntS.sound (N : Nat) : Sound Go.Proofs.Try.prog (natTbl TM) 38 laws_toIntS.x.sig (laws_toIntS.fs N) := sound_of N (known_nil) hmix laws_toIntS.ok
theorem laws_toIntSS.ok : funcOk (mkE Go.Proofs.Try.prog TM FM [(254, (laws_toIntS.x.sig, true))]) 51 laws_toIntSS.x = true := by kernel_rfl
theorem laws_toIntSS.sound (N : Nat) : Sound Go.Proofs.Try.prog (natTbl TM) 51 laws_toIntSS.x.sig (laws_toIntSS.fs N) := sound_of N (known_cons (fm := FM) (n := 254) (by kernel_rfl) (laws_toIntS.sound N) rfl (known_nil)) hmix laws_toIntSS.ok
theorem laws_toFlash.ok : funcOk (mkE Go.Proofs.Try.prog TM FM [(254, (laws_toIntS.x.sig, true)), (255, (laws_toIntSS.x.sig, true))]) 24 laws_toFlash.x = true := by kernel_rfl
theorem laws_toFlash.sound (N : Nat) : Sound Go.Proofs.Try.prog (natTbl TM) 24 laws_toFlash.x.sig (laws_toFlash.fs N) := sound_of N (known_cons (fm := FM) (n := 254) (by kernel_rfl) (laws_toIntS.sound N) rfl (known_cons (fm := FM) (n := 255) (by kernel_rfl) (laws_toIntSS.sound N) rfl (known_nil))) hmix laws_toFlash.ok
theorem spec_l1In.ok : funcOk (mkE Go.Proofs.Try.prog TM FM []) 50 spec_l1In.x = true := by kernel_rfl
theorem spec_l1In.sound (N : Nat) : Sound Go.Proofs.Try.prog (natTbl TM) 50 spec_l1In.x.sig (spec_l1In.fs N) := sound_of N (known_nil) hmix spec_l1In.ok
theorem spec_IsFlash.ok : funcOk (mkE Go.Proofs.Try.prog TM FM [(1, (spec_l1In.x.sig, true))]) 49 spec_IsFlash.x = true := by kernel_rfl
theorem spec_IsFlash.sound (N : Nat) : Sound Go.Proofs.Try.prog (natTbl TM) 49 spec_IsFlash.x.sig (spec_IsFlash.fs N) := sound_of N (known_cons (fm := FM) (n := 1) (by kernel_rfl) (spec_l1In.sound N) rfl (known_nil)) hmix spec_IsFlash.ok
theorem spec_FreeRecord.ok : funcOk (mkE Go.Proofs.Try.prog TM FM [(96, (spec_IsFlash.x.sig, true)), (1, (spec_l1In.x.sig, true))]) 27 spec_FreeRecord.x = true := by kernel_rfl
theorem spec_FreeRecord.sound (N : Nat) : Sound Go.Proofs.Try.prog (natTbl TM) 27 spec_FreeRecord.x.sig (spec_FreeRecord.fs N) := sound_of N (known_cons (fm := FM) (n := 96) (by kernel_rfl) (spec_IsFlash.sound N) rfl (known_cons (fm := FM) (n := 1) (by kernel_rfl) (spec_l1In.sound N) rfl (known_nil))) hmix spec_FreeRecord.ok
theorem impl_IsFlash.ok : funcOk (mkE Go.Proofs.Try.prog TM FM []) 52 impl_IsFlash.x = true := by kernel_rfl
theorem impl_IsFlash.sound (N : Nat) : Sound Go.Proofs.Try.prog (natTbl TM) 52 impl_IsFlash.x.sig (impl_IsFlash.fs N) := sound_of N (known_nil) hmix impl_IsFlash.ok
theorem impl_FreeRecord.ok : funcOk (mkE Go.Proofs.Try.prog TM FM [(108, (impl_IsFlash.x.sig, true))]) 28 impl_FreeRecord.x = true := by kernel_rfl
theorem impl_FreeRecord.sound (N : Nat) : Sound Go.Proofs.Try.prog (natTbl TM) 28 impl_FreeRecord.x.sig (impl_FreeRecord.fs N) := sound_of N (known_cons (fm := FM) (n := 108) (by kernel_rfl) (impl_IsFlash.sound N) rfl (known_nil)) hmix impl_FreeRecord.ok
theorem laws_eqIntS.ok : funcOk (mkE Go.Proofs.Try.prog TM FM []) 42 laws_eqIntS.x = true := by kernel_rfl
theorem laws_eqIntS.sound (N : Nat) : Sound Go.Proofs.Try.prog (natTbl TM) 42 laws_eqIntS.x.sig (laws_eqIntS.fs N) := sound_of N (known_nil) hmix laws_eqIntS.ok
theorem laws_eqIntSS.ok : funcOk (mkE Go.Proofs.Try.prog TM FM [(239, (laws_eqIntS.x.sig, true))]) 53 laws_eqIntSS.x = true := by kernel_rfl
theorem laws_eqIntSS.sound (N : Nat) : Sound Go.Proofs.Try.prog (natTbl TM) 53 laws_eqIntSS.x.sig (laws_eqIntSS.fs N) := sound_of N (known_cons (fm := FM) (n := 239) (by kernel_rfl) (laws_eqIntS.sound N) rfl (known_nil)) hmix laws_eqIntSS.ok
theorem laws_eqFlash.ok : funcOk (mkE Go.Proofs.Try.prog TM FM [(239, (laws_eqIntS.x.sig, true)), (240, (laws_eqIntSS.x.sig, true))]) 26 laws_eqFlash.x = true := by kernel_rfl
theorem laws_eqFlash.sound (N : Nat) : Sound Go.Proofs.Try.prog (natTbl TM) 26 laws_eqFlash.x.sig (laws_eqFlash.fs N) := sound_of N (known_cons (fm := FM) (n := 239) (by kernel_rfl) (laws_eqIntS.sound N) rfl (known_cons (fm := FM) (n := 240) (by kernel_rfl) (laws_eqIntSS.sound N) rfl (known_nil))) hmix laws_eqFlash.ok
theorem laws_FnExactFreeRecord.ok : funcOk (mkE Go.Proofs.Try.prog TM FM [(110, (impl_FreeRecord.x.sig, true)), (241, (laws_eqFlash.x.sig, true)), (253, (laws_szFlash.x.sig, true)), (256, (laws_toFlash.x.sig, true)), (98, (spec_FreeRecord.x.sig, true))]) 6 laws_FnExactFreeRecord.x = true := by kernel_rfl
theorem laws_FnExactFreeRecord.sound (N : Nat) : Sound Go.Proofs.Try.prog (natTbl TM) 6 laws_FnExactFreeRecord.x.sig (laws_FnExactFreeRecord.fs N) := sound_of N (known_cons (fm := FM) (n := 110) (by kernel_rfl) (impl_FreeRecord.sound N) rfl (known_cons (fm := FM) (n := 241) (by kernel_rfl) (laws_eqFlash.sound N) rfl (known_cons (fm := FM) (n := 253) (by kernel_rfl) (laws_szFlash.sound N) rfl (known_cons (fm := FM) (n := 256) (by kernel_rfl) (laws_toFlash.sound N) rfl (known_cons (fm := FM) (n := 98) (by kernel_rfl) (spec_FreeRecord.sound N) rfl (known_nil)))))) hmix laws_FnExactFreeRecord.ok
end Go.Kb
