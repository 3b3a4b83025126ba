/- Each function of the law does what its abstract text does, over the program. -/
import Derived.Test.YtjhcdceoenocpaeKc
import Derived.Test.YtjhcdceoenocpaeF1
import Derived.Test.YtjhcdceoenocpaeF2
import Derived.Test.YtjhcdceoenocpaeF3
import Derived.Test.YtjhcdceoenocpaeF4
import Derived.Test.YtjhcdceoenocpaeF5
import Derived.Test.YtjhcdceoenocpaeRows
import Derived.KernelRfl
namespace Go.Kb
def TM : List (Nat × Nat) := [(2, 3), (1, 5), (16, 9), (6, 37), (12, 45), (4, 76), (7, 115), (3, 130), (5, 138)]
def FM : List (Nat × Nat) := [(122, 37), (123, 44), (124, 45), (125, 8), (126, 92), (127, 39), (128, 102), (129, 51), (130, 103), (131, 52), (132, 10), (1, 47), (35, 99), (36, 46), (37, 100), (38, 48), (39, 50), (40, 101), (41, 49), (42, 9), (60, 138), (61, 139), (62, 104), (63, 53), (64, 105), (65, 106), (66, 54), (67, 55), (68, 137), (69, 90), (70, 56), (71, 57), (72, 11), (133, 93), (134, 40), (135, 107), (136, 58), (137, 108), (138, 59), (139, 12), (379, 3)]
theorem hmix : Go.Proofs.Try.prog.follows .mixedOrders = true := by kernel_rfl
theorem laws_szComboS.ok : funcOk (mkE Go.Proofs.Try.prog TM FM []) 37 laws_szComboS.x = true := by kernel_rfl
theorem laws_szComboS.sound (N : Nat) : Sound Go.Proofs.Try.prog (natTbl TM) 37 laws_szComboS.x.sig (laws_szComboS.fs N) := sound_of N (known_nil) hmix laws_szComboS.ok
theorem laws_szEventS.ok : funcOk (mkE Go.Proofs.Try.prog TM FM []) 44 laws_szEventS.x = true := by kernel_rfl
theorem laws_szEventS.sound (N : Nat) : Sound Go.Proofs.Try.prog (natTbl TM) 44 laws_szEventS.x.sig (laws_szEventS.fs N) := sound_of N (known_nil) hmix laws_szEventS.ok
theorem laws_szActiveS.ok : funcOk (mkE Go.Proofs.Try.prog TM FM []) 45 laws_szActiveS.x = true := by kernel_rfl
theorem laws_szActiveS.sound (N : Nat) : Sound Go.Proofs.Try.prog (natTbl TM) 45 laws_szActiveS.x.sig (laws_szActiveS.fs N) := sound_of N (known_nil) hmix laws_szActiveS.ok
theorem laws_szCombiner.ok : funcOk (mkE Go.Proofs.Try.prog TM FM [(124, (laws_szActiveS.x.sig, true)), (122, (laws_szComboS.x.sig, true)), (123, (laws_szEventS.x.sig, true))]) 8 laws_szCombiner.x = true := by kernel_rfl
theorem laws_szCombiner.sound (N : Nat) : Sound Go.Proofs.Try.prog (natTbl TM) 8 laws_szCombiner.x.sig (laws_szCombiner.fs N) := sound_of N (known_cons (fm := FM) (n := 124) (by kernel_rfl) (laws_szActiveS.sound N) rfl (known_cons (fm := FM) (n := 122) (by kernel_rfl) (laws_szComboS.sound N) rfl (known_cons (fm := FM) (n := 123) (by kernel_rfl) (laws_szEventS.sound N) rfl (known_nil)))) hmix laws_szCombiner.ok
theorem laws_toCombo.ok : funcOk (mkE Go.Proofs.Try.prog TM FM []) 92 laws_toCombo.x = true := by kernel_rfl
theorem laws_toCombo.sound (N : Nat) : Sound Go.Proofs.Try.prog (natTbl TM) 92 laws_toCombo.x.sig (laws_toCombo.fs N) := sound_of N (known_nil) hmix laws_toCombo.ok
theorem laws_toComboS.ok : funcOk (mkE Go.Proofs.Try.prog TM FM [(126, (laws_toCombo.x.sig, true))]) 39 laws_toComboS.x = true := by kernel_rfl
theorem laws_toComboS.sound (N : Nat) : Sound Go.Proofs.Try.prog (natTbl TM) 39 laws_toComboS.x.sig (laws_toComboS.fs N) := sound_of N (known_cons (fm := FM) (n := 126) (by kernel_rfl) (laws_toCombo.sound N) rfl (known_nil)) hmix laws_toComboS.ok
theorem laws_toEvent.ok : funcOk (mkE Go.Proofs.Try.prog TM FM []) 102 laws_toEvent.x = true := by kernel_rfl
theorem laws_toEvent.sound (N : Nat) : Sound Go.Proofs.Try.prog (natTbl TM) 102 laws_toEvent.x.sig (laws_toEvent.fs N) := sound_of N (known_nil) hmix laws_toEvent.ok
theorem laws_toEventS.ok : funcOk (mkE Go.Proofs.Try.prog TM FM [(128, (laws_toEvent.x.sig, true))]) 51 laws_toEventS.x = true := by kernel_rfl
theorem laws_toEventS.sound (N : Nat) : Sound Go.Proofs.Try.prog (natTbl TM) 51 laws_toEventS.x.sig (laws_toEventS.fs N) := sound_of N (known_cons (fm := FM) (n := 128) (by kernel_rfl) (laws_toEvent.sound N) rfl (known_nil)) hmix laws_toEventS.ok
theorem laws_toActive.ok : funcOk (mkE Go.Proofs.Try.prog TM FM []) 103 laws_toActive.x = true := by kernel_rfl
theorem laws_toActive.sound (N : Nat) : Sound Go.Proofs.Try.prog (natTbl TM) 103 laws_toActive.x.sig (laws_toActive.fs N) := sound_of N (known_nil) hmix laws_toActive.ok
theorem laws_toActiveS.ok : funcOk (mkE Go.Proofs.Try.prog TM FM [(130, (laws_toActive.x.sig, true))]) 52 laws_toActiveS.x = true := by kernel_rfl
theorem laws_toActiveS.sound (N : Nat) : Sound Go.Proofs.Try.prog (natTbl TM) 52 laws_toActiveS.x.sig (laws_toActiveS.fs N) := sound_of N (known_cons (fm := FM) (n := 130) (by kernel_rfl) (laws_toActive.sound N) rfl (known_nil)) hmix laws_toActiveS.ok
theorem laws_toCombiner.ok : funcOk (mkE Go.Proofs.Try.prog TM FM [(131, (laws_toActiveS.x.sig, true)), (127, (laws_toComboS.x.sig, true)), (129, (laws_toEventS.x.sig, true))]) 10 laws_toCombiner.x = true := by kernel_rfl
theorem laws_toCombiner.sound (N : Nat) : Sound Go.Proofs.Try.prog (natTbl TM) 10 laws_toCombiner.x.sig (laws_toCombiner.fs N) := sound_of N (known_cons (fm := FM) (n := 131) (by kernel_rfl) (laws_toActiveS.sound N) rfl (known_cons (fm := FM) (n := 127) (by kernel_rfl) (laws_toComboS.sound N) rfl (known_cons (fm := FM) (n := 129) (by kernel_rfl) (laws_toEventS.sound N) rfl (known_nil)))) hmix laws_toCombiner.ok
theorem spec_l1In.ok : funcOk (mkE Go.Proofs.Try.prog TM FM []) 47 spec_l1In.x = true := by kernel_rfl
theorem spec_l1In.sound (N : Nat) : Sound Go.Proofs.Try.prog (natTbl TM) 47 spec_l1In.x.sig (spec_l1In.fs N) := sound_of N (known_nil) hmix spec_l1In.ok
theorem spec_l11Count.ok : funcOk (mkE Go.Proofs.Try.prog TM FM []) 99 spec_l11Count.x = true := by kernel_rfl
theorem spec_l11Count.sound (N : Nat) : Sound Go.Proofs.Try.prog (natTbl TM) 99 spec_l11Count.x.sig (spec_l11Count.fs N) := sound_of N (known_nil) hmix spec_l11Count.ok
theorem spec_IsCombos.ok : funcOk (mkE Go.Proofs.Try.prog TM FM [(35, (spec_l11Count.x.sig, true)), (1, (spec_l1In.x.sig, true))]) 46 spec_IsCombos.x = true := by kernel_rfl
theorem spec_IsCombos.sound (N : Nat) : Sound Go.Proofs.Try.prog (natTbl TM) 46 spec_IsCombos.x.sig (spec_IsCombos.fs N) := sound_of N (known_cons (fm := FM) (n := 35) (by kernel_rfl) (spec_l11Count.sound N) rfl (known_cons (fm := FM) (n := 1) (by kernel_rfl) (spec_l1In.sound N) rfl (known_nil))) hmix spec_IsCombos.ok
theorem spec_l11Keys.ok : funcOk (mkE Go.Proofs.Try.prog TM FM []) 100 spec_l11Keys.x = true := by kernel_rfl
theorem spec_l11Keys.sound (N : Nat) : Sound Go.Proofs.Try.prog (natTbl TM) 100 spec_l11Keys.x.sig (spec_l11Keys.fs N) := sound_of N (known_nil) hmix spec_l11Keys.ok
theorem spec_l11Active.ok : funcOk (mkE Go.Proofs.Try.prog TM FM [(37, (spec_l11Keys.x.sig, true)), (1, (spec_l1In.x.sig, true))]) 48 spec_l11Active.x = true := by kernel_rfl
theorem spec_l11Active.sound (N : Nat) : Sound Go.Proofs.Try.prog (natTbl TM) 48 spec_l11Active.x.sig (spec_l11Active.fs N) := sound_of N (known_cons (fm := FM) (n := 37) (by kernel_rfl) (spec_l11Keys.sound N) rfl (known_cons (fm := FM) (n := 1) (by kernel_rfl) (spec_l1In.sound N) rfl (known_nil))) hmix spec_l11Active.ok
theorem spec_l11Held.ok : funcOk (mkE Go.Proofs.Try.prog TM FM []) 50 spec_l11Held.x = true := by kernel_rfl
theorem spec_l11Held.sound (N : Nat) : Sound Go.Proofs.Try.prog (natTbl TM) 50 spec_l11Held.x.sig (spec_l11Held.fs N) := sound_of N (known_nil) hmix spec_l11Held.ok
theorem spec_IsEvent.ok : funcOk (mkE Go.Proofs.Try.prog TM FM [(1, (spec_l1In.x.sig, true))]) 101 spec_IsEvent.x = true := by kernel_rfl
theorem spec_IsEvent.sound (N : Nat) : Sound Go.Proofs.Try.prog (natTbl TM) 101 spec_IsEvent.x.sig (spec_IsEvent.fs N) := sound_of N (known_cons (fm := FM) (n := 1) (by kernel_rfl) (spec_l1In.sound N) rfl (known_nil)) hmix spec_IsEvent.ok
theorem spec_l10Follows.ok : funcOk (mkE Go.Proofs.Try.prog TM FM [(40, (spec_IsEvent.x.sig, true))]) 49 spec_l10Follows.x = true := by kernel_rfl
theorem spec_l10Follows.sound (N : Nat) : Sound Go.Proofs.Try.prog (natTbl TM) 49 spec_l10Follows.x.sig (spec_l10Follows.fs N) := sound_of N (known_cons (fm := FM) (n := 40) (by kernel_rfl) (spec_IsEvent.sound N) rfl (known_nil)) hmix spec_l10Follows.ok
theorem spec_IsCombiner.ok : funcOk (mkE Go.Proofs.Try.prog TM FM [(36, (spec_IsCombos.x.sig, true)), (41, (spec_l10Follows.x.sig, true)), (38, (spec_l11Active.x.sig, true)), (39, (spec_l11Held.x.sig, true)), (1, (spec_l1In.x.sig, true))]) 9 spec_IsCombiner.x = true := by kernel_rfl
theorem spec_IsCombiner.sound (N : Nat) : Sound Go.Proofs.Try.prog (natTbl TM) 9 spec_IsCombiner.x.sig (spec_IsCombiner.fs N) := sound_of N (known_cons (fm := FM) (n := 36) (by kernel_rfl) (spec_IsCombos.sound N) rfl (known_cons (fm := FM) (n := 41) (by kernel_rfl) (spec_l10Follows.sound N) rfl (known_cons (fm := FM) (n := 38) (by kernel_rfl) (spec_l11Active.sound N) rfl (known_cons (fm := FM) (n := 39) (by kernel_rfl) (spec_l11Held.sound N) rfl (known_cons (fm := FM) (n := 1) (by kernel_rfl) (spec_l1In.sound N) rfl (known_nil)))))) hmix spec_IsCombiner.ok
theorem math_bits_OnesCount32.ok : funcOk (mkE Go.Proofs.Try.prog TM FM []) 138 math_bits_OnesCount32.x = true := by kernel_rfl
theorem math_bits_OnesCount32.sound (N : Nat) : Sound Go.Proofs.Try.prog (natTbl TM) 138 math_bits_OnesCount32.x.sig (math_bits_OnesCount32.fs N) := sound_of N (known_nil) hmix math_bits_OnesCount32.ok
theorem math_bits_OnesCount64.ok : funcOk (mkE Go.Proofs.Try.prog TM FM []) 139 math_bits_OnesCount64.x = true := by kernel_rfl
theorem math_bits_OnesCount64.sound (N : Nat) : Sound Go.Proofs.Try.prog (natTbl TM) 139 math_bits_OnesCount64.x.sig (math_bits_OnesCount64.fs N) := sound_of N (known_nil) hmix math_bits_OnesCount64.ok
theorem math_bits_OnesCount.ok : funcOk (mkE Go.Proofs.Try.prog TM FM [(61, (math_bits_OnesCount64.x.sig, true))]) 104 math_bits_OnesCount.x = true := by kernel_rfl
theorem math_bits_OnesCount.sound (N : Nat) : Sound Go.Proofs.Try.prog (natTbl TM) 104 math_bits_OnesCount.x.sig (math_bits_OnesCount.fs N) := sound_of N (known_cons (fm := FM) (n := 61) (by kernel_rfl) (math_bits_OnesCount64.sound N) rfl (known_nil)) hmix math_bits_OnesCount.ok
theorem impl_IsCombos.ok : funcOk (mkE Go.Proofs.Try.prog TM FM [(62, (math_bits_OnesCount.x.sig, true))]) 53 impl_IsCombos.x = true := by kernel_rfl
theorem impl_IsCombos.sound (N : Nat) : Sound Go.Proofs.Try.prog (natTbl TM) 53 impl_IsCombos.x.sig (impl_IsCombos.fs N) := sound_of N (known_cons (fm := FM) (n := 62) (by kernel_rfl) (math_bits_OnesCount.sound N) rfl (known_nil)) hmix impl_IsCombos.ok
theorem impl_comboOf.ok : funcOk (mkE Go.Proofs.Try.prog TM FM []) 105 impl_comboOf.x = true := by kernel_rfl
theorem impl_comboOf.sound (N : Nat) : Sound Go.Proofs.Try.prog (natTbl TM) 105 impl_comboOf.x.sig (impl_comboOf.fs N) := sound_of N (known_nil) hmix impl_comboOf.ok
theorem impl_bit.ok : funcOk (mkE Go.Proofs.Try.prog TM FM []) 106 impl_bit.x = true := by kernel_rfl
theorem impl_bit.sound (N : Nat) : Sound Go.Proofs.Try.prog (natTbl TM) 106 impl_bit.x.sig (impl_bit.fs N) := sound_of N (known_nil) hmix impl_bit.ok
theorem impl_activeFits.ok : funcOk (mkE Go.Proofs.Try.prog TM FM [(65, (impl_bit.x.sig, true)), (64, (impl_comboOf.x.sig, true))]) 54 impl_activeFits.x = true := by kernel_rfl
theorem impl_activeFits.sound (N : Nat) : Sound Go.Proofs.Try.prog (natTbl TM) 54 impl_activeFits.x.sig (impl_activeFits.fs N) := sound_of N (known_cons (fm := FM) (n := 65) (by kernel_rfl) (impl_bit.sound N) rfl (known_cons (fm := FM) (n := 64) (by kernel_rfl) (impl_comboOf.sound N) rfl (known_nil))) hmix impl_activeFits.ok
theorem impl_switchesDown.ok : funcOk (mkE Go.Proofs.Try.prog TM FM []) 55 impl_switchesDown.x = true := by kernel_rfl
theorem impl_switchesDown.sound (N : Nat) : Sound Go.Proofs.Try.prog (natTbl TM) 55 impl_switchesDown.x.sig (impl_switchesDown.fs N) := sound_of N (known_nil) hmix impl_switchesDown.ok
theorem impl_IsEvent.ok : funcOk (mkE Go.Proofs.Try.prog TM FM []) 137 impl_IsEvent.x = true := by kernel_rfl
theorem impl_IsEvent.sound (N : Nat) : Sound Go.Proofs.Try.prog (natTbl TM) 137 impl_IsEvent.x.sig (impl_IsEvent.fs N) := sound_of N (known_nil) hmix impl_IsEvent.ok
theorem impl_follow.ok : funcOk (mkE Go.Proofs.Try.prog TM FM [(68, (impl_IsEvent.x.sig, true)), (65, (impl_bit.x.sig, true))]) 90 impl_follow.x = true := by kernel_rfl
theorem impl_follow.sound (N : Nat) : Sound Go.Proofs.Try.prog (natTbl TM) 90 impl_follow.x.sig (impl_follow.fs N) := sound_of N (known_cons (fm := FM) (n := 68) (by kernel_rfl) (impl_IsEvent.sound N) rfl (known_cons (fm := FM) (n := 65) (by kernel_rfl) (impl_bit.sound N) rfl (known_nil))) hmix impl_follow.ok
theorem impl_queueFits.ok : funcOk (mkE Go.Proofs.Try.prog TM FM [(69, (impl_follow.x.sig, true))]) 56 impl_queueFits.x = true := by kernel_rfl
theorem impl_queueFits.sound (N : Nat) : Sound Go.Proofs.Try.prog (natTbl TM) 56 impl_queueFits.x.sig (impl_queueFits.fs N) := sound_of N (known_cons (fm := FM) (n := 69) (by kernel_rfl) (impl_follow.sound N) rfl (known_nil)) hmix impl_queueFits.ok
theorem impl_notBehind.ok : funcOk (mkE Go.Proofs.Try.prog TM FM []) 57 impl_notBehind.x = true := by kernel_rfl
theorem impl_notBehind.sound (N : Nat) : Sound Go.Proofs.Try.prog (natTbl TM) 57 impl_notBehind.x.sig (impl_notBehind.fs N) := sound_of N (known_nil) hmix impl_notBehind.ok
theorem impl_IsCombiner.ok : funcOk (mkE Go.Proofs.Try.prog TM FM [(63, (impl_IsCombos.x.sig, true)), (66, (impl_activeFits.x.sig, true)), (71, (impl_notBehind.x.sig, true)), (70, (impl_queueFits.x.sig, true)), (67, (impl_switchesDown.x.sig, true))]) 11 impl_IsCombiner.x = true := by kernel_rfl
theorem impl_IsCombiner.sound (N : Nat) : Sound Go.Proofs.Try.prog (natTbl TM) 11 impl_IsCombiner.x.sig (impl_IsCombiner.fs N) := sound_of N (known_cons (fm := FM) (n := 63) (by kernel_rfl) (impl_IsCombos.sound N) rfl (known_cons (fm := FM) (n := 66) (by kernel_rfl) (impl_activeFits.sound N) rfl (known_cons (fm := FM) (n := 71) (by kernel_rfl) (impl_notBehind.sound N) rfl (known_cons (fm := FM) (n := 70) (by kernel_rfl) (impl_queueFits.sound N) rfl (known_cons (fm := FM) (n := 67) (by kernel_rfl) (impl_switchesDown.sound N) rfl (known_nil)))))) hmix impl_IsCombiner.ok
theorem laws_eqCombo.ok : funcOk (mkE Go.Proofs.Try.prog TM FM []) 93 laws_eqCombo.x = true := by kernel_rfl
theorem laws_eqCombo.sound (N : Nat) : Sound Go.Proofs.Try.prog (natTbl TM) 93 laws_eqCombo.x.sig (laws_eqCombo.fs N) := sound_of N (known_nil) hmix laws_eqCombo.ok
theorem laws_eqComboS.ok : funcOk (mkE Go.Proofs.Try.prog TM FM [(133, (laws_eqCombo.x.sig, true))]) 40 laws_eqComboS.x = true := by kernel_rfl
theorem laws_eqComboS.sound (N : Nat) : Sound Go.Proofs.Try.prog (natTbl TM) 40 laws_eqComboS.x.sig (laws_eqComboS.fs N) := sound_of N (known_cons (fm := FM) (n := 133) (by kernel_rfl) (laws_eqCombo.sound N) rfl (known_nil)) hmix laws_eqComboS.ok
theorem laws_eqEvent.ok : funcOk (mkE Go.Proofs.Try.prog TM FM []) 107 laws_eqEvent.x = true := by kernel_rfl
theorem laws_eqEvent.sound (N : Nat) : Sound Go.Proofs.Try.prog (natTbl TM) 107 laws_eqEvent.x.sig (laws_eqEvent.fs N) := sound_of N (known_nil) hmix laws_eqEvent.ok
theorem laws_eqEventS.ok : funcOk (mkE Go.Proofs.Try.prog TM FM [(135, (laws_eqEvent.x.sig, true))]) 58 laws_eqEventS.x = true := by kernel_rfl
theorem laws_eqEventS.sound (N : Nat) : Sound Go.Proofs.Try.prog (natTbl TM) 58 laws_eqEventS.x.sig (laws_eqEventS.fs N) := sound_of N (known_cons (fm := FM) (n := 135) (by kernel_rfl) (laws_eqEvent.sound N) rfl (known_nil)) hmix laws_eqEventS.ok
theorem laws_eqActive.ok : funcOk (mkE Go.Proofs.Try.prog TM FM []) 108 laws_eqActive.x = true := by kernel_rfl
theorem laws_eqActive.sound (N : Nat) : Sound Go.Proofs.Try.prog (natTbl TM) 108 laws_eqActive.x.sig (laws_eqActive.fs N) := sound_of N (known_nil) hmix laws_eqActive.ok
theorem laws_eqActiveS.ok : funcOk (mkE Go.Proofs.Try.prog TM FM [(137, (laws_eqActive.x.sig, true))]) 59 laws_eqActiveS.x = true := by kernel_rfl
theorem laws_eqActiveS.sound (N : Nat) : Sound Go.Proofs.Try.prog (natTbl TM) 59 laws_eqActiveS.x.sig (laws_eqActiveS.fs N) := sound_of N (known_cons (fm := FM) (n := 137) (by kernel_rfl) (laws_eqActive.sound N) rfl (known_nil)) hmix laws_eqActiveS.ok
theorem laws_eqCombiner.ok : funcOk (mkE Go.Proofs.Try.prog TM FM [(138, (laws_eqActiveS.x.sig, true)), (134, (laws_eqComboS.x.sig, true)), (136, (laws_eqEventS.x.sig, true))]) 12 laws_eqCombiner.x = true := by kernel_rfl
theorem laws_eqCombiner.sound (N : Nat) : Sound Go.Proofs.Try.prog (natTbl TM) 12 laws_eqCombiner.x.sig (laws_eqCombiner.fs N) := sound_of N (known_cons (fm := FM) (n := 138) (by kernel_rfl) (laws_eqActiveS.sound N) rfl (known_cons (fm := FM) (n := 134) (by kernel_rfl) (laws_eqComboS.sound N) rfl (known_cons (fm := FM) (n := 136) (by kernel_rfl) (laws_eqEventS.sound N) rfl (known_nil)))) hmix laws_eqCombiner.ok
theorem laws_FnExactIsCombiner.ok : funcOk (mkE Go.Proofs.Try.prog TM FM [(72, (impl_IsCombiner.x.sig, true)), (139, (laws_eqCombiner.x.sig, true)), (125, (laws_szCombiner.x.sig, true)), (132, (laws_toCombiner.x.sig, true)), (42, (spec_IsCombiner.x.sig, true))]) 3 laws_FnExactIsCombiner.x = true := by kernel_rfl
theorem laws_FnExactIsCombiner.sound (N : Nat) : Sound Go.Proofs.Try.prog (natTbl TM) 3 laws_FnExactIsCombiner.x.sig (laws_FnExactIsCombiner.fs N) := sound_of N (known_cons (fm := FM) (n := 72) (by kernel_rfl) (impl_IsCombiner.sound N) rfl (known_cons (fm := FM) (n := 139) (by kernel_rfl) (laws_eqCombiner.sound N) rfl (known_cons (fm := FM) (n := 125) (by kernel_rfl) (laws_szCombiner.sound N) rfl (known_cons (fm := FM) (n := 132) (by kernel_rfl) (laws_toCombiner.sound N) rfl (known_cons (fm := FM) (n := 42) (by kernel_rfl) (spec_IsCombiner.sound N) rfl (known_nil)))))) hmix laws_FnExactIsCombiner.ok
end Go.Kb
