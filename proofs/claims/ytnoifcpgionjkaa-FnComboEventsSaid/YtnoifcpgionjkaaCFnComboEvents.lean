/- Each function of the law does what its abstract text does, over the program. -/
import Derived.Test.YtnoifcpgionjkaaKc
import Derived.Test.YtnoifcpgionjkaaComboEventsF1
import Derived.Test.YtnoifcpgionjkaaComboEventsF2
import Derived.Test.YtnoifcpgionjkaaComboEventsF3
import Derived.Test.YtnoifcpgionjkaaComboEventsF4
import Derived.Test.YtnoifcpgionjkaaComboEventsF5
import Derived.Test.YtnoifcpgionjkaaComboEventsF6
import Derived.Test.YtnoifcpgionjkaaComboEventsF7
import Derived.Test.YtnoifcpgionjkaaRows
import Derived.KernelRfl
namespace Go.Kb
def TM : List (Nat × Nat) := [(2, 3), (1, 5), (16, 9), (4, 34), (5, 83), (6, 105), (3, 108)]
def FM : List (Nat × Nat) := [(31, 9), (236, 74), (237, 37), (32, 82), (33, 50), (34, 76), (1, 59), (35, 96), (36, 84), (37, 88), (38, 85), (39, 61), (40, 86), (41, 60), (42, 58), (43, 62), (44, 75), (45, 38), (46, 77), (47, 39), (230, 10), (68, 18), (65, 80), (69, 45), (231, 16), (232, 14), (233, 46), (234, 15), (60, 94), (61, 95), (62, 83), (63, 51), (64, 79), (66, 55), (67, 42), (70, 43), (71, 40), (72, 20), (73, 41), (74, 78), (75, 52), (76, 53), (77, 54), (78, 19), (79, 44), (80, 12), (235, 4)]
theorem hmix : Go.Proofs.Try.prog.follows .mixedOrders = true := by kernel_rfl
theorem laws_big.ok : funcOk (mkE Go.Proofs.Try.prog TM FM []) 9 laws_big.x = true := by kernel_rfl
theorem laws_big.sound (N : Nat) : Sound Go.Proofs.Try.prog (natTbl TM) 9 laws_big.x.sig (laws_big.fs N) := sound_of N (known_nil) hmix laws_big.ok
theorem spec_l1New.ok : funcOk (mkE Go.Proofs.Try.prog TM FM []) 74 spec_l1New.x = true := by kernel_rfl
theorem spec_l1New.sound (N : Nat) : Sound Go.Proofs.Try.prog (natTbl TM) 74 spec_l1New.x.sig (spec_l1New.fs N) := sound_of N (known_nil) hmix spec_l1New.ok
theorem spec_l24New.ok : funcOk (mkE Go.Proofs.Try.prog TM FM [(236, (spec_l1New.x.sig, false))]) 37 spec_l24New.x = true := by kernel_rfl
theorem spec_l24New.sound (N : Nat) : Sound Go.Proofs.Try.prog (natTbl TM) 37 spec_l24New.x.sig (spec_l24New.fs N) := sound_of N (known_cons (fm := FM) (n := 236) (by kernel_rfl) (spec_l1New.sound N) rfl (known_nil)) hmix spec_l24New.ok
theorem spec_l1Byte.ok : funcOk (mkE Go.Proofs.Try.prog TM FM []) 82 spec_l1Byte.x = true := by kernel_rfl
theorem spec_l1Byte.sound (N : Nat) : Sound Go.Proofs.Try.prog (natTbl TM) 82 spec_l1Byte.x.sig (spec_l1Byte.fs N) := sound_of N (known_nil) hmix spec_l1Byte.ok
theorem spec_l1Below.ok : funcOk (mkE Go.Proofs.Try.prog TM FM [(32, (spec_l1Byte.x.sig, false))]) 50 spec_l1Below.x = true := by kernel_rfl
theorem spec_l1Below.sound (N : Nat) : Sound Go.Proofs.Try.prog (natTbl TM) 50 spec_l1Below.x.sig (spec_l1Below.fs N) := sound_of N (known_cons (fm := FM) (n := 32) (by kernel_rfl) (spec_l1Byte.sound N) rfl (known_nil)) hmix spec_l1Below.ok
theorem spec_l11Combos.ok : funcOk (mkE Go.Proofs.Try.prog TM FM [(33, (spec_l1Below.x.sig, false))]) 76 spec_l11Combos.x = true := by kernel_rfl
theorem spec_l11Combos.sound (N : Nat) : Sound Go.Proofs.Try.prog (natTbl TM) 76 spec_l11Combos.x.sig (spec_l11Combos.fs N) := sound_of N (known_cons (fm := FM) (n := 33) (by kernel_rfl) (spec_l1Below.sound N) rfl (known_nil)) hmix spec_l11Combos.ok
theorem spec_l1In.ok : funcOk (mkE Go.Proofs.Try.prog TM FM []) 59 spec_l1In.x = true := by kernel_rfl
theorem spec_l1In.sound (N : Nat) : Sound Go.Proofs.Try.prog (natTbl TM) 59 spec_l1In.x.sig (spec_l1In.fs N) := sound_of N (known_nil) hmix spec_l1In.ok
theorem spec_l11Count.ok : funcOk (mkE Go.Proofs.Try.prog TM FM []) 96 spec_l11Count.x = true := by kernel_rfl
theorem spec_l11Count.sound (N : Nat) : Sound Go.Proofs.Try.prog (natTbl TM) 96 spec_l11Count.x.sig (spec_l11Count.fs N) := sound_of N (known_nil) hmix spec_l11Count.ok
theorem spec_IsCombos.ok : funcOk (mkE Go.Proofs.Try.prog TM FM [(35, (spec_l11Count.x.sig, true)), (1, (spec_l1In.x.sig, true))]) 84 spec_IsCombos.x = true := by kernel_rfl
theorem spec_IsCombos.sound (N : Nat) : Sound Go.Proofs.Try.prog (natTbl TM) 84 spec_IsCombos.x.sig (spec_IsCombos.fs N) := sound_of N (known_cons (fm := FM) (n := 35) (by kernel_rfl) (spec_l11Count.sound N) rfl (known_cons (fm := FM) (n := 1) (by kernel_rfl) (spec_l1In.sound N) rfl (known_nil))) hmix spec_IsCombos.ok
theorem spec_l11Keys.ok : funcOk (mkE Go.Proofs.Try.prog TM FM []) 88 spec_l11Keys.x = true := by kernel_rfl
theorem spec_l11Keys.sound (N : Nat) : Sound Go.Proofs.Try.prog (natTbl TM) 88 spec_l11Keys.x.sig (spec_l11Keys.fs N) := sound_of N (known_nil) hmix spec_l11Keys.ok
theorem spec_l11Active.ok : funcOk (mkE Go.Proofs.Try.prog TM FM [(37, (spec_l11Keys.x.sig, true)), (1, (spec_l1In.x.sig, true))]) 85 spec_l11Active.x = true := by kernel_rfl
theorem spec_l11Active.sound (N : Nat) : Sound Go.Proofs.Try.prog (natTbl TM) 85 spec_l11Active.x.sig (spec_l11Active.fs N) := sound_of N (known_cons (fm := FM) (n := 37) (by kernel_rfl) (spec_l11Keys.sound N) rfl (known_cons (fm := FM) (n := 1) (by kernel_rfl) (spec_l1In.sound N) rfl (known_nil))) hmix spec_l11Active.ok
theorem spec_l11Held.ok : funcOk (mkE Go.Proofs.Try.prog TM FM []) 61 spec_l11Held.x = true := by kernel_rfl
theorem spec_l11Held.sound (N : Nat) : Sound Go.Proofs.Try.prog (natTbl TM) 61 spec_l11Held.x.sig (spec_l11Held.fs N) := sound_of N (known_nil) hmix spec_l11Held.ok
theorem spec_IsEvent.ok : funcOk (mkE Go.Proofs.Try.prog TM FM [(1, (spec_l1In.x.sig, true))]) 86 spec_IsEvent.x = true := by kernel_rfl
theorem spec_IsEvent.sound (N : Nat) : Sound Go.Proofs.Try.prog (natTbl TM) 86 spec_IsEvent.x.sig (spec_IsEvent.fs N) := sound_of N (known_cons (fm := FM) (n := 1) (by kernel_rfl) (spec_l1In.sound N) rfl (known_nil)) hmix spec_IsEvent.ok
theorem spec_l10Follows.ok : funcOk (mkE Go.Proofs.Try.prog TM FM [(40, (spec_IsEvent.x.sig, true))]) 60 spec_l10Follows.x = true := by kernel_rfl
theorem spec_l10Follows.sound (N : Nat) : Sound Go.Proofs.Try.prog (natTbl TM) 60 spec_l10Follows.x.sig (spec_l10Follows.fs N) := sound_of N (known_cons (fm := FM) (n := 40) (by kernel_rfl) (spec_IsEvent.sound N) rfl (known_nil)) hmix spec_l10Follows.ok
theorem spec_IsCombiner.ok : funcOk (mkE Go.Proofs.Try.prog TM FM [(36, (spec_IsCombos.x.sig, true)), (41, (spec_l10Follows.x.sig, true)), (38, (spec_l11Active.x.sig, true)), (39, (spec_l11Held.x.sig, true)), (1, (spec_l1In.x.sig, true))]) 58 spec_IsCombiner.x = true := by kernel_rfl
theorem spec_IsCombiner.sound (N : Nat) : Sound Go.Proofs.Try.prog (natTbl TM) 58 spec_IsCombiner.x.sig (spec_IsCombiner.fs N) := sound_of N (known_cons (fm := FM) (n := 36) (by kernel_rfl) (spec_IsCombos.sound N) rfl (known_cons (fm := FM) (n := 41) (by kernel_rfl) (spec_l10Follows.sound N) rfl (known_cons (fm := FM) (n := 38) (by kernel_rfl) (spec_l11Active.sound N) rfl (known_cons (fm := FM) (n := 39) (by kernel_rfl) (spec_l11Held.sound N) rfl (known_cons (fm := FM) (n := 1) (by kernel_rfl) (spec_l1In.sound N) rfl (known_nil)))))) hmix spec_IsCombiner.ok
theorem spec_l11Copy.ok : funcOk (mkE Go.Proofs.Try.prog TM FM []) 62 spec_l11Copy.x = true := by kernel_rfl
theorem spec_l11Copy.sound (N : Nat) : Sound Go.Proofs.Try.prog (natTbl TM) 62 spec_l11Copy.x.sig (spec_l11Copy.fs N) := sound_of N (known_nil) hmix spec_l11Copy.ok
theorem spec_NewCombiner.ok : funcOk (mkE Go.Proofs.Try.prog TM FM [(42, (spec_IsCombiner.x.sig, true)), (43, (spec_l11Copy.x.sig, true))]) 75 spec_NewCombiner.x = true := by kernel_rfl
theorem spec_NewCombiner.sound (N : Nat) : Sound Go.Proofs.Try.prog (natTbl TM) 75 spec_NewCombiner.x.sig (spec_NewCombiner.fs N) := sound_of N (known_cons (fm := FM) (n := 42) (by kernel_rfl) (spec_IsCombiner.sound N) rfl (known_cons (fm := FM) (n := 43) (by kernel_rfl) (spec_l11Copy.sound N) rfl (known_nil))) hmix spec_NewCombiner.ok
theorem spec_l11New.ok : funcOk (mkE Go.Proofs.Try.prog TM FM [(44, (spec_NewCombiner.x.sig, true)), (34, (spec_l11Combos.x.sig, false)), (33, (spec_l1Below.x.sig, false))]) 38 spec_l11New.x = true := by kernel_rfl
theorem spec_l11New.sound (N : Nat) : Sound Go.Proofs.Try.prog (natTbl TM) 38 spec_l11New.x.sig (spec_l11New.fs N) := sound_of N (known_cons (fm := FM) (n := 44) (by kernel_rfl) (spec_NewCombiner.sound N) rfl (known_cons (fm := FM) (n := 34) (by kernel_rfl) (spec_l11Combos.sound N) rfl (known_cons (fm := FM) (n := 33) (by kernel_rfl) (spec_l1Below.sound N) rfl (known_nil)))) hmix spec_l11New.ok
theorem spec_l1PickInt.ok : funcOk (mkE Go.Proofs.Try.prog TM FM [(33, (spec_l1Below.x.sig, false))]) 77 spec_l1PickInt.x = true := by kernel_rfl
theorem spec_l1PickInt.sound (N : Nat) : Sound Go.Proofs.Try.prog (natTbl TM) 77 spec_l1PickInt.x.sig (spec_l1PickInt.fs N) := sound_of N (known_cons (fm := FM) (n := 33) (by kernel_rfl) (spec_l1Below.sound N) rfl (known_nil)) hmix spec_l1PickInt.ok
theorem spec_l11Events.ok : funcOk (mkE Go.Proofs.Try.prog TM FM [(33, (spec_l1Below.x.sig, false)), (46, (spec_l1PickInt.x.sig, false))]) 39 spec_l11Events.x = true := by kernel_rfl
theorem spec_l11Events.sound (N : Nat) : Sound Go.Proofs.Try.prog (natTbl TM) 39 spec_l11Events.x.sig (spec_l11Events.fs N) := sound_of N (known_cons (fm := FM) (n := 33) (by kernel_rfl) (spec_l1Below.sound N) rfl (known_cons (fm := FM) (n := 46) (by kernel_rfl) (spec_l1PickInt.sound N) rfl (known_nil))) hmix spec_l11Events.ok
theorem spec_MakeFresh.ok : funcOk (mkE Go.Proofs.Try.prog TM FM [(47, (spec_l11Events.x.sig, false)), (45, (spec_l11New.x.sig, false)), (237, (spec_l24New.x.sig, false))]) 10 spec_MakeFresh.x = true := by kernel_rfl
theorem spec_MakeFresh.sound (N : Nat) : Sound Go.Proofs.Try.prog (natTbl TM) 10 spec_MakeFresh.x.sig (spec_MakeFresh.fs N) := sound_of N (known_cons (fm := FM) (n := 47) (by kernel_rfl) (spec_l11Events.sound N) rfl (known_cons (fm := FM) (n := 45) (by kernel_rfl) (spec_l11New.sound N) rfl (known_cons (fm := FM) (n := 237) (by kernel_rfl) (spec_l24New.sound N) rfl (known_nil)))) hmix spec_MakeFresh.ok
theorem impl_IsEvent.ok : funcOk (mkE Go.Proofs.Try.prog TM FM []) 18 impl_IsEvent.x = true := by kernel_rfl
theorem impl_IsEvent.sound (N : Nat) : Sound Go.Proofs.Try.prog (natTbl TM) 18 impl_IsEvent.x.sig (impl_IsEvent.fs N) := sound_of N (known_nil) hmix impl_IsEvent.ok
theorem impl_bit.ok : funcOk (mkE Go.Proofs.Try.prog TM FM []) 80 impl_bit.x = true := by kernel_rfl
theorem impl_bit.sound (N : Nat) : Sound Go.Proofs.Try.prog (natTbl TM) 80 impl_bit.x.sig (impl_bit.fs N) := sound_of N (known_nil) hmix impl_bit.ok
theorem impl_follow.ok : funcOk (mkE Go.Proofs.Try.prog TM FM [(68, (impl_IsEvent.x.sig, true)), (65, (impl_bit.x.sig, true))]) 45 impl_follow.x = true := by kernel_rfl
theorem impl_follow.sound (N : Nat) : Sound Go.Proofs.Try.prog (natTbl TM) 45 impl_follow.x.sig (impl_follow.fs N) := sound_of N (known_cons (fm := FM) (n := 68) (by kernel_rfl) (impl_IsEvent.sound N) rfl (known_cons (fm := FM) (n := 65) (by kernel_rfl) (impl_bit.sound N) rfl (known_nil))) hmix impl_follow.ok
theorem impl_IsEvents.ok : funcOk (mkE Go.Proofs.Try.prog TM FM [(69, (impl_follow.x.sig, true))]) 16 impl_IsEvents.x = true := by kernel_rfl
theorem impl_IsEvents.sound (N : Nat) : Sound Go.Proofs.Try.prog (natTbl TM) 16 impl_IsEvents.x.sig (impl_IsEvents.fs N) := sound_of N (known_cons (fm := FM) (n := 69) (by kernel_rfl) (impl_follow.sound N) rfl (known_nil)) hmix impl_IsEvents.ok
theorem impl_HeldAfter.ok : funcOk (mkE Go.Proofs.Try.prog TM FM [(69, (impl_follow.x.sig, true))]) 14 impl_HeldAfter.x = true := by kernel_rfl
theorem impl_HeldAfter.sound (N : Nat) : Sound Go.Proofs.Try.prog (natTbl TM) 14 impl_HeldAfter.x.sig (impl_HeldAfter.fs N) := sound_of N (known_cons (fm := FM) (n := 69) (by kernel_rfl) (impl_follow.sound N) rfl (known_nil)) hmix impl_HeldAfter.ok
theorem impl_eventsBetween.ok : funcOk (mkE Go.Proofs.Try.prog TM FM [(65, (impl_bit.x.sig, true))]) 46 impl_eventsBetween.x = true := by kernel_rfl
theorem impl_eventsBetween.sound (N : Nat) : Sound Go.Proofs.Try.prog (natTbl TM) 46 impl_eventsBetween.x.sig (impl_eventsBetween.fs N) := sound_of N (known_cons (fm := FM) (n := 65) (by kernel_rfl) (impl_bit.sound N) rfl (known_nil)) hmix impl_eventsBetween.ok
theorem impl_ReleaseAll.ok : funcOk (mkE Go.Proofs.Try.prog TM FM [(232, (impl_HeldAfter.x.sig, true)), (231, (impl_IsEvents.x.sig, true)), (233, (impl_eventsBetween.x.sig, true))]) 15 impl_ReleaseAll.x = true := by kernel_rfl
theorem impl_ReleaseAll.sound (N : Nat) : Sound Go.Proofs.Try.prog (natTbl TM) 15 impl_ReleaseAll.x.sig (impl_ReleaseAll.fs N) := sound_of N (known_cons (fm := FM) (n := 232) (by kernel_rfl) (impl_HeldAfter.sound N) rfl (known_cons (fm := FM) (n := 231) (by kernel_rfl) (impl_IsEvents.sound N) rfl (known_cons (fm := FM) (n := 233) (by kernel_rfl) (impl_eventsBetween.sound N) rfl (known_nil)))) hmix impl_ReleaseAll.ok
theorem math_bits_OnesCount32.ok : funcOk (mkE Go.Proofs.Try.prog TM FM []) 94 math_bits_OnesCount32.x = true := by kernel_rfl
theorem math_bits_OnesCount32.sound (N : Nat) : Sound Go.Proofs.Try.prog (natTbl TM) 94 math_bits_OnesCount32.x.sig (math_bits_OnesCount32.fs N) := sound_of N (known_nil) hmix math_bits_OnesCount32.ok
theorem math_bits_OnesCount64.ok : funcOk (mkE Go.Proofs.Try.prog TM FM []) 95 math_bits_OnesCount64.x = true := by kernel_rfl
theorem math_bits_OnesCount64.sound (N : Nat) : Sound Go.Proofs.Try.prog (natTbl TM) 95 math_bits_OnesCount64.x.sig (math_bits_OnesCount64.fs N) := sound_of N (known_nil) hmix math_bits_OnesCount64.ok
theorem math_bits_OnesCount.ok : funcOk (mkE Go.Proofs.Try.prog TM FM [(61, (math_bits_OnesCount64.x.sig, true))]) 83 math_bits_OnesCount.x = true := by kernel_rfl
theorem math_bits_OnesCount.sound (N : Nat) : Sound Go.Proofs.Try.prog (natTbl TM) 83 math_bits_OnesCount.x.sig (math_bits_OnesCount.fs N) := sound_of N (known_cons (fm := FM) (n := 61) (by kernel_rfl) (math_bits_OnesCount64.sound N) rfl (known_nil)) hmix math_bits_OnesCount.ok
theorem impl_IsCombos.ok : funcOk (mkE Go.Proofs.Try.prog TM FM [(62, (math_bits_OnesCount.x.sig, true))]) 51 impl_IsCombos.x = true := by kernel_rfl
theorem impl_IsCombos.sound (N : Nat) : Sound Go.Proofs.Try.prog (natTbl TM) 51 impl_IsCombos.x.sig (impl_IsCombos.fs N) := sound_of N (known_cons (fm := FM) (n := 62) (by kernel_rfl) (math_bits_OnesCount.sound N) rfl (known_nil)) hmix impl_IsCombos.ok
theorem impl_comboOf.ok : funcOk (mkE Go.Proofs.Try.prog TM FM []) 79 impl_comboOf.x = true := by kernel_rfl
theorem impl_comboOf.sound (N : Nat) : Sound Go.Proofs.Try.prog (natTbl TM) 79 impl_comboOf.x.sig (impl_comboOf.fs N) := sound_of N (known_nil) hmix impl_comboOf.ok
theorem impl_activeFits.ok : funcOk (mkE Go.Proofs.Try.prog TM FM [(65, (impl_bit.x.sig, true)), (64, (impl_comboOf.x.sig, true))]) 55 impl_activeFits.x = true := by kernel_rfl
theorem impl_activeFits.sound (N : Nat) : Sound Go.Proofs.Try.prog (natTbl TM) 55 impl_activeFits.x.sig (impl_activeFits.fs N) := sound_of N (known_cons (fm := FM) (n := 65) (by kernel_rfl) (impl_bit.sound N) rfl (known_cons (fm := FM) (n := 64) (by kernel_rfl) (impl_comboOf.sound N) rfl (known_nil))) hmix impl_activeFits.ok
theorem impl_switchesDown.ok : funcOk (mkE Go.Proofs.Try.prog TM FM []) 42 impl_switchesDown.x = true := by kernel_rfl
theorem impl_switchesDown.sound (N : Nat) : Sound Go.Proofs.Try.prog (natTbl TM) 42 impl_switchesDown.x.sig (impl_switchesDown.fs N) := sound_of N (known_nil) hmix impl_switchesDown.ok
theorem impl_queueFits.ok : funcOk (mkE Go.Proofs.Try.prog TM FM [(69, (impl_follow.x.sig, true))]) 43 impl_queueFits.x = true := by kernel_rfl
theorem impl_queueFits.sound (N : Nat) : Sound Go.Proofs.Try.prog (natTbl TM) 43 impl_queueFits.x.sig (impl_queueFits.fs N) := sound_of N (known_cons (fm := FM) (n := 69) (by kernel_rfl) (impl_follow.sound N) rfl (known_nil)) hmix impl_queueFits.ok
theorem impl_notBehind.ok : funcOk (mkE Go.Proofs.Try.prog TM FM []) 40 impl_notBehind.x = true := by kernel_rfl
theorem impl_notBehind.sound (N : Nat) : Sound Go.Proofs.Try.prog (natTbl TM) 40 impl_notBehind.x.sig (impl_notBehind.fs N) := sound_of N (known_nil) hmix impl_notBehind.ok
theorem impl_IsCombiner.ok : funcOk (mkE Go.Proofs.Try.prog TM FM [(63, (impl_IsCombos.x.sig, true)), (66, (impl_activeFits.x.sig, true)), (71, (impl_notBehind.x.sig, true)), (70, (impl_queueFits.x.sig, true)), (67, (impl_switchesDown.x.sig, true))]) 20 impl_IsCombiner.x = true := by kernel_rfl
theorem impl_IsCombiner.sound (N : Nat) : Sound Go.Proofs.Try.prog (natTbl TM) 20 impl_IsCombiner.x.sig (impl_IsCombiner.fs N) := sound_of N (known_cons (fm := FM) (n := 63) (by kernel_rfl) (impl_IsCombos.sound N) rfl (known_cons (fm := FM) (n := 66) (by kernel_rfl) (impl_activeFits.sound N) rfl (known_cons (fm := FM) (n := 71) (by kernel_rfl) (impl_notBehind.sound N) rfl (known_cons (fm := FM) (n := 70) (by kernel_rfl) (impl_queueFits.sound N) rfl (known_cons (fm := FM) (n := 67) (by kernel_rfl) (impl_switchesDown.sound N) rfl (known_nil)))))) hmix impl_IsCombiner.ok
theorem impl_copyCombiner.ok : funcOk (mkE Go.Proofs.Try.prog TM FM []) 41 impl_copyCombiner.x = true := by kernel_rfl
theorem impl_copyCombiner.sound (N : Nat) : Sound Go.Proofs.Try.prog (natTbl TM) 41 impl_copyCombiner.x.sig (impl_copyCombiner.fs N) := sound_of N (known_nil) hmix impl_copyCombiner.ok
theorem impl_Combiner_up.ok : funcOk (mkE Go.Proofs.Try.prog TM FM [(65, (impl_bit.x.sig, true))]) 78 impl_Combiner_up.x = true := by kernel_rfl
theorem impl_Combiner_up.sound (N : Nat) : Sound Go.Proofs.Try.prog (natTbl TM) 78 impl_Combiner_up.x.sig (impl_Combiner_up.fs N) := sound_of N (known_cons (fm := FM) (n := 65) (by kernel_rfl) (impl_bit.sound N) rfl (known_nil)) hmix impl_Combiner_up.ok
theorem impl_isSwitchEvent.ok : funcOk (mkE Go.Proofs.Try.prog TM FM [(68, (impl_IsEvent.x.sig, true))]) 52 impl_isSwitchEvent.x = true := by kernel_rfl
theorem impl_isSwitchEvent.sound (N : Nat) : Sound Go.Proofs.Try.prog (natTbl TM) 52 impl_isSwitchEvent.x.sig (impl_isSwitchEvent.fs N) := sound_of N (known_cons (fm := FM) (n := 68) (by kernel_rfl) (impl_IsEvent.sound N) rfl (known_nil)) hmix impl_isSwitchEvent.ok
theorem impl_within.ok : funcOk (mkE Go.Proofs.Try.prog TM FM []) 53 impl_within.x = true := by kernel_rfl
theorem impl_within.sound (N : Nat) : Sound Go.Proofs.Try.prog (natTbl TM) 53 impl_within.x.sig (impl_within.fs N) := sound_of N (known_nil) hmix impl_within.ok
theorem impl_wholeCombo.ok : funcOk (mkE Go.Proofs.Try.prog TM FM []) 54 impl_wholeCombo.x = true := by kernel_rfl
theorem impl_wholeCombo.sound (N : Nat) : Sound Go.Proofs.Try.prog (natTbl TM) 54 impl_wholeCombo.x.sig (impl_wholeCombo.fs N) := sound_of N (known_nil) hmix impl_wholeCombo.ok
theorem impl_MatchCombo.ok : funcOk (mkE Go.Proofs.Try.prog TM FM [(63, (impl_IsCombos.x.sig, true)), (75, (impl_isSwitchEvent.x.sig, true)), (77, (impl_wholeCombo.x.sig, true)), (76, (impl_within.x.sig, true))]) 19 impl_MatchCombo.x = true := by kernel_rfl
theorem impl_MatchCombo.sound (N : Nat) : Sound Go.Proofs.Try.prog (natTbl TM) 19 impl_MatchCombo.x.sig (impl_MatchCombo.fs N) := sound_of N (known_cons (fm := FM) (n := 63) (by kernel_rfl) (impl_IsCombos.sound N) rfl (known_cons (fm := FM) (n := 75) (by kernel_rfl) (impl_isSwitchEvent.sound N) rfl (known_cons (fm := FM) (n := 77) (by kernel_rfl) (impl_wholeCombo.sound N) rfl (known_cons (fm := FM) (n := 76) (by kernel_rfl) (impl_within.sound N) rfl (known_nil))))) hmix impl_MatchCombo.ok
theorem impl_Combiner_perform.ok : funcOk (mkE Go.Proofs.Try.prog TM FM [(74, (impl_Combiner_up.x.sig, false)), (78, (impl_MatchCombo.x.sig, true)), (64, (impl_comboOf.x.sig, true))]) 44 impl_Combiner_perform.x = true := by kernel_rfl
theorem impl_Combiner_perform.sound (N : Nat) : Sound Go.Proofs.Try.prog (natTbl TM) 44 impl_Combiner_perform.x.sig (impl_Combiner_perform.fs N) := sound_of N (known_cons (fm := FM) (n := 74) (by kernel_rfl) (impl_Combiner_up.sound N) rfl (known_cons (fm := FM) (n := 78) (by kernel_rfl) (impl_MatchCombo.sound N) rfl (known_cons (fm := FM) (n := 64) (by kernel_rfl) (impl_comboOf.sound N) rfl (known_nil)))) hmix impl_Combiner_perform.ok
theorem impl_CombineEvents.ok : funcOk (mkE Go.Proofs.Try.prog TM FM [(79, (impl_Combiner_perform.x.sig, false)), (72, (impl_IsCombiner.x.sig, true)), (73, (impl_copyCombiner.x.sig, true)), (71, (impl_notBehind.x.sig, true)), (70, (impl_queueFits.x.sig, true)), (67, (impl_switchesDown.x.sig, true))]) 12 impl_CombineEvents.x = true := by kernel_rfl
theorem impl_CombineEvents.sound (N : Nat) : Sound Go.Proofs.Try.prog (natTbl TM) 12 impl_CombineEvents.x.sig (impl_CombineEvents.fs N) := sound_of N (known_cons (fm := FM) (n := 79) (by kernel_rfl) (impl_Combiner_perform.sound N) rfl (known_cons (fm := FM) (n := 72) (by kernel_rfl) (impl_IsCombiner.sound N) rfl (known_cons (fm := FM) (n := 73) (by kernel_rfl) (impl_copyCombiner.sound N) rfl (known_cons (fm := FM) (n := 71) (by kernel_rfl) (impl_notBehind.sound N) rfl (known_cons (fm := FM) (n := 70) (by kernel_rfl) (impl_queueFits.sound N) rfl (known_cons (fm := FM) (n := 67) (by kernel_rfl) (impl_switchesDown.sound N) rfl (known_nil))))))) hmix impl_CombineEvents.ok
theorem laws_FnComboEvents.ok : funcOk (mkE Go.Proofs.Try.prog TM FM [(80, (impl_CombineEvents.x.sig, true)), (232, (impl_HeldAfter.x.sig, true)), (231, (impl_IsEvents.x.sig, true)), (234, (impl_ReleaseAll.x.sig, true)), (31, (laws_big.x.sig, true)), (230, (spec_MakeFresh.x.sig, false))]) 4 laws_FnComboEvents.x = true := by kernel_rfl
theorem laws_FnComboEvents.sound (N : Nat) : Sound Go.Proofs.Try.prog (natTbl TM) 4 laws_FnComboEvents.x.sig (laws_FnComboEvents.fs N) := sound_of N (known_cons (fm := FM) (n := 80) (by kernel_rfl) (impl_CombineEvents.sound N) rfl (known_cons (fm := FM) (n := 232) (by kernel_rfl) (impl_HeldAfter.sound N) rfl (known_cons (fm := FM) (n := 231) (by kernel_rfl) (impl_IsEvents.sound N) rfl (known_cons (fm := FM) (n := 234) (by kernel_rfl) (impl_ReleaseAll.sound N) rfl (known_cons (fm := FM) (n := 31) (by kernel_rfl) (laws_big.sound N) rfl (known_cons (fm := FM) (n := 230) (by kernel_rfl) (spec_MakeFresh.sound N) rfl (known_nil))))))) hmix laws_FnComboEvents.ok
end Go.Kb
