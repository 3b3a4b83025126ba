/- Each function of the law does what its abstract text does, over the program. -/
import Derived.Test.YtipjdpnpahhndaaDoorKc
import Derived.Test.YtipjdpnpahhndaaDoorExactKeyOfF1
import Derived.Test.YtipjdpnpahhndaaDoorExactKeyOfF2
import Derived.Test.YtipjdpnpahhndaaDoorExactKeyOfF3
import Derived.Test.YtipjdpnpahhndaaDoorExactKeyOfF4
import Derived.Test.YtipjdpnpahhndaaDoorExactKeyOfF5
import Derived.Test.YtipjdpnpahhndaaDoorExactKeyOfF6
import Derived.Test.YtipjdpnpahhndaaDoorExactKeyOfF7
import Derived.Test.YtipjdpnpahhndaaDoorExactKeyOfF8
import Derived.Test.YtipjdpnpahhndaaDoorExactKeyOfF9
import Derived.Test.YtipjdpnpahhndaaDoorRows
import Derived.Test.YtipjdpnpahhndaaDoorShelf
import Derived.Test.YtipjdpnpahhndaaDoorKd
import Derived.KernelRfl
namespace Go.Kb
def TM : List (Nat × Nat) := [(2, 3), (1, 5), (16, 9), (11, 27), (6, 43), (12, 45), (10, 64), (14, 73), (8, 78), (15, 96)]
def FM : List (Nat × Nat) := [(1, 36), (356, 77), (357, 65), (358, 37), (359, 9), (376, 11), (153, 38), (372, 66), (373, 39), (374, 10), (377, 12), (378, 4)]
def GB : Nat → Prop := fun b => b = 0
def QW : World → Prop := fun w => ∃ m, w.cell? ⟨0, 0, none⟩ = some (.int .i64 m)
theorem hQs : ∀ w w' : World, (∀ b, GB b → w'.heap[b]? = w.heap[b]?) → QW w → QW w' := fun _ _ h ⟨m, hm⟩ => ⟨m, (cell_of_same (h 0 rfl)).trans hm⟩
theorem ext_strings_Split.sound (N : Nat) : Sound Go.Proofs.Tryd.prog (natTbl TM) GB QW 66 ext_strings_Split.sig (ext_strings_Split.fs N) := split_sound (T := 9) (fun s sep w ⟨m, hm⟩ h1 h2 => Go.Proofs.Tryd.strings_Split s sep m w h1 hm h2) N
theorem hmix : Go.Proofs.Tryd.prog.follows .mixedOrders = true := by kernel_rfl
theorem spec_l1In.ok : funcOk (mkE Go.Proofs.Tryd.prog GB QW TM FM []) 36 spec_l1In.x = true := by kernel_rfl
theorem spec_l1In.sound (N : Nat) : Sound Go.Proofs.Tryd.prog (natTbl TM) GB QW 36 spec_l1In.x.sig (spec_l1In.fs N) := sound_of N (known_nil) hQs hmix spec_l1In.ok
theorem spec_SplitText.ok : funcOk (mkE Go.Proofs.Tryd.prog GB QW TM FM []) 77 spec_SplitText.x = true := by kernel_rfl
theorem spec_SplitText.sound (N : Nat) : Sound Go.Proofs.Tryd.prog (natTbl TM) GB QW 77 spec_SplitText.x.sig (spec_SplitText.fs N) := sound_of N (known_nil) hQs hmix spec_SplitText.ok
theorem spec_l5Names.ok : funcOk (mkE Go.Proofs.Tryd.prog GB QW TM FM [(356, (spec_SplitText.x.sig, true))]) 65 spec_l5Names.x = true := by kernel_rfl
theorem spec_l5Names.sound (N : Nat) : Sound Go.Proofs.Tryd.prog (natTbl TM) GB QW 65 spec_l5Names.x.sig (spec_l5Names.fs N) := sound_of N (known_cons (fm := FM) (n := 356) (by kernel_rfl) (spec_SplitText.sound N) rfl (known_nil)) hQs hmix spec_l5Names.ok
theorem spec_CodeName.ok : funcOk (mkE Go.Proofs.Tryd.prog GB QW TM FM [(1, (spec_l1In.x.sig, true)), (357, (spec_l5Names.x.sig, true))]) 37 spec_CodeName.x = true := by kernel_rfl
theorem spec_CodeName.sound (N : Nat) : Sound Go.Proofs.Tryd.prog (natTbl TM) GB QW 37 spec_CodeName.x.sig (spec_CodeName.fs N) := sound_of N (known_cons (fm := FM) (n := 1) (by kernel_rfl) (spec_l1In.sound N) rfl (known_cons (fm := FM) (n := 357) (by kernel_rfl) (spec_l5Names.sound N) rfl (known_nil))) hQs hmix spec_CodeName.ok
theorem spec_CharOf.ok : funcOk (mkE Go.Proofs.Tryd.prog GB QW TM FM [(358, (spec_CodeName.x.sig, true)), (1, (spec_l1In.x.sig, true))]) 9 spec_CharOf.x = true := by kernel_rfl
theorem spec_CharOf.sound (N : Nat) : Sound Go.Proofs.Tryd.prog (natTbl TM) GB QW 9 spec_CharOf.x.sig (spec_CharOf.fs N) := sound_of N (known_cons (fm := FM) (n := 358) (by kernel_rfl) (spec_CodeName.sound N) rfl (known_cons (fm := FM) (n := 1) (by kernel_rfl) (spec_l1In.sound N) rfl (known_nil))) hQs hmix spec_CharOf.ok
theorem spec_KeyOf.ok : funcOk (mkE Go.Proofs.Tryd.prog GB QW TM FM [(359, (spec_CharOf.x.sig, true))]) 11 spec_KeyOf.x = true := by kernel_rfl
theorem spec_KeyOf.sound (N : Nat) : Sound Go.Proofs.Tryd.prog (natTbl TM) GB QW 11 spec_KeyOf.x.sig (spec_KeyOf.fs N) := sound_of N (known_cons (fm := FM) (n := 359) (by kernel_rfl) (spec_CharOf.sound N) rfl (known_nil)) hQs hmix spec_KeyOf.ok
theorem impl_isCode.ok : funcOk (mkE Go.Proofs.Tryd.prog GB QW TM FM []) 38 impl_isCode.x = true := by kernel_rfl
theorem impl_isCode.sound (N : Nat) : Sound Go.Proofs.Tryd.prog (natTbl TM) GB QW 38 impl_isCode.x.sig (impl_isCode.fs N) := sound_of N (known_nil) hQs hmix impl_isCode.ok
theorem impl_CodeName.ok : funcOk (mkE Go.Proofs.Tryd.prog GB QW TM FM [(372, (ext_strings_Split.sig, true))]) 39 impl_CodeName.x = true := by kernel_rfl
theorem impl_CodeName.sound (N : Nat) : Sound Go.Proofs.Tryd.prog (natTbl TM) GB QW 39 impl_CodeName.x.sig (impl_CodeName.fs N) := sound_of N (known_cons (fm := FM) (n := 372) (by kernel_rfl) (ext_strings_Split.sound N) rfl (known_nil)) hQs hmix impl_CodeName.ok
theorem impl_CharOf.ok : funcOk (mkE Go.Proofs.Tryd.prog GB QW TM FM [(373, (impl_CodeName.x.sig, true)), (153, (impl_isCode.x.sig, true))]) 10 impl_CharOf.x = true := by kernel_rfl
theorem impl_CharOf.sound (N : Nat) : Sound Go.Proofs.Tryd.prog (natTbl TM) GB QW 10 impl_CharOf.x.sig (impl_CharOf.fs N) := sound_of N (known_cons (fm := FM) (n := 373) (by kernel_rfl) (impl_CodeName.sound N) rfl (known_cons (fm := FM) (n := 153) (by kernel_rfl) (impl_isCode.sound N) rfl (known_nil))) hQs hmix impl_CharOf.ok
theorem impl_KeyOf.ok : funcOk (mkE Go.Proofs.Tryd.prog GB QW TM FM [(374, (impl_CharOf.x.sig, true))]) 12 impl_KeyOf.x = true := by kernel_rfl
theorem impl_KeyOf.sound (N : Nat) : Sound Go.Proofs.Tryd.prog (natTbl TM) GB QW 12 impl_KeyOf.x.sig (impl_KeyOf.fs N) := sound_of N (known_cons (fm := FM) (n := 374) (by kernel_rfl) (impl_CharOf.sound N) rfl (known_nil)) hQs hmix impl_KeyOf.ok
theorem laws_FnExactKeyOf.ok : funcOk (mkE Go.Proofs.Tryd.prog GB QW TM FM [(377, (impl_KeyOf.x.sig, true)), (376, (spec_KeyOf.x.sig, true))]) 4 laws_FnExactKeyOf.x = true := by kernel_rfl
theorem laws_FnExactKeyOf.sound (N : Nat) : Sound Go.Proofs.Tryd.prog (natTbl TM) GB QW 4 laws_FnExactKeyOf.x.sig (laws_FnExactKeyOf.fs N) := sound_of N (known_cons (fm := FM) (n := 377) (by kernel_rfl) (impl_KeyOf.sound N) rfl (known_cons (fm := FM) (n := 376) (by kernel_rfl) (spec_KeyOf.sound N) rfl (known_nil))) hQs hmix laws_FnExactKeyOf.ok
end Go.Kb
