/- PlayEvents answers as the reference does, in memory of its own. -/
import Derived.Test.YticidpdbkjgebabGreatExactWaitUntilP125toP126
import Derived.Test.YticidpdbkjgebabGreatExactWaitUntilP0toF3
import Derived.Test.YticidpdbkjgebabGreatExactWaitUntilF4
import Derived.Test.YticidpdbkjgebabGreatExactWaitUntilP15toP90
import Derived.Test.YticidpdbkjgebabGreatExactWaitUntilP93toF8
import Derived.Test.YticidpdbkjgebabGreatExactWaitUntilF30
import Derived.Test.YticidpdbkjgebabGreatExactWaitUntilF33
import Derived.KernelRfl
namespace Go.Kb
set_option maxRecDepth 100000
theorem zCO.call {D E : List HRow} {hs gs : List Hnd} {A : List SH} {d : Dcd} {V : List Snt} (h : zCO (hhide D).length E hs gs A d V) (p : hhide D <+: E) : zCO D.length (yw D E) hs gs A d V := by
 obtain ⟨a, m, b, A1, A2, V1, V2, l1, l2, l3, l4, o1, o2, eA, eV, s1, s2⟩ := h
 rw [hide_len] at l1 s1
 obtain ⟨_, q2, _⟩ := hide_more p
 refine ⟨a, m, b, A1, A2, V1, V2, l1, l2, l3, by omega, o1.shown p l1, o2.shown p (by omega), eA, eV, s1.shown p (nR _), ?_⟩
 rw [q2]
 exact s2.shown p (by omega)
theorem QO.call {D : List HRow} {V : Dcd × List Snt × Bool} {r : Option ((HDcd × List SH × Bool) × List HRow)} (h : QO (hhide D) V r) :
  ∃ hs gs A E, r = some (((((V.1.1.1.1, hs), (gs, V.1.1.2.2)), V.1.2), (A, V.2.2)), E) /\ D <+: yw D E /\ zCO D.length (yw D E) hs gs A V.1 V.2.1 := by
 obtain ⟨hs, gs, A, E, e, p, o⟩ := h
 exact ⟨hs, gs, A, E, e, (hide_more p).1, o.call p⟩
theorem zCO.sents {lo : Nat} {D : List HRow} {hs gs : List Hnd} {A : List SH} {d : Dcd} {V : List Snt} (h : zCO lo D hs gs A d V) : OwnS D lo D.length A V := by
 obtain ⟨a, m, b, A1, A2, V1, V2, l1, l2, l3, l4, o1, o2, eA, eV, s1, s2⟩ := h
 rw [eA, eV]
 exact s1.append (s2.mono (by omega) (nR _)) l1 (by omega)
theorem zCO.acts {lo : Nat} {D : List HRow} {hs gs : List Hnd} {A : List SH} {d : Dcd} {V : List Snt} (h : zCO lo D hs gs A d V) : (List.all hs (Ty.unok D (.hnd tA)) && List.all gs (Ty.unok D (.hnd tS))) = true /\ (List.map (Ty.unden D (.hnd tA)) hs : List (List (Int × Int × Int × Int))) = d.1.1.2 /\ (List.map (Ty.unden D (.hnd tS)) gs : List (List (Int × Int × Int))) = d.1.2.1 := by
 obtain ⟨a, m, b, A1, A2, V1, V2, l1, l2, l3, l4, o1, o2, _⟩ := h
 exact ⟨by rw [o1.unok, o2.unok]; rfl, o1.unA, o2.unS⟩
theorem zCO.later {lo : Nat} {D D' : List HRow} {hs gs : List Hnd} {A : List SH} {d : Dcd} {V : List Snt} (h : zCO lo D hs gs A d V) (hf : Fr 0 lo D D') : zCO lo D' hs gs A d V := by
 obtain ⟨a, m, b, A1, A2, V1, V2, l1, l2, l3, l4, o1, o2, eA, eV, s1, s2⟩ := h
 refine ⟨a, m, b, A1, A2, V1, V2, l1, l2, l3, by rw [hf.1]; exact l4, o1.apart hf (Or.inr l1), o2.apart hf (Or.inr (by omega)), eA, eV, s1.apart hf (Or.inr (nR _)), ?_⟩
 rw [hf.1]
 exact s2.apart hf (Or.inr (by omega))
theorem ply_small (d : Dcd) (l : List Ev) (en : Int) : smallD (ply d l en).1 /\ (ply d l en).2.1.length <= 1088 /\ ∀ s ∈ (ply d l en).2.1, s.2.2.length <= 56 := by
 by_cases hp : plyB d l en = true
 ·have hP := (plyB_iff d l en).1 hp
  have u := hP.upTo
  rw [ply_ok hP]
  exact ⟨u.sm, u.len, u.rep⟩
 ·have hp : plyB d l en = false := by rw [Bool.eq_false_iff]; exact hp
  unfold ply
  rw [hp]
  refine ⟨⟨⟨⟨?_, ?_⟩, ⟨?_, ?_⟩, ?_⟩, ?_⟩, ?_, ?_⟩ <;> simp [zeroD, zeroE]
theorem bneSB (b : Bool) : (b != b) = false := by cases b <;> rfl
end Go.Kb
namespace Go.Kb
abbrev T1_34 : Ty := .pair (.pair (.pair (.int .i64) (.list (.list (.pair (.int .i64) (.pair (.int .i64) (.pair (.int .i64) (.int .i64))))))) (.pair (.list (.list (.pair (.int .i64) (.pair (.int .i64) (.int .i64))))) (.pair (.int .i64) (.pair (.list (.pair (.int .i64) (.pair (.int .i64) (.pair (.int .i64) (.pair (.int .i64) (.int .i64)))))) (.pair (.int .i64) (.bool)))))) (.pair (.pair (.int .i64) (.pair (.int .i64) (.int .i64))) (.pair (.list (.pair (.int .i64) (.pair (.int .i64) (.bool)))) (.pair (.int .i64) (.pair (.int .i64) (.pair (.int .i64) (.int .i64))))))
abbrev zCR : Ty := .pair (.int .i64) (.pair (.int .i64) (.int .i64))
abbrev T3_34 : Ty := .pair (.int .i64) (.pair (.int .i64) (.hnd (.int .i64)))
abbrev T4_34 : Ty := .pair (.pair (.pair (.int .i64) (.list (.hnd (.pair (.int .i64) zCR)))) (.pair (.list (.hnd zCR)) (.pair (.int .i64) (.pair (.list (.pair (.int .i64) (.pair (.int .i64) zCR))) (.pair (.int .i64) (.bool)))))) (.pair zCR (.pair (.list (.pair (.int .i64) (.pair (.int .i64) (.bool)))) (.pair (.int .i64) zCR)))
abbrev T5_34 : Ty := .hnd (.pair (.int .i64) zCR)
abbrev T6_34 : Ty := .pair (.int .i64) (.pair (.int .i64) (.bool))
abbrev T7_34 : Ty := .pair (.list (.pair (.int .i64) (.pair (.int .i64) (.list (.int .i64))))) (.bool)
abbrev D8_34 : Type := (Int × List (List (Int × Int × Int × Int))) × (List (List (Int × Int × Int))) × Int × (List (Int × Int × Int × Int × Int)) × Int × Bool
abbrev D9_34 : Type := D8_34 × (Int × Int × Int) × (List (Int × Int × Bool)) × Int × Int × Int × Int
abbrev D10_34 : Type := ((((Int × List Hnd) × (List Hnd) × Int × (List (Int × Int × Int × Int × Int)) × Int × Bool) × (Int × Int × Int) × (List (Int × Int × Bool)) × Int × Int × Int × Int) × (List (Int × Int × Hnd)) × Bool) × List HRow
def zAS.x : XFunc := xF 21 4 [.val true 15, .val false 1] (no 16) [.var 4 true 15, .tmp 5 false 1, .tmp 6 false 1] (iF 17) false (.pair T1_34 (.int .i64)) (.pair T1_34 T7_34) <| .seq (rG [ow 2 (.box 0) [.slot 0] [0] [0], ow 4 (.alloc 1 [cZ, .nil, .nil, cZ, .nil, cZ, .bool false, cZ, cZ, cZ, .nil, cZ, cZ, cZ, cZ]) [] [1] [1], op 5 .move [.const (.one (.nil))], op 6 .move [cB false]]) (.seq (rG [lU 11 15 2 0, op 12 (.buildSlice true 2 4 T6_34 0 [] [cZ, cZ, .bool false]) [], mv 13 1, op 14 (.call ⟨320, [.val true 15, .val false 1, .val false 1], no 17, [.val true 15, .val false 1, .val false 1], ims 17, false⟩) (sl [11, 12, 13]), mv 10 14, eX 15 0 10, eX 16 1 10, eX 17 2 10, ow 7 (.alloc 3 [cZ, .nil, .nil, cZ, .nil, cZ, .bool false, cZ, cZ, cZ, .nil, cZ, cZ, cZ, cZ]) [] [3] [3], sT 15 7 15 3, mv 8 16, mv 9 17]) (.seq (rG [lU 18 15 7 3, mv 19 8, mv 20 9, sT 15 4 18 1, mv 5 19, mv 6 20]) (.ret)))
def zAS.env (N : Nat) : Env := envOf (tbl [(320, zAB.fs N)] noFS)
def zAS.F (N : Nat) (x : D9_34 × Int) : Option (D9_34 × (List (Int × Int × List Int)) × Bool) := XFunc.run zAS.x (zAS.env N) N x
def zAS.fs (N : Nat) : FS := fS zAS.x false (zAS.F N)
theorem zAS.F_eq (N : Nat) (d : D9_34) (time : Int) : zAS.F N (d, time) =
bindO (zAB.F N (d, (([] : List (Int × Int × Bool)), time))) fun r1 =>
some r1 := by kernel_rfl
def yz.x : XFunc := { nslots := 13, nobj := 5, pars := [.val true 15, .val false 1], rowsIn := no 16, rets := [.var 4 true 15, .tmp 5 false 1, .tmp 6 false 1], outs := [.imm, .imm, .imm, .imm, .own 15, .imm, .imm, .imm, .imm, .imm, .own 4, .imm, .imm, .imm, .imm, .own 13, .imm], fresh := true, arg := .pair T1_34 (.int .i64), ret := .pair T4_34 (.pair (.list T3_34) (.bool)), body := .seq (rG [ow 2 (.box 0) [.slot 0] [0] [0], ow 4 (.alloc 1 [cZ, .nil, .nil, cZ, .nil, cZ, .bool false, cZ, cZ, cZ, .nil, cZ, cZ, cZ, cZ]) [] [1] [1], op 5 .move [.const (.one (.nil))], op 6 .move [cB false]]) (.seq (rG [lU 7 15 2 0, mv 8 1, ow 9 (.callH false ⟨458, [.val true 15, .val false 1, .val false 1], no 17, [.val true 15, .val false 1, .val false 1], [.imm, .imm, .imm, .imm, .own 3 15, .imm, .imm, .imm, .imm, .imm, .own 2 4, .imm, .imm, .imm, .imm, .own 4 13, .imm], true⟩) [.slot 7, .const (.one (.nil)), .slot 8] [2, 3, 4, 100] [2, 3, 4, 100], eX 10 0 9, eX 11 1 9, eX 12 2 9, sT 15 4 10 1, mv 5 11, mv 6 12]) (.ret)), hp := true }
def yz.env (N : Nat) : Env := envOf (tbl [(458, zS.fs N)] noFS)
def yz.H (N : Nat) (x : D9_34 × Int) (D : List HRow) : Option D10_34 := XFunc.runH yz.x (yz.env N) N x D
def yz.fs (N : Nat) : FS := { arg := yz.x.arg, ret := yz.x.ret, fresh := true, F := fun _ => none, hp := true, H := yz.H N }
theorem yz.H_eq (N : Nat) (d : D9_34) (time : Int) (D : List HRow) : yz.H N (d, time) D =
bindO (zS.H N (d, (([] : List (Int × Int × Bool)), time)) (hhide D)) fun r1 =>
some (r1.1, yw D r1.2) := by kernel_rfl
def laws_FnExactWaitUntil.x : XFunc := xF 138 10 [.val true 15, .val false 1] (no 16) [.tmp 4 false 1] [.imm] true (.pair T1_34 (.int .i64)) .bool <| .seq (rG [ow 2 (.box 0) [.slot 0] [0] [0], op 4 .move [cB false]]) (.seq (rG [op 5 .move [cI 1048576]]) (.seq (rG [lU 19 15 2 0, mv 20 5, o2 21 (cO 429 [.val true 15, .val false 1] 16 true) 19 20, mv 5 21]) (.seq (.seq (rG [mv 22 5, op 23 (.bin .lss) [.slot 22, cI 0]]) (rI 23 4 true)) (.seq (rG [lU 25 15 2 0, o1 26 (.call ⟨441, [.val true 15], no 15, [.val true 15], ims 15, true⟩) 25, mv 27 1, o2 28 (.call ⟨488, [.val true 15, .val false 1], no 16, [.val true 15, .val false 1, .val false 1], ims 17, false⟩) 26 27, mv 24 28, eX 29 0 24, eX 30 1 24, eX 31 2 24, ow 6 (.alloc 1 [cZ, .nil, .nil, cZ, .nil, cZ, .bool false, cZ, cZ, cZ, .nil, cZ, cZ, cZ, cZ]) [] [1] [1], sT 15 6 29 1, mv 7 30, mv 8 31]) (.seq (rG [lU 32 15 2 0, ow 33 (.callH false ⟨446, [.val true 15], no 15, [.val true 15], [.imm, .imm, .imm, .imm, .own 4 15, .imm, .imm, .imm, .imm, .imm, .own 5 4, .imm, .imm, .imm, .imm], true⟩) [.slot 32] [4, 5, 100] [4, 5, 100], ow 9 (.alloc 2 [cZ, .nil, .nil, cZ, .nil, cZ, .bool false, cZ, cZ, cZ, .nil, cZ, cZ, cZ, cZ]) [] [2] [2], sT 15 9 33 2]) (.seq (rG [lU 35 15 9 2, mv 36 1, ow 37 (.callH false ⟨489, [.val true 15, .val false 1], no 16, [.val true 15, .val false 1, .val false 1], [.imm, .imm, .imm, .imm, .own 6 15, .imm, .imm, .imm, .imm, .imm, .own 7 4, .imm, .imm, .imm, .imm, .own 8 13, .imm], true⟩) (sl [35, 36]) [4, 5, 6, 7, 8, 100] [6, 7, 8, 100], mv 34 37, eX 38 0 34, eX 39 1 34, eX 40 2 34, ow 10 (.alloc 3 [cZ, .nil, .nil, cZ, .nil, cZ, .bool false, cZ, cZ, cZ, .nil, cZ, cZ, cZ, cZ]) [] [3] [3], sT 15 10 38 3, mv 11 39, mv 12 40]) (.seq (.seq (rG [lU 41 15 10 3, lU 42 15 6 1, ow 43 (cO 468 [.val true 15, .val true 15] 30 true) (sl [41, 42]) [6, 7, 100] [], o1 44 .not 43, sX 45 [.slot 44], gM 46 11 45 false, gM 47 7 45 false, ⟨some 48, cO 470 (vs 2) 2 true, (sl [46, 47]), [8, 100], [], some (45, false), false, .none⟩, gX 49 .not [.slot 48] [] [] 45 false, op 50 .pick [.slot 45, cB true, .slot 49], sX 51 [.slot 50], gM 52 12 51 false, gM 53 8 51 false, gX 54 (.eqBool true) (sl [52, 53]) [] [] 51 false, op 55 .pick [.slot 51, cB true, .slot 54]]) (rI 55 4 false)) (.seq (.seq (.region true [lU 56 15 9 2, lU 57 15 2 0, o1 58 (.call ⟨441, [.val true 15], no 15, [.val true 15], ims 15, true⟩) 57, ow 59 (cO 468 [.val true 15, .val true 15] 30 true) (sl [56, 58]) [4, 5, 100] [], o1 60 .not 59]) (rI 60 4 false)) (.seq (rG [op 13 .move [cI 1]]) (.seq (rG [lU 61 15 9 2, mv 62 13, ow 63 (.callH true ⟨477, [.val true 15, .val false 1], [none, none, none, none, some (4, 15), none, none, none, none, none, some (5, 4), none, none, none, none, none], [.val false 1], [.imm, .back 4, .back 5], false⟩) (sl [61, 62]) [4, 5, 100] [4, 5, 100], mv 13 63]) (.seq (.seq (rG [mv 64 13, op 65 (.bin .lss) [.slot 64, cI 0], sX 66 [.slot 65], gX 67 (.load true 15) [.slot 10] [3] [] 66 false, gX 68 (.load true 15) [.slot 6] [1] [] 66 false, ⟨some 69, cO 468 [.val true 15, .val true 15] 30 true, (sl [67, 68]), [6, 7, 100], [], some (66, false), false, .none⟩, gX 70 .not [.slot 69] [] [] 66 false, op 71 .pick [.slot 66, cB true, .slot 70], sX 72 [.slot 71], gM 73 11 72 false, gM 74 7 72 false, ⟨some 75, cO 470 (vs 2) 2 true, (sl [73, 74]), [8, 100], [], some (72, false), false, .none⟩, gX 76 .not [.slot 75] [] [] 72 false, op 77 .pick [.slot 72, cB true, .slot 76], sX 78 [.slot 77], gM 79 12 78 false, gM 80 8 78 false, gX 81 (.eqBool true) (sl [79, 80]) [] [] 78 false, op 82 .pick [.slot 78, cB true, .slot 81]]) (rI 82 4 false)) (.seq (rG [op 14 .move [cI 1]]) (.seq (rG [lU 83 15 10 3, mv 84 14, ow 85 (.callH true ⟨477, [.val true 15, .val false 1], [none, none, none, none, some (6, 15), none, none, none, none, none, some (7, 4), none, none, none, none, none], [.val false 1], [.imm, .back 6, .back 7], false⟩) (sl [83, 84]) [6, 7, 100] [6, 7, 100], mv 14 85]) (.seq (rG [mv 86 11, mv 87 14, ow 88 (.callH true ⟨478, vs 2, [some (8, 13), none], [.val false 1], [.imm, .back 8], false⟩) (sl [86, 87]) [8, 100] [8, 100], mv 14 88]) (.seq (rG [op 15 .move [cI 1]]) (.seq (rG [lU 89 15 10 3, mv 90 15, ow 91 (cO 485 [.val true 15, .val false 1] 16 true) (sl [89, 90]) [6, 7, 100] [], mv 15 91]) (.seq (.seq (rG [mv 92 15, op 93 (.bin .lss) [.slot 92, cI 0]]) (rI 93 4 false)) (.seq (rG [mv 94 11, mv 95 15, ow 96 (cO 486 (vs 2) 2 true) (sl [94, 95]) [8, 100] [], mv 15 96]) (.seq (.seq (rG [mv 97 15, op 98 (.bin .lss) [.slot 97, cI 0]]) (rI 98 4 false)) (.seq (.seq (rG [mv 99 15, mv 100 14, o2 101 (.bin .neq) 99 100]) (rI 101 4 false)) (.seq (rG [lU 103 15 2 0, o1 104 (.call ⟨441, [.val true 15], no 15, [.val true 15], ims 15, true⟩) 103, mv 105 1, ow 106 (.callH false ⟨489, [.val true 15, .val false 1], no 16, [.val true 15, .val false 1, .val false 1], ims 17, true⟩) (sl [104, 105]) [100] [100], mv 102 106, eX 107 0 102, eX 108 1 102, eX 109 2 102, ow 16 (.alloc 9 [cZ, .nil, .nil, cZ, .nil, cZ, .bool false, cZ, cZ, cZ, .nil, cZ, cZ, cZ, cZ]) [] [9] [9], sT 15 16 107 9, mv 17 108, mv 18 109]) (.seq (.seq (rG [lU 110 15 16 9, lU 111 15 6 1, ow 112 (cO 468 [.val true 15, .val true 15] 30 true) (sl [110, 111]) [100] [], o1 113 .not 112, sX 114 [.slot 113], gM 115 17 114 false, gM 116 7 114 false, ⟨some 117, cO 470 (vs 2) 2 true, (sl [115, 116]), [100], [], some (114, false), false, .none⟩, gX 118 .not [.slot 117] [] [] 114 false, op 119 .pick [.slot 114, cB true, .slot 118], sX 120 [.slot 119], gM 121 18 120 false, gM 122 8 120 false, gX 123 (.eqBool true) (sl [121, 122]) [] [] 120 false, op 124 .pick [.slot 120, cB true, .slot 123]]) (rI 124 4 false)) (.seq (rG [op 15 .move [cI 1]]) (.seq (rG [lU 125 15 10 3, mv 126 15, ow 127 (cO 485 [.val true 15, .val false 1] 16 true) (sl [125, 126]) [6, 7, 100] [], mv 15 127]) (.seq (.seq (rG [mv 128 15, op 129 (.bin .lss) [.slot 128, cI 0]]) (rI 129 4 false)) (.seq (rG [mv 130 11, mv 131 15, ow 132 (cO 486 (vs 2) 2 true) (sl [130, 131]) [8, 100] [], mv 15 132]) (.seq (.seq (rG [mv 133 15, op 134 (.bin .lss) [.slot 133, cI 0]]) (rI 134 4 false)) (.seq (.seq (rG [mv 135 15, mv 136 14, o2 137 (.bin .neq) 135 136]) (rI 137 4 false)) (.seq (rG [op 4 .move [cB true]]) (.ret))))))))))))))))))))))))))))))
def laws_FnExactWaitUntil.env (N : Nat) : Env := envOf (tbl [(489, yz.fs N), (468, y6.fs N), (470, yM.fs N), (485, yo.fs N), (486, zq.fs N), (477, yi.fs N), (478, zd.fs N), (429, zAW.fs N), (441, zAH.fs N), (446, zAD.fs N), (488, zAS.fs N)] noFS)
def laws_FnExactWaitUntil.F (N : Nat) (x : D9_34 × Int) : Option Bool := XFunc.run laws_FnExactWaitUntil.x (laws_FnExactWaitUntil.env N) N x
def laws_FnExactWaitUntil.fs (N : Nat) : FS := fS laws_FnExactWaitUntil.x true (laws_FnExactWaitUntil.F N)
theorem laws_FnExactWaitUntil.F_eq (N : Nat) (aD : D9_34) (aTime : Int) : laws_FnExactWaitUntil.F N (aD, aTime) =
bindO (zAW.F N (aD, 1048576)) fun r1 =>
bif decide (r1 < 0) then
some true
else
bindO (zAH.F N aD) fun r2 =>
bindO (zAS.F N (r2, aTime)) fun r3 =>
bindO (zAD.H N aD (hhide ([] : List HRow))) fun r4 =>
bif (List.all r4.1.1.1.2 (Ty.unok (yw ([] : List HRow) r4.2) T5_34)) && (List.all r4.1.1.2.1 (Ty.unok (yw ([] : List HRow) r4.2) (.hnd zCR))) then
bindO (yz.H N ((((r4.1.1.1.1, List.map (Ty.unden (yw ([] : List HRow) r4.2) T5_34) r4.1.1.1.2), (List.map (Ty.unden (yw ([] : List HRow) r4.2) (.hnd zCR)) r4.1.1.2.1, r4.1.1.2.2)), r4.1.2), aTime) (hhide (yw ([] : List HRow) r4.2))) fun r5 =>
let y0 := (yw (yw ([] : List HRow) r4.2) r5.2)
bif (List.all r5.1.1.1.1.2 (Ty.unok y0 T5_34)) && (List.all r5.1.1.1.2.1 (Ty.unok y0 (.hnd zCR))) then
bindO (y6.F N ((((r5.1.1.1.1.1, List.map (Ty.unden y0 T5_34) r5.1.1.1.1.2), (List.map (Ty.unden y0 (.hnd zCR)) r5.1.1.1.2.1, r5.1.1.1.2.2)), r5.1.1.2), r3.1)) fun r6 =>
bif !r6 then
some false
else
bif List.all r5.1.2.1 (Ty.unok y0 T3_34) then
bindO (yM.F N (List.map (Ty.unden y0 T3_34) r5.1.2.1, r3.2.1)) fun r7 =>
bif !r7 then
some false
else
bif r5.1.2.2 != r3.2.2 then
some false
else
bindO (zAH.F N aD) fun r8 =>
bif (List.all r4.1.1.1.2 (Ty.unok y0 T5_34)) && (List.all r4.1.1.2.1 (Ty.unok y0 (.hnd zCR))) then
bindO (y6.F N ((((r4.1.1.1.1, List.map (Ty.unden y0 T5_34) r4.1.1.1.2), (List.map (Ty.unden y0 (.hnd zCR)) r4.1.1.2.1, r4.1.1.2.2)), r4.1.2), r8)) fun r9 =>
bif !r9 then
some false
else
bindO (yi.H N (r4.1, 1) y0) fun r10 =>
bif decide (r10.1.1 < 0) then
some false
else
bif (List.all r5.1.1.1.1.2 (Ty.unok r10.2 T5_34)) && (List.all r5.1.1.1.2.1 (Ty.unok r10.2 (.hnd zCR))) then
bindO (y6.F N ((((r5.1.1.1.1.1, List.map (Ty.unden r10.2 T5_34) r5.1.1.1.1.2), (List.map (Ty.unden r10.2 (.hnd zCR)) r5.1.1.1.2.1, r5.1.1.1.2.2)), r5.1.1.2), r3.1)) fun r11 =>
bif !r11 then
some false
else
bif List.all r5.1.2.1 (Ty.unok r10.2 T3_34) then
bindO (yM.F N (List.map (Ty.unden r10.2 T3_34) r5.1.2.1, r3.2.1)) fun r12 =>
bif !r12 then
some false
else
bif r5.1.2.2 != r3.2.2 then
some false
else
bindO (yi.H N (r5.1.1, 1) r10.2) fun r13 =>
bindO (zd.H N (r5.1.2.1, r13.1.1) r13.2) fun r14 =>
bif (List.all r5.1.1.1.1.2 (Ty.unok r14.2 T5_34)) && (List.all r5.1.1.1.2.1 (Ty.unok r14.2 (.hnd zCR))) then
bindO (yo.F N ((((r5.1.1.1.1.1, List.map (Ty.unden r14.2 T5_34) r5.1.1.1.1.2), (List.map (Ty.unden r14.2 (.hnd zCR)) r5.1.1.1.2.1, (r5.1.1.1.2.2.1, (r13.1.2.1, r5.1.1.1.2.2.2.2)))), (r5.1.1.2.1, (r13.1.2.2, r5.1.1.2.2.2))), 1)) fun r15 =>
bif decide (r15 < 0) then
some false
else
bif List.all r14.1.2 (Ty.unok r14.2 T3_34) then
bindO (zq.F N (List.map (Ty.unden r14.2 T3_34) r14.1.2, r15)) fun r16 =>
bif decide (r16 < 0) then
some false
else
bif r16 != r14.1.1 then
some false
else
bindO (zAH.F N aD) fun r17 =>
bindO (yz.H N (r17, aTime) (hhide r14.2)) fun r18 =>
bif (List.all r18.1.1.1.1.2 (Ty.unok (yw r14.2 r18.2) T5_34)) && (List.all r18.1.1.1.2.1 (Ty.unok (yw r14.2 r18.2) (.hnd zCR))) then
bindO (y6.F N ((((r18.1.1.1.1.1, List.map (Ty.unden (yw r14.2 r18.2) T5_34) r18.1.1.1.1.2), (List.map (Ty.unden (yw r14.2 r18.2) (.hnd zCR)) r18.1.1.1.2.1, r18.1.1.1.2.2)), r18.1.1.2), r3.1)) fun r19 =>
bif !r19 then
some false
else
bif List.all r18.1.2.1 (Ty.unok (yw r14.2 r18.2) T3_34) then
bindO (yM.F N (List.map (Ty.unden (yw r14.2 r18.2) T3_34) r18.1.2.1, r3.2.1)) fun r20 =>
bif !r20 then
some false
else
bif r18.1.2.2 != r3.2.2 then
some false
else
bif (List.all r5.1.1.1.1.2 (Ty.unok (yw r14.2 r18.2) T5_34)) && (List.all r5.1.1.1.2.1 (Ty.unok (yw r14.2 r18.2) (.hnd zCR))) then
bindO (yo.F N ((((r5.1.1.1.1.1, List.map (Ty.unden (yw r14.2 r18.2) T5_34) r5.1.1.1.1.2), (List.map (Ty.unden (yw r14.2 r18.2) (.hnd zCR)) r5.1.1.1.2.1, (r5.1.1.1.2.2.1, (r13.1.2.1, r5.1.1.1.2.2.2.2)))), (r5.1.1.2.1, (r13.1.2.2, r5.1.1.2.2.2))), 1)) fun r21 =>
bif decide (r21 < 0) then
some false
else
bif List.all r14.1.2 (Ty.unok (yw r14.2 r18.2) T3_34) then
bindO (zq.F N (List.map (Ty.unden (yw r14.2 r18.2) T3_34) r14.1.2, r21)) fun r22 =>
bif decide (r22 < 0) then
some false
else
bif r22 != r14.1.1 then
some false
else
some true
else none
else none
else none
else none
else none
else none
else none
else none
else none
else none
else none
else none := by kernel_rfl
end Go.Kb
namespace Go.Kb
set_option maxRecDepth 100000
theorem FnExactWaitUntil_true (d : Dcd) (en : Int) (h : wellD d) : laws_FnExactWaitUntil.F 4000000 (d, en) = some true := by
 generalize hNN : (4000000 : Nat) = N
 have hN : 3999999 < N := by omega
 rw [laws_FnExactWaitUntil.F_eq]
 obtain ⟨r, e, e1, e2, e3⟩ := szD N (by omega) d h
 rw [e, bindV]
 by_cases c1 : r < 0
 ·rw [dT c1, condT]
 rw [dF c1, condF]
 obtain ⟨hE, hq⟩ := e3 (by omega)
 have tD := toD N (by omega) d hE hq
 have sp : zAS.F N (d, en) = some (ply d [] en) := by rw [zAS.F_eq, play_spec N (by omega) d ⟨hE, hq⟩ [] (by simp) en, bindV]
 have ph : ∀ D, QO D (ply d [] en) (yz.H N (d, en) D) := by
  intro D
  obtain ⟨hs, gs, A, E, e, p, o⟩ := (playh_eq N (by omega) d ⟨hE, hq⟩ [] (by simp) en (hhide D)).call
  rw [yz.H_eq, e, bindV]
  exact ⟨hs, gs, A, _, rfl, p, o⟩
 obtain ⟨⟨vE, vq⟩, vl, vr⟩ := ply_small d [] en
 generalize ply d [] en = V at sp ph vE vq vl vr
 have eD := eqD N (by omega) d hE hq
 have eV := eqD N (by omega) V.1 vE vq
 have eS := eqSents N (by omega) V.2.1 (by omega) (fun s hs => by have := vr s hs; omega)
 obtain ⟨hs, gs, E1, t1, o1⟩ := toDh N (by omega) d hE hq (hhide [])
 obtain ⟨p1, m, m1, m2, oh, og⟩ := o1.call
 rw [tD, bindV, sp, bindV, t1, bindV]
 dsimp only
 generalize yw [] E1 = D1 at p1 m2 oh og
 rw [oh.unok, og.unok, Bool.and_self, condT, oh.unA, og.unS]
 simp only [pEta]
 obtain ⟨hs2, gs2, A, E2, t2, p2, po⟩ := (ph (hhide D1)).call
 rw [t2, bindV]
 dsimp only
 generalize yw D1 E2 = D2 at p2 po
 obtain ⟨u1, u2, u3⟩ := po.acts
 rw [u1, condT, u2, u3]
 simp only [pEta]
 rw [eV, bindV, notT, condF, po.sents.unok, condT, po.sents.un, eS, bindV, notT, condF, bneSB, condF, bindV]
 have oh2 := oh.more p2
 have og2 := og.more p2
 rw [oh2.unok, og2.unok, Bool.and_self, condT, oh2.unA, og2.unS]
 simp only [pEta]
 rw [eD, bindV, notT, condF]
 -- the arguments are marked
 obtain ⟨k1, hl1, q1, vs1, ws1, D3, a1, a2, a3, a4, _⟩ := markD N (by omega) d hE hq m1 m2 oh2 og2
 rw [a1, bindV]
 dsimp only
 rw [dF (show ¬ k1 < 0 by omega), condF]
 have po3 := po.later a4
 obtain ⟨u4, u5, u6⟩ := po3.acts
 rw [u4, condT, u5, u6]
 simp only [pEta]
 rw [eV, bindV, notT, condF, po3.sents.unok, condT, po3.sents.un, eS, bindV, notT, condF, condF]
 -- the results are marked
 obtain ⟨a, mm, b, A1, A2, V1, V2, n1, n2, n3, n4, x1, x2, eA, eVV, s1, s2⟩ := po3
 obtain ⟨k3, hl3, q3, vs3, ws3, D4, c3, c4, c5, c6, c7, c8, c9⟩ := markD N (by omega) V.1 vE vq n2 n3 x1 x2
 have s3 := s1.apart c6 (Or.inl (nR _))
 have s4 := s2.apart c6 (Or.inr (nR _))
 obtain ⟨k4, B1, B2, W1, W2, D5, g1, g2, g3, g4, g5, g6⟩ := markS N (by omega) (show a <= b by omega) k3 (by rw [<- eVV]; exact fun s hs => by have := vr s hs; omega) (by rw [<- eVV]; omega) c4 c5 s3 s4
 rw [c3, bindV]
 dsimp only
 rw [eA, g1, bindV]
 dsimp only
 have x3 : Own (u := tA) 8 D5 a mm hs2 vs3 := c7.same fun k h1 h2 => g2.2 k (by omega) (by omega)
 have x4 : Own (u := tS) 10 D5 mm b gs2 ws3 := c8.same fun k h1 h2 => g2.2 k (by omega) (by omega)
 have d5 : D5.length = D3.length := g2.1.trans c6.1
 have s5 := g3.append (g4.mono (show a <= b by omega) (nR _)) n1 (by omega)
 rw [x3.unok, x4.unok, Bool.and_self, condT, x3.unA, x4.unS, c9, bindV, dF (show ¬ k3 < 0 by omega), condF, s5.unok, condT, s5.un, g6, bindV, dF (show ¬ k4 < 0 by omega), condF, bneSelf, condF, bindV]
 -- once more
 obtain ⟨hs6, gs6, A6, E6, t6, p6, po6⟩ := (ph (hhide D5)).call
 rw [t6, bindV]
 dsimp only
 generalize yw D5 E6 = D6 at p6 po6
 obtain ⟨u7, u8, u9⟩ := po6.acts
 rw [u7, condT, u8, u9]
 simp only [pEta]
 rw [eV, bindV, notT, condF, po6.sents.unok, condT, po6.sents.un, eS, bindV, notT, condF, bneSB, condF]
 have x5 := x3.more p6
 have x6 := x4.more p6
 have s6 := s5.more p6
 rw [x5.unok, x6.unok, Bool.and_self, condT, x5.unA, x6.unS, c9, bindV, dF (show ¬ k3 < 0 by omega), condF, s6.unok, condT, s6.un, g6, bindV, dF (show ¬ k4 < 0 by omega), condF, bneSelf, condF]
end Go.Kb
