/- PlayEvents answers as the reference does, in memory of its own. -/
import Derived.Test.YticidpdbkjgebabGreatExactFeedEventP125toP126
import Derived.Test.YticidpdbkjgebabGreatExactFeedEventP0toF3
import Derived.Test.YticidpdbkjgebabGreatExactFeedEventF4
import Derived.Test.YticidpdbkjgebabGreatExactFeedEventP15toP90
import Derived.Test.YticidpdbkjgebabGreatExactFeedEventP93toF8
import Derived.Test.YticidpdbkjgebabGreatExactFeedEventF30
import Derived.Test.YticidpdbkjgebabGreatExactFeedEventF33
import Derived.KernelRfl
namespace Go.Kb
set_option maxRecDepth 100000
theorem zCO.call {D E : List HRow} {hs gs : List Hnd} {A : List SH} {d : Dcd} {V : List Snt} (h : zCO (hhide D).length E hs gs A d V) (p : hhide D <+: E) : zCO D.length (yw D E) hs gs A d V := by
 obtain ⟨a, m, b, A1, A2, V1, V2, l1, l2, l3, l4, o1, o2, eA, eV, s1, s2⟩ := h
 rw [hide_len] at l1 s1
 obtain ⟨_, q2, _⟩ := hide_more p
 refine ⟨a, m, b, A1, A2, V1, V2, l1, l2, l3, by omega, o1.shown p l1, o2.shown p (by omega), eA, eV, s1.shown p (nR _), ?_⟩
 rw [q2]
 exact s2.shown p (by omega)
theorem QO.call {D : List HRow} {V : Dcd × List Snt × Bool} {r : Option ((HDcd × List SH × Bool) × List HRow)} (h : QO (hhide D) V r) :
  ∃ hs gs A E, r = some (((((V.1.1.1.1, hs), (gs, V.1.1.2.2)), V.1.2), (A, V.2.2)), E) /\ D <+: yw D E /\ zCO D.length (yw D E) hs gs A V.1 V.2.1 := by
 obtain ⟨hs, gs, A, E, e, p, o⟩ := h
 exact ⟨hs, gs, A, E, e, (hide_more p).1, o.call p⟩
theorem zCO.sents {lo : Nat} {D : List HRow} {hs gs : List Hnd} {A : List SH} {d : Dcd} {V : List Snt} (h : zCO lo D hs gs A d V) : OwnS D lo D.length A V := by
 obtain ⟨a, m, b, A1, A2, V1, V2, l1, l2, l3, l4, o1, o2, eA, eV, s1, s2⟩ := h
 rw [eA, eV]
 exact s1.append (s2.mono (by omega) (nR _)) l1 (by omega)
theorem zCO.acts {lo : Nat} {D : List HRow} {hs gs : List Hnd} {A : List SH} {d : Dcd} {V : List Snt} (h : zCO lo D hs gs A d V) : (List.all hs (Ty.unok D (.hnd tA)) && List.all gs (Ty.unok D (.hnd tS))) = true /\ (List.map (Ty.unden D (.hnd tA)) hs : List (List (Int × Int × Int × Int))) = d.1.1.2 /\ (List.map (Ty.unden D (.hnd tS)) gs : List (List (Int × Int × Int))) = d.1.2.1 := by
 obtain ⟨a, m, b, A1, A2, V1, V2, l1, l2, l3, l4, o1, o2, _⟩ := h
 exact ⟨by rw [o1.unok, o2.unok]; rfl, o1.unA, o2.unS⟩
theorem zCO.later {lo : Nat} {D D' : List HRow} {hs gs : List Hnd} {A : List SH} {d : Dcd} {V : List Snt} (h : zCO lo D hs gs A d V) (hf : Fr 0 lo D D') : zCO lo D' hs gs A d V := by
 obtain ⟨a, m, b, A1, A2, V1, V2, l1, l2, l3, l4, o1, o2, eA, eV, s1, s2⟩ := h
 refine ⟨a, m, b, A1, A2, V1, V2, l1, l2, l3, by rw [hf.1]; exact l4, o1.apart hf (Or.inr l1), o2.apart hf (Or.inr (by omega)), eA, eV, s1.apart hf (Or.inr (nR _)), ?_⟩
 rw [hf.1]
 exact s2.apart hf (Or.inr (by omega))
theorem ply_small (d : Dcd) (l : List Ev) (en : Int) : smallD (ply d l en).1 /\ (ply d l en).2.1.length <= 1088 /\ ∀ s ∈ (ply d l en).2.1, s.2.2.length <= 56 := by
 by_cases hp : plyB d l en = true
 ·have hP := (plyB_iff d l en).1 hp
  have u := hP.upTo
  rw [ply_ok hP]
  exact ⟨u.sm, u.len, u.rep⟩
 ·have hp : plyB d l en = false := by rw [Bool.eq_false_iff]; exact hp
  unfold ply
  rw [hp]
  refine ⟨⟨⟨⟨?_, ?_⟩, ⟨?_, ?_⟩, ?_⟩, ?_⟩, ?_, ?_⟩ <;> simp [zeroD, zeroE]
theorem bneSB (b : Bool) : (b != b) = false := by cases b <;> rfl
end Go.Kb
namespace Go.Kb
abbrev T1_34 : Ty := .pair (.pair (.pair (.int .i64) (.list (.list (.pair (.int .i64) (.pair (.int .i64) (.pair (.int .i64) (.int .i64))))))) (.pair (.list (.list (.pair (.int .i64) (.pair (.int .i64) (.int .i64))))) (.pair (.int .i64) (.pair (.list (.pair (.int .i64) (.pair (.int .i64) (.pair (.int .i64) (.pair (.int .i64) (.int .i64)))))) (.pair (.int .i64) (.bool)))))) (.pair (.pair (.int .i64) (.pair (.int .i64) (.int .i64))) (.pair (.list (.pair (.int .i64) (.pair (.int .i64) (.bool)))) (.pair (.int .i64) (.pair (.int .i64) (.pair (.int .i64) (.int .i64))))))
abbrev zCR : Ty := .pair (.int .i64) (.pair (.int .i64) (.int .i64))
abbrev T3_34 : Ty := .pair (.int .i64) (.pair (.int .i64) (.hnd (.int .i64)))
abbrev T4_34 : Ty := .pair (.pair (.pair (.int .i64) (.list (.hnd (.pair (.int .i64) zCR)))) (.pair (.list (.hnd zCR)) (.pair (.int .i64) (.pair (.list (.pair (.int .i64) (.pair (.int .i64) zCR))) (.pair (.int .i64) (.bool)))))) (.pair zCR (.pair (.list (.pair (.int .i64) (.pair (.int .i64) (.bool)))) (.pair (.int .i64) zCR)))
abbrev T5_34 : Ty := .hnd (.pair (.int .i64) zCR)
abbrev T6_34 : Ty := .pair (.int .i64) (.pair (.int .i64) (.bool))
abbrev T7_34 : Ty := .pair (.list (.pair (.int .i64) (.pair (.int .i64) (.list (.int .i64))))) (.bool)
abbrev D8_34 : Type := (Int × List (List (Int × Int × Int × Int))) × (List (List (Int × Int × Int))) × Int × (List (Int × Int × Int × Int × Int)) × Int × Bool
abbrev D9_34 : Type := D8_34 × (Int × Int × Int) × (List (Int × Int × Bool)) × Int × Int × Int × Int
abbrev D10_34 : Type := ((((Int × List Hnd) × (List Hnd) × Int × (List (Int × Int × Int × Int × Int)) × Int × Bool) × (Int × Int × Int) × (List (Int × Int × Bool)) × Int × Int × Int × Int) × (List (Int × Int × Hnd)) × Bool) × List HRow
def zAU.x : XFunc := xF 23 5 [.val true 15, .val true 3] (no 18) [.var 4 true 15, .tmp 5 false 1, .tmp 6 false 1] (iF 17) false (.pair T1_34 T6_34) (.pair T1_34 T7_34) <| .seq (rG [ow 2 (.box 0) [.slot 0] [0] [0], ow 3 (.box 1) [.slot 1] [1] [1], ow 4 (.alloc 2 [cZ, .nil, .nil, cZ, .nil, cZ, .bool false, cZ, cZ, cZ, .nil, cZ, cZ, cZ, cZ]) [] [2] [2], op 5 .move [.const (.one (.nil))], op 6 .move [cB false]]) (.seq (rG [lU 11 15 2 0, lU 12 3 3 1, o1 13 (.buildSlice true 3 4 T6_34 1 [(0, 3)] [cZ, cZ, .bool false]) 12, fA 14 0 3, lN 15 14 1, op 16 (.call ⟨320, [.val true 15, .val false 1, .val false 1], no 17, [.val true 15, .val false 1, .val false 1], ims 17, false⟩) (sl [11, 13, 15]), mv 10 16, eX 17 0 10, eX 18 1 10, eX 19 2 10, ow 7 (.alloc 4 [cZ, .nil, .nil, cZ, .nil, cZ, .bool false, cZ, cZ, cZ, .nil, cZ, cZ, cZ, cZ]) [] [4] [4], sT 15 7 17 4, mv 8 18, mv 9 19]) (.seq (rG [lU 20 15 7 4, mv 21 8, mv 22 9, sT 15 4 20 2, mv 5 21, mv 6 22]) (.ret)))
def zAU.env (N : Nat) : Env := envOf (tbl [(320, zAB.fs N)] noFS)
def zAU.F (N : Nat) (x : D9_34 × Int × Int × Bool) : Option (D9_34 × (List (Int × Int × List Int)) × Bool) := XFunc.run zAU.x (zAU.env N) N x
def zAU.fs (N : Nat) : FS := fS zAU.x false (zAU.F N)
theorem zAU.F_eq (N : Nat) (d : D9_34) (e : Int × Int × Bool) : zAU.F N (d, e) =
bindO (zAB.F N (d, (([e] : List (Int × Int × Bool)), e.1))) fun r1 =>
some r1 := by kernel_rfl
def yz.x : XFunc := { nslots := 16, nobj := 7, pars := [.val true 15, .val true 3], rowsIn := no 18, rets := [.var 4 true 15, .tmp 5 false 1, .tmp 6 false 1], outs := [.imm, .imm, .imm, .imm, .own 15, .imm, .imm, .imm, .imm, .imm, .own 4, .imm, .imm, .imm, .imm, .own 13, .imm], fresh := true, arg := .pair T1_34 T6_34, ret := .pair T4_34 (.pair (.list T3_34) (.bool)), body := .seq (rG [ow 2 (.box 0) [.slot 0] [0] [0], ow 3 (.box 1) [.slot 1] [1] [1], ow 4 (.alloc 2 [cZ, .nil, .nil, cZ, .nil, cZ, .bool false, cZ, cZ, cZ, .nil, cZ, cZ, cZ, cZ]) [] [2] [2], op 5 .move [.const (.one (.nil))], op 6 .move [cB false]]) (.seq (rG [lU 7 15 2 0, lU 8 3 3 1, ow 9 (.buildSlice false 3 4 T6_34 1 [(0, 3)] [cZ, cZ, .bool false]) [.slot 8] [3] [3], fA 10 0 3, lN 11 10 1, ow 12 (.callH false ⟨458, [.val true 15, .val false 1, .val false 1], no 17, [.val true 15, .val false 1, .val false 1], [.imm, .imm, .imm, .imm, .own 5 15, .imm, .imm, .imm, .imm, .imm, .own 4 4, .imm, .imm, .imm, .imm, .own 6 13, .imm], true⟩) (sl [7, 9, 11]) [3, 4, 5, 6, 100] [4, 5, 6, 100], eX 13 0 12, eX 14 1 12, eX 15 2 12, sT 15 4 13 2, mv 5 14, mv 6 15]) (.ret)), hp := true }
def yz.env (N : Nat) : Env := envOf (tbl [(458, zS.fs N)] noFS)
def yz.H (N : Nat) (x : D9_34 × Int × Int × Bool) (D : List HRow) : Option D10_34 := XFunc.runH yz.x (yz.env N) N x D
def yz.fs (N : Nat) : FS := { arg := yz.x.arg, ret := yz.x.ret, fresh := true, F := fun _ => none, hp := true, H := yz.H N }
theorem yz.H_eq (N : Nat) (d : D9_34) (e : Int × Int × Bool) (D : List HRow) : yz.H N (d, e) D =
bindO (zS.H N (d, (([e] : List (Int × Int × Bool)), e.1)) (hhide D)) fun r1 =>
some (r1.1, yw D r1.2) := by kernel_rfl
def laws_FnExactFeedEvent.x : XFunc := xF 141 11 [.val true 15, .val true 3] (no 18) [.tmp 4 false 1] [.imm] true (.pair T1_34 T6_34) .bool <| .seq (rG [ow 2 (.box 0) [.slot 0] [0] [0], ow 3 (.box 1) [.slot 1] [1] [1], op 4 .move [cB false]]) (.seq (rG [op 5 .move [cI 1048576]]) (.seq (rG [lU 19 15 2 0, mv 20 5, o2 21 (cO 429 [.val true 15, .val false 1] 16 true) 19 20, mv 5 21]) (.seq (.seq (rG [mv 22 5, op 23 (.bin .lss) [.slot 22, cI 0]]) (rI 23 4 true)) (.seq (.region true [lU 25 15 2 0, o1 26 (.call ⟨441, [.val true 15], no 15, [.val true 15], ims 15, true⟩) 25, lU 27 3 3 1, o1 28 (.call ⟨128, [.val true 3], no 3, [.val true 3], ims 3, true⟩) 27, o2 29 (.call ⟨491, [.val true 15, .val true 3], no 18, [.val true 15, .val false 1, .val false 1], ims 17, false⟩) 26 28, mv 24 29, eX 30 0 24, eX 31 1 24, eX 32 2 24, ow 6 (.alloc 2 [cZ, .nil, .nil, cZ, .nil, cZ, .bool false, cZ, cZ, cZ, .nil, cZ, cZ, cZ, cZ]) [] [2] [2], sT 15 6 30 2, mv 7 31, mv 8 32]) (.seq (rG [lU 33 15 2 0, ow 34 (.callH false ⟨446, [.val true 15], no 15, [.val true 15], [.imm, .imm, .imm, .imm, .own 5 15, .imm, .imm, .imm, .imm, .imm, .own 6 4, .imm, .imm, .imm, .imm], true⟩) [.slot 33] [5, 6, 100] [5, 6, 100], ow 9 (.alloc 3 [cZ, .nil, .nil, cZ, .nil, cZ, .bool false, cZ, cZ, cZ, .nil, cZ, cZ, cZ, cZ]) [] [3] [3], sT 15 9 34 3]) (.seq (.region true [lU 36 15 9 3, lU 37 3 3 1, o1 38 (.call ⟨128, [.val true 3], no 3, [.val true 3], ims 3, true⟩) 37, ow 39 (.callH false ⟨492, [.val true 15, .val true 3], no 18, [.val true 15, .val false 1, .val false 1], [.imm, .imm, .imm, .imm, .own 7 15, .imm, .imm, .imm, .imm, .imm, .own 8 4, .imm, .imm, .imm, .imm, .own 9 13, .imm], true⟩) (sl [36, 38]) [5, 6, 7, 8, 9, 100] [7, 8, 9, 100], mv 35 39, eX 40 0 35, eX 41 1 35, eX 42 2 35, ow 10 (.alloc 4 [cZ, .nil, .nil, cZ, .nil, cZ, .bool false, cZ, cZ, cZ, .nil, cZ, cZ, cZ, cZ]) [] [4] [4], sT 15 10 40 4, mv 11 41, mv 12 42]) (.seq (.seq (rG [lU 43 15 10 4, lU 44 15 6 2, ow 45 (cO 468 [.val true 15, .val true 15] 30 true) (sl [43, 44]) [7, 8, 100] [], o1 46 .not 45, sX 47 [.slot 46], gM 48 11 47 false, gM 49 7 47 false, ⟨some 50, cO 470 (vs 2) 2 true, (sl [48, 49]), [9, 100], [], some (47, false), false, .none⟩, gX 51 .not [.slot 50] [] [] 47 false, op 52 .pick [.slot 47, cB true, .slot 51], sX 53 [.slot 52], gM 54 12 53 false, gM 55 8 53 false, gX 56 (.eqBool true) (sl [54, 55]) [] [] 53 false, op 57 .pick [.slot 53, cB true, .slot 56]]) (rI 57 4 false)) (.seq (.seq (.region true [lU 58 15 9 3, lU 59 15 2 0, o1 60 (.call ⟨441, [.val true 15], no 15, [.val true 15], ims 15, true⟩) 59, ow 61 (cO 468 [.val true 15, .val true 15] 30 true) (sl [58, 60]) [5, 6, 100] [], o1 62 .not 61]) (rI 62 4 false)) (.seq (rG [op 13 .move [cI 1]]) (.seq (rG [lU 63 15 9 3, mv 64 13, ow 65 (.callH true ⟨477, [.val true 15, .val false 1], [none, none, none, none, some (5, 15), none, none, none, none, none, some (6, 4), none, none, none, none, none], [.val false 1], [.imm, .back 5, .back 6], false⟩) (sl [63, 64]) [5, 6, 100] [5, 6, 100], mv 13 65]) (.seq (.seq (rG [mv 66 13, op 67 (.bin .lss) [.slot 66, cI 0], sX 68 [.slot 67], gX 69 (.load true 15) [.slot 10] [4] [] 68 false, gX 70 (.load true 15) [.slot 6] [2] [] 68 false, ⟨some 71, cO 468 [.val true 15, .val true 15] 30 true, (sl [69, 70]), [7, 8, 100], [], some (68, false), false, .none⟩, gX 72 .not [.slot 71] [] [] 68 false, op 73 .pick [.slot 68, cB true, .slot 72], sX 74 [.slot 73], gM 75 11 74 false, gM 76 7 74 false, ⟨some 77, cO 470 (vs 2) 2 true, (sl [75, 76]), [9, 100], [], some (74, false), false, .none⟩, gX 78 .not [.slot 77] [] [] 74 false, op 79 .pick [.slot 74, cB true, .slot 78], sX 80 [.slot 79], gM 81 12 80 false, gM 82 8 80 false, gX 83 (.eqBool true) (sl [81, 82]) [] [] 80 false, op 84 .pick [.slot 80, cB true, .slot 83]]) (rI 84 4 false)) (.seq (rG [op 14 .move [cI 1]]) (.seq (rG [lU 85 15 10 4, mv 86 14, ow 87 (.callH true ⟨477, [.val true 15, .val false 1], [none, none, none, none, some (7, 15), none, none, none, none, none, some (8, 4), none, none, none, none, none], [.val false 1], [.imm, .back 7, .back 8], false⟩) (sl [85, 86]) [7, 8, 100] [7, 8, 100], mv 14 87]) (.seq (rG [mv 88 11, mv 89 14, ow 90 (.callH true ⟨478, vs 2, [some (9, 13), none], [.val false 1], [.imm, .back 9], false⟩) (sl [88, 89]) [9, 100] [9, 100], mv 14 90]) (.seq (rG [op 15 .move [cI 1]]) (.seq (rG [lU 91 15 10 4, mv 92 15, ow 93 (cO 485 [.val true 15, .val false 1] 16 true) (sl [91, 92]) [7, 8, 100] [], mv 15 93]) (.seq (.seq (rG [mv 94 15, op 95 (.bin .lss) [.slot 94, cI 0]]) (rI 95 4 false)) (.seq (rG [mv 96 11, mv 97 15, ow 98 (cO 486 (vs 2) 2 true) (sl [96, 97]) [9, 100] [], mv 15 98]) (.seq (.seq (rG [mv 99 15, op 100 (.bin .lss) [.slot 99, cI 0]]) (rI 100 4 false)) (.seq (.seq (rG [mv 101 15, mv 102 14, o2 103 (.bin .neq) 101 102]) (rI 103 4 false)) (.seq (.region true [lU 105 15 2 0, o1 106 (.call ⟨441, [.val true 15], no 15, [.val true 15], ims 15, true⟩) 105, lU 107 3 3 1, o1 108 (.call ⟨128, [.val true 3], no 3, [.val true 3], ims 3, true⟩) 107, ow 109 (.callH false ⟨492, [.val true 15, .val true 3], no 18, [.val true 15, .val false 1, .val false 1], ims 17, true⟩) (sl [106, 108]) [100] [100], mv 104 109, eX 110 0 104, eX 111 1 104, eX 112 2 104, ow 16 (.alloc 10 [cZ, .nil, .nil, cZ, .nil, cZ, .bool false, cZ, cZ, cZ, .nil, cZ, cZ, cZ, cZ]) [] [10] [10], sT 15 16 110 10, mv 17 111, mv 18 112]) (.seq (.seq (rG [lU 113 15 16 10, lU 114 15 6 2, ow 115 (cO 468 [.val true 15, .val true 15] 30 true) (sl [113, 114]) [100] [], o1 116 .not 115, sX 117 [.slot 116], gM 118 17 117 false, gM 119 7 117 false, ⟨some 120, cO 470 (vs 2) 2 true, (sl [118, 119]), [100], [], some (117, false), false, .none⟩, gX 121 .not [.slot 120] [] [] 117 false, op 122 .pick [.slot 117, cB true, .slot 121], sX 123 [.slot 122], gM 124 18 123 false, gM 125 8 123 false, gX 126 (.eqBool true) (sl [124, 125]) [] [] 123 false, op 127 .pick [.slot 123, cB true, .slot 126]]) (rI 127 4 false)) (.seq (rG [op 15 .move [cI 1]]) (.seq (rG [lU 128 15 10 4, mv 129 15, ow 130 (cO 485 [.val true 15, .val false 1] 16 true) (sl [128, 129]) [7, 8, 100] [], mv 15 130]) (.seq (.seq (rG [mv 131 15, op 132 (.bin .lss) [.slot 131, cI 0]]) (rI 132 4 false)) (.seq (rG [mv 133 11, mv 134 15, ow 135 (cO 486 (vs 2) 2 true) (sl [133, 134]) [9, 100] [], mv 15 135]) (.seq (.seq (rG [mv 136 15, op 137 (.bin .lss) [.slot 136, cI 0]]) (rI 137 4 false)) (.seq (.seq (rG [mv 138 15, mv 139 14, o2 140 (.bin .neq) 138 139]) (rI 140 4 false)) (.seq (rG [op 4 .move [cB true]]) (.ret))))))))))))))))))))))))))))))
def laws_FnExactFeedEvent.env (N : Nat) : Env := envOf (tbl [(492, yz.fs N), (468, y6.fs N), (470, yM.fs N), (485, yo.fs N), (486, zq.fs N), (477, yi.fs N), (478, zd.fs N), (429, zAX.fs N), (441, zAH.fs N), (446, zAD.fs N), (128, zAL.fs N), (491, zAU.fs N)] noFS)
def laws_FnExactFeedEvent.F (N : Nat) (x : D9_34 × Int × Int × Bool) : Option Bool := XFunc.run laws_FnExactFeedEvent.x (laws_FnExactFeedEvent.env N) N x
def laws_FnExactFeedEvent.fs (N : Nat) : FS := fS laws_FnExactFeedEvent.x true (laws_FnExactFeedEvent.F N)
theorem laws_FnExactFeedEvent.F_eq (N : Nat) (aD : D9_34) (aE : Int × Int × Bool) : laws_FnExactFeedEvent.F N (aD, aE) =
bindO (zAX.F N (aD, 1048576)) fun r1 =>
bif decide (r1 < 0) then
some true
else
bindO (zAH.F N aD) fun r2 =>
bindO (zAL.F N aE) fun r3 =>
bindO (zAU.F N (r2, r3)) fun r4 =>
bindO (zAD.H N aD (hhide ([] : List HRow))) fun r5 =>
bindO (zAL.F N aE) fun r6 =>
bif (List.all r5.1.1.1.2 (Ty.unok (yw ([] : List HRow) r5.2) T5_34)) && (List.all r5.1.1.2.1 (Ty.unok (yw ([] : List HRow) r5.2) (.hnd zCR))) then
bindO (yz.H N ((((r5.1.1.1.1, List.map (Ty.unden (yw ([] : List HRow) r5.2) T5_34) r5.1.1.1.2), (List.map (Ty.unden (yw ([] : List HRow) r5.2) (.hnd zCR)) r5.1.1.2.1, r5.1.1.2.2)), r5.1.2), r6) (hhide (yw ([] : List HRow) r5.2))) fun r7 =>
let y0 := (yw (yw ([] : List HRow) r5.2) r7.2)
bif (List.all r7.1.1.1.1.2 (Ty.unok y0 T5_34)) && (List.all r7.1.1.1.2.1 (Ty.unok y0 (.hnd zCR))) then
bindO (y6.F N ((((r7.1.1.1.1.1, List.map (Ty.unden y0 T5_34) r7.1.1.1.1.2), (List.map (Ty.unden y0 (.hnd zCR)) r7.1.1.1.2.1, r7.1.1.1.2.2)), r7.1.1.2), r4.1)) fun r8 =>
bif !r8 then
some false
else
bif List.all r7.1.2.1 (Ty.unok y0 T3_34) then
bindO (yM.F N (List.map (Ty.unden y0 T3_34) r7.1.2.1, r4.2.1)) fun r9 =>
bif !r9 then
some false
else
bif r7.1.2.2 != r4.2.2 then
some false
else
bindO (zAH.F N aD) fun r10 =>
bif (List.all r5.1.1.1.2 (Ty.unok y0 T5_34)) && (List.all r5.1.1.2.1 (Ty.unok y0 (.hnd zCR))) then
bindO (y6.F N ((((r5.1.1.1.1, List.map (Ty.unden y0 T5_34) r5.1.1.1.2), (List.map (Ty.unden y0 (.hnd zCR)) r5.1.1.2.1, r5.1.1.2.2)), r5.1.2), r10)) fun r11 =>
bif !r11 then
some false
else
bindO (yi.H N (r5.1, 1) y0) fun r12 =>
bif decide (r12.1.1 < 0) then
some false
else
bif (List.all r7.1.1.1.1.2 (Ty.unok r12.2 T5_34)) && (List.all r7.1.1.1.2.1 (Ty.unok r12.2 (.hnd zCR))) then
bindO (y6.F N ((((r7.1.1.1.1.1, List.map (Ty.unden r12.2 T5_34) r7.1.1.1.1.2), (List.map (Ty.unden r12.2 (.hnd zCR)) r7.1.1.1.2.1, r7.1.1.1.2.2)), r7.1.1.2), r4.1)) fun r13 =>
bif !r13 then
some false
else
bif List.all r7.1.2.1 (Ty.unok r12.2 T3_34) then
bindO (yM.F N (List.map (Ty.unden r12.2 T3_34) r7.1.2.1, r4.2.1)) fun r14 =>
bif !r14 then
some false
else
bif r7.1.2.2 != r4.2.2 then
some false
else
bindO (yi.H N (r7.1.1, 1) r12.2) fun r15 =>
bindO (zd.H N (r7.1.2.1, r15.1.1) r15.2) fun r16 =>
bif (List.all r7.1.1.1.1.2 (Ty.unok r16.2 T5_34)) && (List.all r7.1.1.1.2.1 (Ty.unok r16.2 (.hnd zCR))) then
bindO (yo.F N ((((r7.1.1.1.1.1, List.map (Ty.unden r16.2 T5_34) r7.1.1.1.1.2), (List.map (Ty.unden r16.2 (.hnd zCR)) r7.1.1.1.2.1, (r7.1.1.1.2.2.1, (r15.1.2.1, r7.1.1.1.2.2.2.2)))), (r7.1.1.2.1, (r15.1.2.2, r7.1.1.2.2.2))), 1)) fun r17 =>
bif decide (r17 < 0) then
some false
else
bif List.all r16.1.2 (Ty.unok r16.2 T3_34) then
bindO (zq.F N (List.map (Ty.unden r16.2 T3_34) r16.1.2, r17)) fun r18 =>
bif decide (r18 < 0) then
some false
else
bif r18 != r16.1.1 then
some false
else
bindO (zAH.F N aD) fun r19 =>
bindO (zAL.F N aE) fun r20 =>
bindO (yz.H N (r19, r20) (hhide r16.2)) fun r21 =>
bif (List.all r21.1.1.1.1.2 (Ty.unok (yw r16.2 r21.2) T5_34)) && (List.all r21.1.1.1.2.1 (Ty.unok (yw r16.2 r21.2) (.hnd zCR))) then
bindO (y6.F N ((((r21.1.1.1.1.1, List.map (Ty.unden (yw r16.2 r21.2) T5_34) r21.1.1.1.1.2), (List.map (Ty.unden (yw r16.2 r21.2) (.hnd zCR)) r21.1.1.1.2.1, r21.1.1.1.2.2)), r21.1.1.2), r4.1)) fun r22 =>
bif !r22 then
some false
else
bif List.all r21.1.2.1 (Ty.unok (yw r16.2 r21.2) T3_34) then
bindO (yM.F N (List.map (Ty.unden (yw r16.2 r21.2) T3_34) r21.1.2.1, r4.2.1)) fun r23 =>
bif !r23 then
some false
else
bif r21.1.2.2 != r4.2.2 then
some false
else
bif (List.all r7.1.1.1.1.2 (Ty.unok (yw r16.2 r21.2) T5_34)) && (List.all r7.1.1.1.2.1 (Ty.unok (yw r16.2 r21.2) (.hnd zCR))) then
bindO (yo.F N ((((r7.1.1.1.1.1, List.map (Ty.unden (yw r16.2 r21.2) T5_34) r7.1.1.1.1.2), (List.map (Ty.unden (yw r16.2 r21.2) (.hnd zCR)) r7.1.1.1.2.1, (r7.1.1.1.2.2.1, (r15.1.2.1, r7.1.1.1.2.2.2.2)))), (r7.1.1.2.1, (r15.1.2.2, r7.1.1.2.2.2))), 1)) fun r24 =>
bif decide (r24 < 0) then
some false
else
bif List.all r16.1.2 (Ty.unok (yw r16.2 r21.2) T3_34) then
bindO (zq.F N (List.map (Ty.unden (yw r16.2 r21.2) T3_34) r16.1.2, r24)) fun r25 =>
bif decide (r25 < 0) then
some false
else
bif r25 != r16.1.1 then
some false
else
some true
else none
else none
else none
else none
else none
else none
else none
else none
else none
else none
else none
else none := by kernel_rfl
end Go.Kb
namespace Go.Kb
set_option maxRecDepth 100000
theorem FnExactFeedEvent_true (d : Dcd) (x : Ev) (h : wellD d) : laws_FnExactFeedEvent.F 4000000 (d, x) = some true := by
 generalize hNN : (4000000 : Nat) = N
 have hN : 3999999 < N := by omega
 rw [laws_FnExactFeedEvent.F_eq]
 obtain ⟨r, e, e1, e2, e3⟩ := szD N (by omega) d h
 rw [e, bindV]
 by_cases c1 : r < 0
 ·rw [dT c1, condT]
 rw [dF c1, condF]
 obtain ⟨hE, hq⟩ := e3 (by omega)
 have tD := toD N (by omega) d hE hq
 have tE := zAL.F_eq N x
 have sp : zAU.F N (d, x) = some (ply d [x] x.1) := by rw [zAU.F_eq, play_spec N (by omega) d ⟨hE, hq⟩ [x] (by simp) x.1, bindV]
 have ph : ∀ D, QO D (ply d [x] x.1) (yz.H N (d, x) D) := by
  intro D
  obtain ⟨hs, gs, A, E, e, p, o⟩ := (playh_eq N (by omega) d ⟨hE, hq⟩ [x] (by simp) x.1 (hhide D)).call
  rw [yz.H_eq, e, bindV]
  exact ⟨hs, gs, A, _, rfl, p, o⟩
 obtain ⟨⟨vE, vq⟩, vl, vr⟩ := ply_small d [x] x.1
 generalize ply d [x] x.1 = V at sp ph vE vq vl vr
 have eD := eqD N (by omega) d hE hq
 have eV := eqD N (by omega) V.1 vE vq
 have eS := eqSents N (by omega) V.2.1 (by omega) (fun s hs => by have := vr s hs; omega)
 obtain ⟨hs, gs, E1, t1, o1⟩ := toDh N (by omega) d hE hq (hhide [])
 obtain ⟨p1, m, m1, m2, oh, og⟩ := o1.call
 rw [tD, bindV, tE, bindV, sp, bindV, t1, bindV, bindV]
 dsimp only
 generalize yw [] E1 = D1 at p1 m2 oh og
 rw [oh.unok, og.unok, Bool.and_self, condT, oh.unA, og.unS]
 simp only [pEta]
 obtain ⟨hs2, gs2, A, E2, t2, p2, po⟩ := (ph (hhide D1)).call
 rw [t2, bindV]
 dsimp only
 generalize yw D1 E2 = D2 at p2 po
 obtain ⟨u1, u2, u3⟩ := po.acts
 rw [u1, condT, u2, u3]
 simp only [pEta]
 rw [eV, bindV, notT, condF, po.sents.unok, condT, po.sents.un, eS, bindV, notT, condF, bneSB, condF, bindV]
 have oh2 := oh.more p2
 have og2 := og.more p2
 rw [oh2.unok, og2.unok, Bool.and_self, condT, oh2.unA, og2.unS]
 simp only [pEta]
 rw [eD, bindV, notT, condF]
 -- the arguments are marked
 obtain ⟨k1, hl1, q1, vs1, ws1, D3, a1, a2, a3, a4, _⟩ := markD N (by omega) d hE hq m1 m2 oh2 og2
 rw [a1, bindV]
 dsimp only
 rw [dF (show ¬ k1 < 0 by omega), condF]
 have po3 := po.later a4
 obtain ⟨u4, u5, u6⟩ := po3.acts
 rw [u4, condT, u5, u6]
 simp only [pEta]
 rw [eV, bindV, notT, condF, po3.sents.unok, condT, po3.sents.un, eS, bindV, notT, condF, condF]
 -- the results are marked
 obtain ⟨a, mm, b, A1, A2, V1, V2, n1, n2, n3, n4, x1, x2, eA, eVV, s1, s2⟩ := po3
 obtain ⟨k3, hl3, q3, vs3, ws3, D4, c3, c4, c5, c6, c7, c8, c9⟩ := markD N (by omega) V.1 vE vq n2 n3 x1 x2
 have s3 := s1.apart c6 (Or.inl (nR _))
 have s4 := s2.apart c6 (Or.inr (nR _))
 obtain ⟨k4, B1, B2, W1, W2, D5, g1, g2, g3, g4, g5, g6⟩ := markS N (by omega) (show a <= b by omega) k3 (by rw [<- eVV]; exact fun s hs => by have := vr s hs; omega) (by rw [<- eVV]; omega) c4 c5 s3 s4
 rw [c3, bindV]
 dsimp only
 rw [eA, g1, bindV]
 dsimp only
 have x3 : Own (u := tA) 8 D5 a mm hs2 vs3 := c7.same fun k h1 h2 => g2.2 k (by omega) (by omega)
 have x4 : Own (u := tS) 10 D5 mm b gs2 ws3 := c8.same fun k h1 h2 => g2.2 k (by omega) (by omega)
 have d5 : D5.length = D3.length := g2.1.trans c6.1
 have s5 := g3.append (g4.mono (show a <= b by omega) (nR _)) n1 (by omega)
 rw [x3.unok, x4.unok, Bool.and_self, condT, x3.unA, x4.unS, c9, bindV, dF (show ¬ k3 < 0 by omega), condF, s5.unok, condT, s5.un, g6, bindV, dF (show ¬ k4 < 0 by omega), condF, bneSelf, condF, bindV, bindV]
 -- once more
 obtain ⟨hs6, gs6, A6, E6, t6, p6, po6⟩ := (ph (hhide D5)).call
 rw [t6, bindV]
 dsimp only
 generalize yw D5 E6 = D6 at p6 po6
 obtain ⟨u7, u8, u9⟩ := po6.acts
 rw [u7, condT, u8, u9]
 simp only [pEta]
 rw [eV, bindV, notT, condF, po6.sents.unok, condT, po6.sents.un, eS, bindV, notT, condF, bneSB, condF]
 have x5 := x3.more p6
 have x6 := x4.more p6
 have s6 := s5.more p6
 rw [x5.unok, x6.unok, Bool.and_self, condT, x5.unA, x6.unS, c9, bindV, dF (show ¬ k3 < 0 by omega), condF, s6.unok, condT, s6.un, g6, bindV, dF (show ¬ k4 < 0 by omega), condF, bneSelf, condF]
end Go.Kb
