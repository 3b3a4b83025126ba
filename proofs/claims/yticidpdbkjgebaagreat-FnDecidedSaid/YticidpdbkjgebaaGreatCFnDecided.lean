/- Each function of the law does what its abstract text does, over the program. -/
import Derived.Test.YticidpdbkjgebaaGreatKc
import Derived.Test.YticidpdbkjgebaaGreatDecidedP0toP4
import Derived.Test.YticidpdbkjgebaaGreatDecidedF3toP75
import Derived.Test.YticidpdbkjgebaaGreatDecidedF4toP29
import Derived.Test.YticidpdbkjgebaaGreatDecidedP94toF8
import Derived.Test.YticidpdbkjgebaaGreatDecidedF30
import Derived.Test.YticidpdbkjgebaaGreatDecidedF31
import Derived.Test.YticidpdbkjgebaaGreatRows
import Derived.Test.YticidpdbkjgebaaGreatShelf
import Derived.Test.YticidpdbkjgebaaGreatKd
import Derived.KernelRfl
namespace Go.Kb
def TM : List (Nat × Nat) := [(2, 3), (1, 5), (16, 9), (6, 41), (12, 43), (13, 45), (4, 48), (8, 50), (9, 95), (15, 98), (11, 135), (10, 171), (14, 173)]
def FM : List (Nat × Nat) := [(31, 7), (236, 72), (237, 33), (32, 75), (33, 35), (46, 77), (102, 115), (159, 154), (149, 179), (150, 156), (1, 55), (283, 161), (284, 131), (285, 136), (286, 132), (287, 162), (288, 163), (289, 140), (290, 133), (291, 95), (418, 98), (419, 58), (294, 155), (295, 114), (169, 117), (296, 96), (57, 76), (297, 57), (40, 97), (41, 56), (298, 54), (292, 98), (293, 58), (299, 116), (300, 73), (176, 74), (301, 135), (302, 164), (303, 134), (304, 137), (305, 139), (306, 165), (307, 166), (308, 186), (309, 183), (310, 167), (311, 142), (312, 184), (313, 168), (277, 169), (314, 170), (315, 141), (316, 138), (317, 99), (318, 100), (319, 59), (320, 22), (321, 34), (322, 36), (48, 37), (323, 8), (153, 44), (154, 86), (155, 87), (156, 47), (163, 83), (65, 85), (164, 46), (165, 128), (166, 88), (167, 48), (172, 49), (173, 41), (68, 120), (69, 79), (70, 40), (71, 38), (174, 14), (161, 118), (162, 119), (171, 78), (178, 39), (179, 121), (114, 180), (201, 181), (202, 182), (203, 157), (204, 123), (205, 89), (206, 50), (207, 122), (208, 80), (209, 12), (210, 84), (211, 45), (212, 11), (157, 13), (213, 81), (214, 124), (158, 125), (215, 158), (216, 126), (217, 159), (218, 127), (219, 82), (220, 42), (221, 43), (222, 9), (81, 15), (343, 16), (344, 17), (225, 18), (226, 90), (227, 91), (228, 51), (84, 52), (345, 19), (346, 4)]
def GB : Nat -> Prop := fun _ => False
def QW : World -> Prop := fun _ => True
theorem hQs : ∀ w w' : World, (∀ b, GB b -> w'.heap[b]? = w.heap[b]?) -> QW w -> QW w' := fun _ _ _ _ => trivial
theorem ext_sort_Ints.sound (N : Nat) : Sound Go.Proofs.Tryz.prog (natTbl TM) GB QW 181 ext_sort_Ints.sig (ext_sort_Ints.fs N) := sort_sound (fun blk off cap zs w h1 h2 h3 => Go.Proofs.Tryz.sort_Ints blk off cap zs w h1 h2 h3) (fun p cap w => Go.Proofs.Tryz.sort_Ints_none p cap w) N
theorem hmix : Go.Proofs.Tryz.prog.follows .mixedOrders = true := by kernel_rfl
noncomputable abbrev EE (l : List (Nat × (Sig × Bool))) : Env1 := mkE Go.Proofs.Tryz.prog GB QW TM FM l
abbrev SD (i : FuncId) (g : Sig) (f : FS) : Prop := Sound Go.Proofs.Tryz.prog (natTbl TM) GB QW i g f
theorem kC {n : Nat} {g : Sig} {fr : Bool} {f : FS} {l : List (Nat × (Sig × Bool))} {r : List (Nat × FS)} {fid : FuncId} (hid : natTbl FM n = fid) (hs : SD fid g f) (hf : (f.fresh && !f.keep) = fr) (hk : Known (EE l) (tbl r noFS)) : Known (EE ((n, (g, fr)) :: l)) (tbl ((n, f) :: r) noFS) := known_cons (fm := FM) hid hs hf hk
theorem zAl.ok : yC (EE []) 7 zAl.x = true := by kernel_rfl
theorem zAl.sound (N : Nat) : SD 7 zAl.x.sig (zAl.fs N) := zY N (zI) hQs hmix zAl.ok
theorem yY.ok : yC (EE []) 72 yY.x = true := by kernel_rfl
theorem yY.sound (N : Nat) : SD 72 yY.x.sig (yY.fs N) := zY N (zI) hQs hmix yY.ok
theorem y4.ok : yC (EE [(236, (yY.x.sig, false))]) 33 y4.x = true := by kernel_rfl
theorem y4.sound (N : Nat) : SD 33 y4.x.sig (y4.fs N) := zY N (kC (n := 236) (by kernel_rfl) (yY.sound N) rfl (zI)) hQs hmix y4.ok
theorem y5.ok : yC (EE []) 75 y5.x = true := by kernel_rfl
theorem y5.sound (N : Nat) : SD 75 y5.x.sig (y5.fs N) := zY N (zI) hQs hmix y5.ok
theorem zC.ok : yC (EE [(32, (y5.x.sig, false))]) 35 zC.x = true := by kernel_rfl
theorem zC.sound (N : Nat) : SD 35 zC.x.sig (zC.fs N) := zY N (kC (n := 32) (by kernel_rfl) (y5.sound N) rfl (zI)) hQs hmix zC.ok
theorem zx.ok : yC (EE [(33, (zC.x.sig, false))]) 77 zx.x = true := by kernel_rfl
theorem zx.sound (N : Nat) : SD 77 zx.x.sig (zx.fs N) := zY N (kC (n := 33) (by kernel_rfl) (zC.sound N) rfl (zI)) hQs hmix zx.ok
theorem ye.ok : yC (EE [(33, (zC.x.sig, false))]) 115 ye.x = true := by kernel_rfl
theorem ye.sound (N : Nat) : SD 115 ye.x.sig (ye.fs N) := zY N (kC (n := 33) (by kernel_rfl) (zC.sound N) rfl (zI)) hQs hmix ye.ok
theorem yD.ok : yC (EE [(33, (zC.x.sig, false)), (102, (ye.x.sig, false)), (46, (zx.x.sig, false))]) 154 yD.x = true := by kernel_rfl
theorem yD.sound (N : Nat) : SD 154 yD.x.sig (yD.fs N) := zY N (kC (n := 33) (by kernel_rfl) (zC.sound N) rfl (kC (n := 102) (by kernel_rfl) (ye.sound N) rfl (kC (n := 46) (by kernel_rfl) (zx.sound N) rfl (zI)))) hQs hmix yD.ok
theorem zAJ.ok : yC (EE [(33, (zC.x.sig, false)), (102, (ye.x.sig, false))]) 179 zAJ.x = true := by kernel_rfl
theorem zAJ.sound (N : Nat) : SD 179 zAJ.x.sig (zAJ.fs N) := zY N (kC (n := 33) (by kernel_rfl) (zC.sound N) rfl (kC (n := 102) (by kernel_rfl) (ye.sound N) rfl (zI))) hQs hmix zAJ.ok
theorem zJ.ok : yC (EE [(33, (zC.x.sig, false)), (102, (ye.x.sig, false)), (149, (zAJ.x.sig, false))]) 156 zJ.x = true := by kernel_rfl
theorem zJ.sound (N : Nat) : SD 156 zJ.x.sig (zJ.fs N) := zY N (kC (n := 33) (by kernel_rfl) (zC.sound N) rfl (kC (n := 102) (by kernel_rfl) (ye.sound N) rfl (kC (n := 149) (by kernel_rfl) (zAJ.sound N) rfl (zI)))) hQs hmix zJ.ok
theorem zS.ok : yC (EE []) 55 zS.x = true := by kernel_rfl
theorem zS.sound (N : Nat) : SD 55 zS.x.sig (zS.fs N) := zY N (zI) hQs hmix zS.ok
theorem yJ.ok : yC (EE [(1, (zS.x.sig, true))]) 161 yJ.x = true := by kernel_rfl
theorem yJ.sound (N : Nat) : SD 161 yJ.x.sig (yJ.fs N) := zY N (kC (n := 1) (by kernel_rfl) (zS.sound N) rfl (zI)) hQs hmix yJ.ok
theorem zE.ok : yC (EE [(283, (yJ.x.sig, true)), (1, (zS.x.sig, true))]) 131 zE.x = true := by kernel_rfl
theorem zE.sound (N : Nat) : SD 131 zE.x.sig (zE.fs N) := zY N (kC (n := 283) (by kernel_rfl) (yJ.sound N) rfl (kC (n := 1) (by kernel_rfl) (zS.sound N) rfl (zI))) hQs hmix zE.ok
theorem z5.ok : yC (EE [(283, (yJ.x.sig, true))]) 136 z5.x = true := by kernel_rfl
theorem z5.sound (N : Nat) : SD 136 z5.x.sig (z5.fs N) := zY N (kC (n := 283) (by kernel_rfl) (yJ.sound N) rfl (zI)) hQs hmix z5.ok
theorem zr.ok : yC (EE [(283, (yJ.x.sig, true)), (285, (z5.x.sig, true)), (1, (zS.x.sig, true))]) 132 zr.x = true := by kernel_rfl
theorem zr.sound (N : Nat) : SD 132 zr.x.sig (zr.fs N) := zY N (kC (n := 283) (by kernel_rfl) (yJ.sound N) rfl (kC (n := 285) (by kernel_rfl) (z5.sound N) rfl (kC (n := 1) (by kernel_rfl) (zS.sound N) rfl (zI)))) hQs hmix zr.ok
theorem zy.ok : yC (EE []) 162 zy.x = true := by kernel_rfl
theorem zy.sound (N : Nat) : SD 162 zy.x.sig (zy.fs N) := zY N (zI) hQs hmix zy.ok
theorem yh.ok : yC (EE []) 163 yh.x = true := by kernel_rfl
theorem yh.sound (N : Nat) : SD 163 yh.x.sig (yh.fs N) := zY N (zI) hQs hmix yh.ok
theorem z9.ok : yC (EE []) 140 z9.x = true := by kernel_rfl
theorem z9.sound (N : Nat) : SD 140 z9.x.sig (z9.fs N) := zY N (zI) hQs hmix z9.ok
theorem zq.ok : yC (EE [(283, (yJ.x.sig, true)), (1, (zS.x.sig, true)), (288, (yh.x.sig, true)), (287, (zy.x.sig, true)), (289, (z9.x.sig, true))]) 133 zq.x = true := by kernel_rfl
theorem zq.sound (N : Nat) : SD 133 zq.x.sig (zq.fs N) := zY N (kC (n := 283) (by kernel_rfl) (yJ.sound N) rfl (kC (n := 1) (by kernel_rfl) (zS.sound N) rfl (kC (n := 288) (by kernel_rfl) (yh.sound N) rfl (kC (n := 287) (by kernel_rfl) (zy.sound N) rfl (kC (n := 289) (by kernel_rfl) (z9.sound N) rfl (zI)))))) hQs hmix zq.ok
theorem zG.ok : yC (EE [(286, (zr.x.sig, true)), (284, (zE.x.sig, true)), (290, (zq.x.sig, true)), (1, (zS.x.sig, true))]) 95 zG.x = true := by kernel_rfl
theorem zG.sound (N : Nat) : SD 95 zG.x.sig (zG.fs N) := zY N (kC (n := 286) (by kernel_rfl) (zr.sound N) rfl (kC (n := 284) (by kernel_rfl) (zE.sound N) rfl (kC (n := 290) (by kernel_rfl) (zq.sound N) rfl (kC (n := 1) (by kernel_rfl) (zS.sound N) rfl (zI))))) hQs hmix zG.ok
theorem z1.ok : yC (EE []) 98 z1.x = true := by kernel_rfl
theorem z1.sound (N : Nat) : SD 98 z1.x.sig (z1.fs N) := sound_ofH N (zI) hQs hmix z1.ok
theorem z0.ok : yC (EE [(418, (z1.x.sig, true))]) 58 z0.x = true := by kernel_rfl
theorem z0.sound (N : Nat) : SD 58 z0.x.sig (z0.fs N) := sound_ofH N (kC (n := 418) (by kernel_rfl) (z1.sound N) rfl (zI)) hQs hmix z0.ok
theorem yx.ok : yC (EE [(291, (zG.x.sig, true)), (419, (z0.x.sig, true))]) 155 yx.x = true := by kernel_rfl
theorem yx.sound (N : Nat) : SD 155 yx.x.sig (yx.fs N) := sound_ofH N (kC (n := 291) (by kernel_rfl) (zG.sound N) rfl (kC (n := 419) (by kernel_rfl) (z0.sound N) rfl (zI))) hQs hmix yx.ok
theorem yT.ok : yC (EE [(294, (yx.x.sig, true)), (33, (zC.x.sig, false)), (150, (zJ.x.sig, false)), (159, (yD.x.sig, false))]) 114 yT.x = true := by kernel_rfl
theorem yT.sound (N : Nat) : SD 114 yT.x.sig (yT.fs N) := sound_ofH N (kC (n := 294) (by kernel_rfl) (yx.sound N) rfl (kC (n := 33) (by kernel_rfl) (zC.sound N) rfl (kC (n := 150) (by kernel_rfl) (zJ.sound N) rfl (kC (n := 159) (by kernel_rfl) (yD.sound N) rfl (zI))))) hQs hmix yT.ok
theorem yr.ok : yC (EE [(33, (zC.x.sig, false)), (46, (zx.x.sig, false))]) 117 yr.x = true := by kernel_rfl
theorem yr.sound (N : Nat) : SD 117 yr.x.sig (yr.fs N) := zY N (kC (n := 33) (by kernel_rfl) (zC.sound N) rfl (kC (n := 46) (by kernel_rfl) (zx.sound N) rfl (zI))) hQs hmix yr.ok
theorem ym.ok : yC (EE [(1, (zS.x.sig, true))]) 96 ym.x = true := by kernel_rfl
theorem ym.sound (N : Nat) : SD 96 ym.x.sig (ym.fs N) := zY N (kC (n := 1) (by kernel_rfl) (zS.sound N) rfl (zI)) hQs hmix ym.ok
theorem y6.ok : yC (EE [(1, (zS.x.sig, true))]) 76 y6.x = true := by kernel_rfl
theorem y6.sound (N : Nat) : SD 76 y6.x.sig (y6.fs N) := zY N (kC (n := 1) (by kernel_rfl) (zS.sound N) rfl (zI)) hQs hmix y6.ok
theorem zm.ok : yC (EE [(57, (y6.x.sig, true))]) 57 zm.x = true := by kernel_rfl
theorem zm.sound (N : Nat) : SD 57 zm.x.sig (zm.fs N) := zY N (kC (n := 57) (by kernel_rfl) (y6.sound N) rfl (zI)) hQs hmix zm.ok
theorem yv.ok : yC (EE [(1, (zS.x.sig, true))]) 97 yv.x = true := by kernel_rfl
theorem yv.sound (N : Nat) : SD 97 yv.x.sig (yv.fs N) := zY N (kC (n := 1) (by kernel_rfl) (zS.sound N) rfl (zI)) hQs hmix yv.ok
theorem zW.ok : yC (EE [(40, (yv.x.sig, true))]) 56 zW.x = true := by kernel_rfl
theorem zW.sound (N : Nat) : SD 56 zW.x.sig (zW.fs N) := zY N (kC (n := 40) (by kernel_rfl) (yv.sound N) rfl (zI)) hQs hmix zW.ok
theorem yU.ok : yC (EE [(291, (zG.x.sig, true)), (296, (ym.x.sig, true)), (41, (zW.x.sig, true)), (297, (zm.x.sig, true)), (1, (zS.x.sig, true))]) 54 yU.x = true := by kernel_rfl
theorem yU.sound (N : Nat) : SD 54 yU.x.sig (yU.fs N) := zY N (kC (n := 291) (by kernel_rfl) (zG.sound N) rfl (kC (n := 296) (by kernel_rfl) (ym.sound N) rfl (kC (n := 41) (by kernel_rfl) (zW.sound N) rfl (kC (n := 297) (by kernel_rfl) (zm.sound N) rfl (kC (n := 1) (by kernel_rfl) (zS.sound N) rfl (zI)))))) hQs hmix yU.ok
theorem yG.ok : yC (EE []) 98 yG.x = true := by kernel_rfl
theorem yG.sound (N : Nat) : SD 98 yG.x.sig (yG.fs N) := zY N (zI) hQs hmix yG.ok
theorem zn.ok : yC (EE [(292, (yG.x.sig, true))]) 58 zn.x = true := by kernel_rfl
theorem zn.sound (N : Nat) : SD 58 zn.x.sig (zn.fs N) := zY N (kC (n := 292) (by kernel_rfl) (yG.sound N) rfl (zI)) hQs hmix zn.ok
theorem yg.ok : yC (EE [(298, (yU.x.sig, true)), (293, (zn.x.sig, true))]) 116 yg.x = true := by kernel_rfl
theorem yg.sound (N : Nat) : SD 116 yg.x.sig (yg.fs N) := zY N (kC (n := 298) (by kernel_rfl) (yU.sound N) rfl (kC (n := 293) (by kernel_rfl) (zn.sound N) rfl (zI))) hQs hmix yg.ok
theorem yF.ok : yC (EE [(299, (yg.x.sig, true)), (169, (yr.x.sig, false)), (33, (zC.x.sig, false)), (102, (ye.x.sig, false)), (295, (yT.x.sig, false))]) 73 yF.x = true := by kernel_rfl
theorem yF.sound (N : Nat) : SD 73 yF.x.sig (yF.fs N) := sound_ofH N (kC (n := 299) (by kernel_rfl) (yg.sound N) rfl (kC (n := 169) (by kernel_rfl) (yr.sound N) rfl (kC (n := 33) (by kernel_rfl) (zC.sound N) rfl (kC (n := 102) (by kernel_rfl) (ye.sound N) rfl (kC (n := 295) (by kernel_rfl) (yT.sound N) rfl (zI)))))) hQs hmix yF.ok
theorem yE.ok : yC (EE [(33, (zC.x.sig, false)), (46, (zx.x.sig, false))]) 74 yE.x = true := by kernel_rfl
theorem yE.sound (N : Nat) : SD 74 yE.x.sig (yE.fs N) := zY N (kC (n := 33) (by kernel_rfl) (zC.sound N) rfl (kC (n := 46) (by kernel_rfl) (zx.sound N) rfl (zI))) hQs hmix yE.ok
theorem zc.ok : yC (EE [(286, (zr.x.sig, true)), (1, (zS.x.sig, true))]) 135 zc.x = true := by kernel_rfl
theorem zc.sound (N : Nat) : SD 135 zc.x.sig (zc.fs N) := zY N (kC (n := 286) (by kernel_rfl) (zr.sound N) rfl (kC (n := 1) (by kernel_rfl) (zS.sound N) rfl (zI))) hQs hmix zc.ok
theorem z3.ok : yC (EE [(284, (zE.x.sig, true)), (1, (zS.x.sig, true))]) 164 z3.x = true := by kernel_rfl
theorem z3.sound (N : Nat) : SD 164 z3.x.sig (z3.fs N) := zY N (kC (n := 284) (by kernel_rfl) (zE.sound N) rfl (kC (n := 1) (by kernel_rfl) (zS.sound N) rfl (zI))) hQs hmix z3.ok
theorem yn.ok : yC (EE [(302, (z3.x.sig, true))]) 134 yn.x = true := by kernel_rfl
theorem yn.sound (N : Nat) : SD 134 yn.x.sig (yn.fs N) := zY N (kC (n := 302) (by kernel_rfl) (z3.sound N) rfl (zI)) hQs hmix yn.ok
theorem zX.ok : yC (EE [(40, (yv.x.sig, true)), (296, (ym.x.sig, true)), (1, (zS.x.sig, true))]) 137 zX.x = true := by kernel_rfl
theorem zX.sound (N : Nat) : SD 137 zX.x.sig (zX.fs N) := zY N (kC (n := 40) (by kernel_rfl) (yv.sound N) rfl (kC (n := 296) (by kernel_rfl) (ym.sound N) rfl (kC (n := 1) (by kernel_rfl) (zS.sound N) rfl (zI)))) hQs hmix zX.ok
theorem z6.ok : yC (EE []) 139 z6.x = true := by kernel_rfl
theorem z6.sound (N : Nat) : SD 139 z6.x.sig (z6.fs N) := zY N (zI) hQs hmix z6.ok
theorem zAM.ok : yC (EE [(285, (z5.x.sig, true))]) 165 zAM.x = true := by kernel_rfl
theorem zAM.sound (N : Nat) : SD 165 zAM.x.sig (zAM.fs N) := zY N (kC (n := 285) (by kernel_rfl) (z5.sound N) rfl (zI)) hQs hmix zAM.ok
theorem zAR.ok : yC (EE [(285, (z5.x.sig, true))]) 166 zAR.x = true := by kernel_rfl
theorem zAR.sound (N : Nat) : SD 166 zAR.x.sig (zAR.fs N) := zY N (kC (n := 285) (by kernel_rfl) (z5.sound N) rfl (zI)) hQs hmix zAR.ok
theorem yj.ok : yC (EE [(1, (zS.x.sig, true))]) 186 yj.x = true := by kernel_rfl
theorem yj.sound (N : Nat) : SD 186 yj.x.sig (yj.fs N) := zY N (kC (n := 1) (by kernel_rfl) (zS.sound N) rfl (zI)) hQs hmix yj.ok
theorem zAV.ok : yC (EE [(308, (yj.x.sig, true))]) 183 zAV.x = true := by kernel_rfl
theorem zAV.sound (N : Nat) : SD 183 zAV.x.sig (zAV.fs N) := zY N (kC (n := 308) (by kernel_rfl) (yj.sound N) rfl (zI)) hQs hmix zAV.ok
theorem y0.ok : yC (EE [(309, (zAV.x.sig, false))]) 167 y0.x = true := by kernel_rfl
theorem y0.sound (N : Nat) : SD 167 y0.x.sig (y0.fs N) := zY N (kC (n := 309) (by kernel_rfl) (zAV.sound N) rfl (zI)) hQs hmix y0.ok
theorem zB.ok : yC (EE [(286, (zr.x.sig, true))]) 142 zB.x = true := by kernel_rfl
theorem zB.sound (N : Nat) : SD 142 zB.x.sig (zB.fs N) := zY N (kC (n := 286) (by kernel_rfl) (zr.sound N) rfl (zI)) hQs hmix zB.ok
theorem zA.ok : yC (EE [(311, (zB.x.sig, true))]) 184 zA.x = true := by kernel_rfl
theorem zA.sound (N : Nat) : SD 184 zA.x.sig (zA.fs N) := zY N (kC (n := 311) (by kernel_rfl) (zB.sound N) rfl (zI)) hQs hmix zA.ok
theorem zK.ok : yC (EE [(286, (zr.x.sig, true)), (290, (zq.x.sig, true)), (288, (yh.x.sig, true)), (287, (zy.x.sig, true)), (312, (zA.x.sig, true)), (289, (z9.x.sig, true))]) 168 zK.x = true := by kernel_rfl
theorem zK.sound (N : Nat) : SD 168 zK.x.sig (zK.fs N) := zY N (kC (n := 286) (by kernel_rfl) (zr.sound N) rfl (kC (n := 290) (by kernel_rfl) (zq.sound N) rfl (kC (n := 288) (by kernel_rfl) (yh.sound N) rfl (kC (n := 287) (by kernel_rfl) (zy.sound N) rfl (kC (n := 312) (by kernel_rfl) (zA.sound N) rfl (kC (n := 289) (by kernel_rfl) (z9.sound N) rfl (zI))))))) hQs hmix zK.ok
theorem zb.ok : yC (EE []) 169 zb.x = true := by kernel_rfl
theorem zb.sound (N : Nat) : SD 169 zb.x.sig (zb.fs N) := zY N (zI) hQs hmix zb.ok
theorem zAL.ok : yC (EE []) 170 zAL.x = true := by kernel_rfl
theorem zAL.sound (N : Nat) : SD 170 zAL.x.sig (zAL.fs N) := zY N (zI) hQs hmix zAL.ok
theorem zQ.ok : yC (EE [(277, (zb.x.sig, true)), (314, (zAL.x.sig, true))]) 141 zQ.x = true := by kernel_rfl
theorem zQ.sound (N : Nat) : SD 141 zQ.x.sig (zQ.fs N) := zY N (kC (n := 277) (by kernel_rfl) (zb.sound N) rfl (kC (n := 314) (by kernel_rfl) (zAL.sound N) rfl (zI))) hQs hmix zQ.ok
theorem zAI.ok : yC (EE [(303, (yn.x.sig, true)), (305, (z6.x.sig, true)), (306, (zAM.x.sig, true)), (291, (zG.x.sig, true)), (301, (zc.x.sig, true)), (313, (zK.x.sig, true)), (311, (zB.x.sig, true)), (307, (zAR.x.sig, true)), (1, (zS.x.sig, true)), (315, (zQ.x.sig, true)), (293, (zn.x.sig, true)), (310, (y0.x.sig, false))]) 138 zAI.x = true := by kernel_rfl
theorem zAI.sound (N : Nat) : SD 138 zAI.x.sig (zAI.fs N) := zY N (kC (n := 303) (by kernel_rfl) (yn.sound N) rfl (kC (n := 305) (by kernel_rfl) (z6.sound N) rfl (kC (n := 306) (by kernel_rfl) (zAM.sound N) rfl (kC (n := 291) (by kernel_rfl) (zG.sound N) rfl (kC (n := 301) (by kernel_rfl) (zc.sound N) rfl (kC (n := 313) (by kernel_rfl) (zK.sound N) rfl (kC (n := 311) (by kernel_rfl) (zB.sound N) rfl (kC (n := 307) (by kernel_rfl) (zAR.sound N) rfl (kC (n := 1) (by kernel_rfl) (zS.sound N) rfl (kC (n := 315) (by kernel_rfl) (zQ.sound N) rfl (kC (n := 293) (by kernel_rfl) (zn.sound N) rfl (kC (n := 310) (by kernel_rfl) (y0.sound N) rfl (zI))))))))))))) hQs hmix zAI.ok
theorem zAC.ok : yC (EE [(303, (yn.x.sig, true)), (304, (zX.x.sig, true)), (285, (z5.x.sig, true)), (301, (zc.x.sig, true)), (316, (zAI.x.sig, true))]) 99 zAC.x = true := by kernel_rfl
theorem zAC.sound (N : Nat) : SD 99 zAC.x.sig (zAC.fs N) := zY N (kC (n := 303) (by kernel_rfl) (yn.sound N) rfl (kC (n := 304) (by kernel_rfl) (zX.sound N) rfl (kC (n := 285) (by kernel_rfl) (z5.sound N) rfl (kC (n := 301) (by kernel_rfl) (zc.sound N) rfl (kC (n := 316) (by kernel_rfl) (zAI.sound N) rfl (zI)))))) hQs hmix zAC.ok
theorem zAD.ok : yC (EE [(305, (z6.x.sig, true)), (291, (zG.x.sig, true)), (311, (zB.x.sig, true)), (289, (z9.x.sig, true)), (315, (zQ.x.sig, true)), (293, (zn.x.sig, true))]) 100 zAD.x = true := by kernel_rfl
theorem zAD.sound (N : Nat) : SD 100 zAD.x.sig (zAD.fs N) := zY N (kC (n := 305) (by kernel_rfl) (z6.sound N) rfl (kC (n := 291) (by kernel_rfl) (zG.sound N) rfl (kC (n := 311) (by kernel_rfl) (zB.sound N) rfl (kC (n := 289) (by kernel_rfl) (z9.sound N) rfl (kC (n := 315) (by kernel_rfl) (zQ.sound N) rfl (kC (n := 293) (by kernel_rfl) (zn.sound N) rfl (zI))))))) hQs hmix zAD.ok
theorem zR.ok : yC (EE [(318, (zAD.x.sig, true)), (317, (zAC.x.sig, false))]) 59 zR.x = true := by kernel_rfl
theorem zR.sound (N : Nat) : SD 59 zR.x.sig (zR.fs N) := zY N (kC (n := 318) (by kernel_rfl) (zAD.sound N) rfl (kC (n := 317) (by kernel_rfl) (zAC.sound N) rfl (zI))) hQs hmix zR.ok
theorem yf.ok : yC (EE [(298, (yU.x.sig, true)), (41, (zW.x.sig, true)), (297, (zm.x.sig, true)), (319, (zR.x.sig, false)), (1, (zS.x.sig, true)), (293, (zn.x.sig, true))]) 22 yf.x = true := by kernel_rfl
theorem yf.sound (N : Nat) : SD 22 yf.x.sig (yf.fs N) := zY N (kC (n := 298) (by kernel_rfl) (yU.sound N) rfl (kC (n := 41) (by kernel_rfl) (zW.sound N) rfl (kC (n := 297) (by kernel_rfl) (zm.sound N) rfl (kC (n := 319) (by kernel_rfl) (zR.sound N) rfl (kC (n := 1) (by kernel_rfl) (zS.sound N) rfl (kC (n := 293) (by kernel_rfl) (zn.sound N) rfl (zI))))))) hQs hmix yf.ok
theorem zAB.ok : yC (EE [(320, (yf.x.sig, false)), (300, (yF.x.sig, false)), (33, (zC.x.sig, false)), (176, (yE.x.sig, false))]) 34 zAB.x = true := by kernel_rfl
theorem zAB.sound (N : Nat) : SD 34 zAB.x.sig (zAB.fs N) := zY N (kC (n := 320) (by kernel_rfl) (yf.sound N) rfl (kC (n := 300) (by kernel_rfl) (yF.sound N) rfl (kC (n := 33) (by kernel_rfl) (zC.sound N) rfl (kC (n := 176) (by kernel_rfl) (yE.sound N) rfl (zI))))) hQs hmix zAB.ok
theorem zT.ok : yC (EE [(57, (y6.x.sig, true)), (297, (zm.x.sig, true)), (33, (zC.x.sig, false)), (46, (zx.x.sig, false))]) 36 zT.x = true := by kernel_rfl
theorem zT.sound (N : Nat) : SD 36 zT.x.sig (zT.fs N) := zY N (kC (n := 57) (by kernel_rfl) (y6.sound N) rfl (kC (n := 297) (by kernel_rfl) (zm.sound N) rfl (kC (n := 33) (by kernel_rfl) (zC.sound N) rfl (kC (n := 46) (by kernel_rfl) (zx.sound N) rfl (zI))))) hQs hmix zT.ok
theorem zAA.ok : yC (EE []) 37 zAA.x = true := by kernel_rfl
theorem zAA.sound (N : Nat) : SD 37 zAA.x.sig (zAA.fs N) := zY N (zI) hQs hmix zAA.ok
theorem ya.ok : yC (EE [(321, (zAB.x.sig, false)), (322, (zT.x.sig, false)), (48, (zAA.x.sig, true)), (33, (zC.x.sig, false)), (237, (y4.x.sig, false))]) 8 ya.x = true := by kernel_rfl
theorem ya.sound (N : Nat) : SD 8 ya.x.sig (ya.fs N) := zY N (kC (n := 321) (by kernel_rfl) (zAB.sound N) rfl (kC (n := 322) (by kernel_rfl) (zT.sound N) rfl (kC (n := 48) (by kernel_rfl) (zAA.sound N) rfl (kC (n := 33) (by kernel_rfl) (zC.sound N) rfl (kC (n := 237) (by kernel_rfl) (y4.sound N) rfl (zI)))))) hQs hmix ya.ok
theorem yd.ok : yC (EE []) 44 yd.x = true := by kernel_rfl
theorem yd.sound (N : Nat) : SD 44 yd.x.sig (yd.fs N) := zY N (zI) hQs hmix yd.ok
theorem yR.ok : yC (EE []) 86 yR.x = true := by kernel_rfl
theorem yR.sound (N : Nat) : SD 86 yR.x.sig (yR.fs N) := zY N (zI) hQs hmix yR.ok
theorem yV.ok : yC (EE []) 87 yV.x = true := by kernel_rfl
theorem yV.sound (N : Nat) : SD 87 yV.x.sig (yV.fs N) := zY N (zI) hQs hmix yV.ok
theorem yK.ok : yC (EE [(153, (yd.x.sig, true)), (154, (yR.x.sig, true)), (155, (yV.x.sig, true))]) 47 yK.x = true := by kernel_rfl
theorem yK.sound (N : Nat) : SD 47 yK.x.sig (yK.fs N) := zY N (kC (n := 153) (by kernel_rfl) (yd.sound N) rfl (kC (n := 154) (by kernel_rfl) (yR.sound N) rfl (kC (n := 155) (by kernel_rfl) (yV.sound N) rfl (zI)))) hQs hmix yK.ok
theorem zF.ok : yC (EE [(156, (yK.x.sig, true))]) 83 zF.x = true := by kernel_rfl
theorem zF.sound (N : Nat) : SD 83 zF.x.sig (zF.fs N) := zY N (kC (n := 156) (by kernel_rfl) (yK.sound N) rfl (zI)) hQs hmix zF.ok
theorem zAG.ok : yC (EE []) 85 zAG.x = true := by kernel_rfl
theorem zAG.sound (N : Nat) : SD 85 zAG.x.sig (zAG.fs N) := zY N (zI) hQs hmix zAG.ok
theorem zl.ok : yC (EE [(156, (yK.x.sig, true)), (65, (zAG.x.sig, true))]) 46 zl.x = true := by kernel_rfl
theorem zl.sound (N : Nat) : SD 46 zl.x.sig (zl.fs N) := zY N (kC (n := 156) (by kernel_rfl) (yK.sound N) rfl (kC (n := 65) (by kernel_rfl) (zAG.sound N) rfl (zI))) hQs hmix zl.ok
theorem z7.ok : yC (EE []) 128 z7.x = true := by kernel_rfl
theorem z7.sound (N : Nat) : SD 128 z7.x.sig (z7.fs N) := zY N (zI) hQs hmix z7.ok
theorem zj.ok : yC (EE [(156, (yK.x.sig, true)), (165, (z7.x.sig, true))]) 88 zj.x = true := by kernel_rfl
theorem zj.sound (N : Nat) : SD 88 zj.x.sig (zj.fs N) := zY N (kC (n := 156) (by kernel_rfl) (yK.sound N) rfl (kC (n := 165) (by kernel_rfl) (z7.sound N) rfl (zI))) hQs hmix zj.ok
theorem zN.ok : yC (EE [(164, (zl.x.sig, true)), (163, (zF.x.sig, true)), (166, (zj.x.sig, true))]) 48 zN.x = true := by kernel_rfl
theorem zN.sound (N : Nat) : SD 48 zN.x.sig (zN.fs N) := zY N (kC (n := 164) (by kernel_rfl) (zl.sound N) rfl (kC (n := 163) (by kernel_rfl) (zF.sound N) rfl (kC (n := 166) (by kernel_rfl) (zj.sound N) rfl (zI)))) hQs hmix zN.ok
theorem yp.ok : yC (EE []) 49 yp.x = true := by kernel_rfl
theorem yp.sound (N : Nat) : SD 49 yp.x.sig (yp.fs N) := zY N (zI) hQs hmix yp.ok
theorem zi.ok : yC (EE []) 41 zi.x = true := by kernel_rfl
theorem zi.sound (N : Nat) : SD 41 zi.x.sig (zi.fs N) := zY N (zI) hQs hmix zi.ok
theorem yw.ok : yC (EE []) 120 yw.x = true := by kernel_rfl
theorem yw.sound (N : Nat) : SD 120 yw.x.sig (yw.fs N) := zY N (zI) hQs hmix yw.ok
theorem z8.ok : yC (EE [(68, (yw.x.sig, true)), (65, (zAG.x.sig, true))]) 79 z8.x = true := by kernel_rfl
theorem z8.sound (N : Nat) : SD 79 z8.x.sig (z8.fs N) := zY N (kC (n := 68) (by kernel_rfl) (yw.sound N) rfl (kC (n := 65) (by kernel_rfl) (zAG.sound N) rfl (zI))) hQs hmix z8.ok
theorem za.ok : yC (EE [(69, (z8.x.sig, true))]) 40 za.x = true := by kernel_rfl
theorem za.sound (N : Nat) : SD 40 za.x.sig (za.fs N) := zY N (kC (n := 69) (by kernel_rfl) (z8.sound N) rfl (zI)) hQs hmix za.ok
theorem yS.ok : yC (EE []) 38 yS.x = true := by kernel_rfl
theorem yS.sound (N : Nat) : SD 38 yS.x.sig (yS.fs N) := zY N (zI) hQs hmix yS.ok
theorem yc.ok : yC (EE [(167, (zN.x.sig, true)), (172, (yp.x.sig, true)), (173, (zi.x.sig, true)), (71, (yS.x.sig, true)), (70, (za.x.sig, true))]) 14 yc.x = true := by kernel_rfl
theorem yc.sound (N : Nat) : SD 14 yc.x.sig (yc.fs N) := zY N (kC (n := 167) (by kernel_rfl) (zN.sound N) rfl (kC (n := 172) (by kernel_rfl) (yp.sound N) rfl (kC (n := 173) (by kernel_rfl) (zi.sound N) rfl (kC (n := 71) (by kernel_rfl) (yS.sound N) rfl (kC (n := 70) (by kernel_rfl) (za.sound N) rfl (zI)))))) hQs hmix yc.ok
theorem zf.ok : yC (EE []) 118 zf.x = true := by kernel_rfl
theorem zf.sound (N : Nat) : SD 118 zf.x.sig (zf.fs N) := zY N (zI) hQs hmix zf.ok
theorem ze.ok : yC (EE []) 119 ze.x = true := by kernel_rfl
theorem ze.sound (N : Nat) : SD 119 ze.x.sig (ze.fs N) := zY N (zI) hQs hmix ze.ok
theorem yB.ok : yC (EE [(161, (zf.x.sig, true)), (162, (ze.x.sig, true))]) 78 yB.x = true := by kernel_rfl
theorem yB.sound (N : Nat) : SD 78 yB.x.sig (yB.fs N) := zY N (kC (n := 161) (by kernel_rfl) (zf.sound N) rfl (kC (n := 162) (by kernel_rfl) (ze.sound N) rfl (zI))) hQs hmix yB.ok
theorem yP.ok : yC (EE [(171, (yB.x.sig, true))]) 39 yP.x = true := by kernel_rfl
theorem yP.sound (N : Nat) : SD 39 yP.x.sig (yP.fs N) := zY N (kC (n := 171) (by kernel_rfl) (yB.sound N) rfl (zI)) hQs hmix yP.ok
theorem yI.ok : yC (EE []) 121 yI.x = true := by kernel_rfl
theorem yI.sound (N : Nat) : SD 121 yI.x.sig (yI.fs N) := zY N (zI) hQs hmix yI.ok
theorem yo.ok : yC (EE []) 180 yo.x = true := by kernel_rfl
theorem yo.sound (N : Nat) : SD 180 yo.x.sig (yo.fs N) := zY N (zI) hQs hmix yo.ok
theorem yH.ok : yC (EE []) 182 yH.x = true := by kernel_rfl
theorem yH.sound (N : Nat) : SD 182 yH.x.sig (yH.fs N) := zY N (zI) hQs hmix yH.ok
theorem zo.ok : yC (EE [(201, (ext_sort_Ints.sig, true)), (114, (yo.x.sig, true)), (202, (yH.x.sig, true))]) 157 zo.x = true := by kernel_rfl
theorem zo.sound (N : Nat) : SD 157 zo.x.sig (zo.fs N) := zY N (kC (n := 201) (by kernel_rfl) (ext_sort_Ints.sound N) rfl (kC (n := 114) (by kernel_rfl) (yo.sound N) rfl (kC (n := 202) (by kernel_rfl) (yH.sound N) rfl (zI)))) hQs hmix zo.ok
theorem zH.ok : yC (EE [(164, (zl.x.sig, true)), (203, (zo.x.sig, true))]) 123 zH.x = true := by kernel_rfl
theorem zH.sound (N : Nat) : SD 123 zH.x.sig (zH.fs N) := zY N (kC (n := 164) (by kernel_rfl) (zl.sound N) rfl (kC (n := 203) (by kernel_rfl) (zo.sound N) rfl (zI))) hQs hmix zH.ok
theorem zv.ok : yC (EE []) 89 zv.x = true := by kernel_rfl
theorem zv.sound (N : Nat) : SD 89 zv.x.sig (zv.fs N) := zY N (zI) hQs hmix zv.ok
theorem yQ.ok : yC (EE [(205, (zv.x.sig, true))]) 50 yQ.x = true := by kernel_rfl
theorem yQ.sound (N : Nat) : SD 50 yQ.x.sig (yQ.fs N) := zY N (kC (n := 205) (by kernel_rfl) (zv.sound N) rfl (zI)) hQs hmix yQ.ok
theorem zD.ok : yC (EE [(206, (yQ.x.sig, true))]) 122 zD.x = true := by kernel_rfl
theorem zD.sound (N : Nat) : SD 122 zD.x.sig (zD.fs N) := zY N (kC (n := 206) (by kernel_rfl) (yQ.sound N) rfl (zI)) hQs hmix zD.ok
theorem y7.ok : yC (EE [(179, (yI.x.sig, true)), (204, (zH.x.sig, true)), (207, (zD.x.sig, false)), (171, (yB.x.sig, true))]) 80 y7.x = true := by kernel_rfl
theorem y7.sound (N : Nat) : SD 80 y7.x.sig (y7.fs N) := zY N (kC (n := 179) (by kernel_rfl) (yI.sound N) rfl (kC (n := 204) (by kernel_rfl) (zH.sound N) rfl (kC (n := 207) (by kernel_rfl) (zD.sound N) rfl (kC (n := 171) (by kernel_rfl) (yB.sound N) rfl (zI))))) hQs hmix y7.ok
theorem zg.ok : yC (EE [(164, (zl.x.sig, true))]) 12 zg.x = true := by kernel_rfl
theorem zg.sound (N : Nat) : SD 12 zg.x.sig (zg.fs N) := zY N (kC (n := 164) (by kernel_rfl) (zl.sound N) rfl (zI)) hQs hmix zg.ok
theorem zt.ok : yC (EE [(65, (zAG.x.sig, true))]) 84 zt.x = true := by kernel_rfl
theorem zt.sound (N : Nat) : SD 84 zt.x.sig (zt.fs N) := zY N (kC (n := 65) (by kernel_rfl) (zAG.sound N) rfl (zI)) hQs hmix zt.ok
theorem zAH.ok : yC (EE [(163, (zF.x.sig, true)), (210, (zt.x.sig, true))]) 45 zAH.x = true := by kernel_rfl
theorem zAH.sound (N : Nat) : SD 45 zAH.x.sig (zAH.fs N) := zY N (kC (n := 163) (by kernel_rfl) (zF.sound N) rfl (kC (n := 210) (by kernel_rfl) (zt.sound N) rfl (zI))) hQs hmix zAH.ok
theorem y3.ok : yC (EE [(211, (zAH.x.sig, true))]) 11 y3.x = true := by kernel_rfl
theorem y3.sound (N : Nat) : SD 11 y3.x.sig (y3.fs N) := zY N (kC (n := 211) (by kernel_rfl) (zAH.sound N) rfl (zI)) hQs hmix y3.ok
theorem yL.ok : yC (EE [(156, (yK.x.sig, true))]) 13 yL.x = true := by kernel_rfl
theorem yL.sound (N : Nat) : SD 13 yL.x.sig (yL.fs N) := zY N (kC (n := 156) (by kernel_rfl) (yK.sound N) rfl (zI)) hQs hmix yL.ok
theorem zh.ok : yC (EE [(68, (yw.x.sig, true)), (172, (yp.x.sig, true)), (65, (zAG.x.sig, true))]) 81 zh.x = true := by kernel_rfl
theorem zh.sound (N : Nat) : SD 81 zh.x.sig (zh.fs N) := zY N (kC (n := 68) (by kernel_rfl) (yw.sound N) rfl (kC (n := 172) (by kernel_rfl) (yp.sound N) rfl (kC (n := 65) (by kernel_rfl) (zAG.sound N) rfl (zI)))) hQs hmix zh.ok
theorem zAN.ok : yC (EE [(157, (yL.x.sig, true))]) 124 zAN.x = true := by kernel_rfl
theorem zAN.sound (N : Nat) : SD 124 zAN.x.sig (zAN.fs N) := zY N (kC (n := 157) (by kernel_rfl) (yL.sound N) rfl (zI)) hQs hmix zAN.ok
theorem zAS.ok : yC (EE [(157, (yL.x.sig, true))]) 125 zAS.x = true := by kernel_rfl
theorem zAS.sound (N : Nat) : SD 125 zAS.x.sig (zAS.fs N) := zY N (kC (n := 157) (by kernel_rfl) (yL.sound N) rfl (zI)) hQs hmix zAS.ok
theorem yl.ok : yC (EE []) 158 yl.x = true := by kernel_rfl
theorem yl.sound (N : Nat) : SD 158 yl.x.sig (yl.fs N) := zY N (zI) hQs hmix yl.ok
theorem zAK.ok : yC (EE [(215, (yl.x.sig, true))]) 126 zAK.x = true := by kernel_rfl
theorem zAK.sound (N : Nat) : SD 126 zAK.x.sig (zAK.fs N) := zY N (kC (n := 215) (by kernel_rfl) (yl.sound N) rfl (zI)) hQs hmix zAK.ok
theorem zZ.ok : yC (EE [(203, (zo.x.sig, true)), (114, (yo.x.sig, true))]) 159 zZ.x = true := by kernel_rfl
theorem zZ.sound (N : Nat) : SD 159 zZ.x.sig (zZ.fs N) := zY N (kC (n := 203) (by kernel_rfl) (zo.sound N) rfl (kC (n := 114) (by kernel_rfl) (yo.sound N) rfl (zI))) hQs hmix zZ.ok
theorem zL.ok : yC (EE [(164, (zl.x.sig, true)), (166, (zj.x.sig, true)), (204, (zH.x.sig, true)), (165, (z7.x.sig, true)), (217, (zZ.x.sig, true))]) 127 zL.x = true := by kernel_rfl
theorem zL.sound (N : Nat) : SD 127 zL.x.sig (zL.fs N) := zY N (kC (n := 164) (by kernel_rfl) (zl.sound N) rfl (kC (n := 166) (by kernel_rfl) (zj.sound N) rfl (kC (n := 204) (by kernel_rfl) (zH.sound N) rfl (kC (n := 165) (by kernel_rfl) (z7.sound N) rfl (kC (n := 217) (by kernel_rfl) (zZ.sound N) rfl (zI)))))) hQs hmix zL.ok
theorem y9.ok : yC (EE [(214, (zAN.x.sig, true)), (209, (zg.x.sig, true)), (218, (zL.x.sig, true)), (204, (zH.x.sig, true)), (158, (zAS.x.sig, true)), (207, (zD.x.sig, false)), (171, (yB.x.sig, true)), (210, (zt.x.sig, true)), (216, (zAK.x.sig, false))]) 82 y9.x = true := by kernel_rfl
theorem y9.sound (N : Nat) : SD 82 y9.x.sig (y9.fs N) := zY N (kC (n := 214) (by kernel_rfl) (zAN.sound N) rfl (kC (n := 209) (by kernel_rfl) (zg.sound N) rfl (kC (n := 218) (by kernel_rfl) (zL.sound N) rfl (kC (n := 204) (by kernel_rfl) (zH.sound N) rfl (kC (n := 158) (by kernel_rfl) (zAS.sound N) rfl (kC (n := 207) (by kernel_rfl) (zD.sound N) rfl (kC (n := 171) (by kernel_rfl) (yB.sound N) rfl (kC (n := 210) (by kernel_rfl) (zt.sound N) rfl (kC (n := 216) (by kernel_rfl) (zAK.sound N) rfl (zI)))))))))) hQs hmix y9.ok
theorem z4.ok : yC (EE [(212, (y3.x.sig, true)), (213, (zh.x.sig, true)), (157, (yL.x.sig, true)), (209, (zg.x.sig, true)), (219, (y9.x.sig, false)), (208, (y7.x.sig, false))]) 42 z4.x = true := by kernel_rfl
theorem z4.sound (N : Nat) : SD 42 z4.x.sig (z4.fs N) := zY N (kC (n := 212) (by kernel_rfl) (y3.sound N) rfl (kC (n := 213) (by kernel_rfl) (zh.sound N) rfl (kC (n := 157) (by kernel_rfl) (yL.sound N) rfl (kC (n := 209) (by kernel_rfl) (zg.sound N) rfl (kC (n := 219) (by kernel_rfl) (y9.sound N) rfl (kC (n := 208) (by kernel_rfl) (y7.sound N) rfl (zI))))))) hQs hmix z4.ok
theorem yt.ok : yC (EE []) 43 yt.x = true := by kernel_rfl
theorem yt.sound (N : Nat) : SD 43 yt.x.sig (yt.fs N) := zY N (zI) hQs hmix yt.ok
theorem zM.ok : yC (EE [(220, (z4.x.sig, false)), (174, (yc.x.sig, true)), (178, (yP.x.sig, true)), (173, (zi.x.sig, true)), (71, (yS.x.sig, true)), (70, (za.x.sig, true)), (221, (yt.x.sig, false))]) 9 zM.x = true := by kernel_rfl
theorem zM.sound (N : Nat) : SD 9 zM.x.sig (zM.fs N) := zY N (kC (n := 220) (by kernel_rfl) (z4.sound N) rfl (kC (n := 174) (by kernel_rfl) (yc.sound N) rfl (kC (n := 178) (by kernel_rfl) (yP.sound N) rfl (kC (n := 173) (by kernel_rfl) (zi.sound N) rfl (kC (n := 71) (by kernel_rfl) (yS.sound N) rfl (kC (n := 70) (by kernel_rfl) (za.sound N) rfl (kC (n := 221) (by kernel_rfl) (yt.sound N) rfl (zI)))))))) hQs hmix zM.ok
theorem yi.ok : yC (EE [(33, (zC.x.sig, false)), (237, (y4.x.sig, false))]) 15 yi.x = true := by kernel_rfl
theorem yi.sound (N : Nat) : SD 15 yi.x.sig (yi.fs N) := zY N (kC (n := 33) (by kernel_rfl) (zC.sound N) rfl (kC (n := 237) (by kernel_rfl) (y4.sound N) rfl (zI))) hQs hmix yi.ok
theorem yu.ok : yC (EE [(222, (zM.x.sig, false))]) 16 yu.x = true := by kernel_rfl
theorem yu.sound (N : Nat) : SD 16 yu.x.sig (yu.fs N) := zY N (kC (n := 222) (by kernel_rfl) (zM.sound N) rfl (zI)) hQs hmix yu.ok
theorem yz.ok : yC (EE [(222, (zM.x.sig, false))]) 17 yz.x = true := by kernel_rfl
theorem yz.sound (N : Nat) : SD 17 yz.x.sig (yz.fs N) := zY N (kC (n := 222) (by kernel_rfl) (zM.sound N) rfl (zI)) hQs hmix yz.ok
theorem zw.ok : yC (EE [(206, (yQ.x.sig, true))]) 18 zw.x = true := by kernel_rfl
theorem zw.sound (N : Nat) : SD 18 zw.x.sig (zw.fs N) := zY N (kC (n := 206) (by kernel_rfl) (yQ.sound N) rfl (zI)) hQs hmix zw.ok
theorem zO.ok : yC (EE []) 90 zO.x = true := by kernel_rfl
theorem zO.sound (N : Nat) : SD 90 zO.x.sig (zO.fs N) := zY N (zI) hQs hmix zO.ok
theorem zu.ok : yC (EE []) 91 zu.x = true := by kernel_rfl
theorem zu.sound (N : Nat) : SD 91 zu.x.sig (zu.fs N) := zY N (zI) hQs hmix zu.ok
theorem yk.ok : yC (EE [(227, (zu.x.sig, true)), (226, (zO.x.sig, true))]) 51 yk.x = true := by kernel_rfl
theorem yk.sound (N : Nat) : SD 51 yk.x.sig (yk.fs N) := zY N (kC (n := 227) (by kernel_rfl) (zu.sound N) rfl (kC (n := 226) (by kernel_rfl) (zO.sound N) rfl (zI))) hQs hmix yk.ok
theorem zd.ok : yC (EE []) 52 zd.x = true := by kernel_rfl
theorem zd.sound (N : Nat) : SD 52 zd.x.sig (zd.fs N) := zY N (zI) hQs hmix zd.ok
theorem yb.ok : yC (EE [(228, (yk.x.sig, true)), (84, (zd.x.sig, true))]) 19 yb.x = true := by kernel_rfl
theorem yb.sound (N : Nat) : SD 19 yb.x.sig (yb.fs N) := zY N (kC (n := 228) (by kernel_rfl) (yk.sound N) rfl (kC (n := 84) (by kernel_rfl) (zd.sound N) rfl (zI))) hQs hmix yb.ok
theorem laws_FnDecided.ok : yC (EE [(344, (yz.x.sig, false)), (174, (yc.x.sig, true)), (222, (zM.x.sig, false)), (225, (zw.x.sig, true)), (343, (yu.x.sig, false)), (31, (zAl.x.sig, true)), (345, (yb.x.sig, true)), (323, (ya.x.sig, false)), (81, (yi.x.sig, true))]) 4 laws_FnDecided.x = true := by kernel_rfl
theorem laws_FnDecided.sound (N : Nat) : SD 4 laws_FnDecided.x.sig (laws_FnDecided.fs N) := zY N (kC (n := 344) (by kernel_rfl) (yz.sound N) rfl (kC (n := 174) (by kernel_rfl) (yc.sound N) rfl (kC (n := 222) (by kernel_rfl) (zM.sound N) rfl (kC (n := 225) (by kernel_rfl) (zw.sound N) rfl (kC (n := 343) (by kernel_rfl) (yu.sound N) rfl (kC (n := 31) (by kernel_rfl) (zAl.sound N) rfl (kC (n := 345) (by kernel_rfl) (yb.sound N) rfl (kC (n := 323) (by kernel_rfl) (ya.sound N) rfl (kC (n := 81) (by kernel_rfl) (yi.sound N) rfl (zI)))))))))) hQs hmix laws_FnDecided.ok
end Go.Kb
