/- Each function of the law does what its abstract text does, over the program. -/
import Derived.Test.YticidpdbkjgebaaGreatKc
import Derived.Test.YticidpdbkjgebaaGreatTwoPartsP0toP4
import Derived.Test.YticidpdbkjgebaaGreatTwoPartsF3toP75
import Derived.Test.YticidpdbkjgebaaGreatTwoPartsF4toP29
import Derived.Test.YticidpdbkjgebaaGreatTwoPartsP94toF8
import Derived.Test.YticidpdbkjgebaaGreatTwoPartsF30
import Derived.Test.YticidpdbkjgebaaGreatTwoPartsF31
import Derived.Test.YticidpdbkjgebaaGreatRows
import Derived.Test.YticidpdbkjgebaaGreatShelf
import Derived.Test.YticidpdbkjgebaaGreatKd
import Derived.KernelRfl
namespace Go.Kb
def TM : List (Nat × Nat) := [(2, 3), (1, 5), (16, 9), (6, 41), (12, 43), (13, 45), (4, 48), (8, 50), (9, 95), (15, 98), (11, 135), (10, 171), (14, 173)]
def FM : List (Nat × Nat) := [(31, 7), (236, 72), (237, 33), (32, 75), (33, 35), (46, 77), (102, 115), (159, 154), (149, 179), (150, 156), (1, 55), (283, 161), (284, 131), (285, 136), (286, 132), (287, 162), (288, 163), (289, 140), (290, 133), (291, 95), (418, 98), (419, 58), (294, 155), (295, 114), (169, 117), (296, 96), (57, 76), (297, 57), (40, 97), (41, 56), (298, 54), (292, 98), (293, 58), (299, 116), (300, 73), (176, 74), (301, 135), (302, 164), (303, 134), (304, 137), (305, 139), (306, 165), (307, 166), (308, 186), (309, 183), (310, 167), (311, 142), (312, 184), (313, 168), (277, 169), (314, 170), (315, 141), (316, 138), (317, 99), (318, 100), (319, 59), (320, 22), (321, 34), (322, 36), (48, 37), (323, 8), (81, 15), (153, 44), (154, 86), (155, 87), (156, 47), (163, 83), (65, 85), (164, 46), (165, 128), (166, 88), (167, 48), (172, 49), (173, 41), (68, 120), (69, 79), (70, 40), (71, 38), (174, 14), (161, 118), (162, 119), (171, 78), (178, 39), (179, 121), (114, 180), (201, 181), (202, 182), (203, 157), (204, 123), (205, 89), (206, 50), (207, 122), (208, 80), (209, 12), (210, 84), (211, 45), (212, 11), (157, 13), (213, 81), (214, 124), (158, 125), (215, 158), (216, 126), (217, 159), (218, 127), (219, 82), (220, 42), (221, 43), (222, 9), (225, 18), (226, 90), (227, 91), (228, 51), (84, 52), (345, 19), (420, 5)]
def GB : Nat -> Prop := fun _ => False
def QW : World -> Prop := fun _ => True
theorem hQs : ∀ w w' : World, (∀ b, GB b -> w'.heap[b]? = w.heap[b]?) -> QW w -> QW w' := fun _ _ _ _ => trivial
theorem ext_sort_Ints.sound (N : Nat) : Sound Go.Proofs.Tryz.prog (natTbl TM) GB QW 181 ext_sort_Ints.sig (ext_sort_Ints.fs N) := sort_sound (fun blk off cap zs w h1 h2 h3 => Go.Proofs.Tryz.sort_Ints blk off cap zs w h1 h2 h3) (fun p cap w => Go.Proofs.Tryz.sort_Ints_none p cap w) N
theorem hmix : Go.Proofs.Tryz.prog.follows .mixedOrders = true := by kernel_rfl
noncomputable abbrev EE (l : List (Nat × (Sig × Bool))) : Env1 := mkE Go.Proofs.Tryz.prog GB QW TM FM l
abbrev SD (i : FuncId) (g : Sig) (f : FS) : Prop := Sound Go.Proofs.Tryz.prog (natTbl TM) GB QW i g f
theorem kC {n : Nat} {g : Sig} {fr : Bool} {f : FS} {l : List (Nat × (Sig × Bool))} {r : List (Nat × FS)} {fid : FuncId} (hid : natTbl FM n = fid) (hs : SD fid g f) (hf : (f.fresh && !f.keep) = fr) (hk : Known (EE l) (tbl r noFS)) : Known (EE ((n, (g, fr)) :: l)) (tbl ((n, f) :: r) noFS) := known_cons (fm := FM) hid hs hf hk
theorem zAj.ok : yD (EE []) 7 zAj.x = true := by kernel_rfl
theorem zAj.sound (N : Nat) : SD 7 zAj.x.sig (zAj.fs N) := zZ N (zJ) hQs hmix zAj.ok
theorem yZ.ok : yD (EE []) 72 yZ.x = true := by kernel_rfl
theorem yZ.sound (N : Nat) : SD 72 yZ.x.sig (yZ.fs N) := zZ N (zJ) hQs hmix yZ.ok
theorem y2.ok : yD (EE [(236, (yZ.x.sig, false))]) 33 y2.x = true := by kernel_rfl
theorem y2.sound (N : Nat) : SD 33 y2.x.sig (y2.fs N) := zZ N (kC (n := 236) (by kernel_rfl) (yZ.sound N) rfl (zJ)) hQs hmix y2.ok
theorem y3.ok : yD (EE []) 75 y3.x = true := by kernel_rfl
theorem y3.sound (N : Nat) : SD 75 y3.x.sig (y3.fs N) := zZ N (zJ) hQs hmix y3.ok
theorem zC.ok : yD (EE [(32, (y3.x.sig, false))]) 35 zC.x = true := by kernel_rfl
theorem zC.sound (N : Nat) : SD 35 zC.x.sig (zC.fs N) := zZ N (kC (n := 32) (by kernel_rfl) (y3.sound N) rfl (zJ)) hQs hmix zC.ok
theorem zx.ok : yD (EE [(33, (zC.x.sig, false))]) 77 zx.x = true := by kernel_rfl
theorem zx.sound (N : Nat) : SD 77 zx.x.sig (zx.fs N) := zZ N (kC (n := 33) (by kernel_rfl) (zC.sound N) rfl (zJ)) hQs hmix zx.ok
theorem yd.ok : yD (EE [(33, (zC.x.sig, false))]) 115 yd.x = true := by kernel_rfl
theorem yd.sound (N : Nat) : SD 115 yd.x.sig (yd.fs N) := zZ N (kC (n := 33) (by kernel_rfl) (zC.sound N) rfl (zJ)) hQs hmix yd.ok
theorem yC.ok : yD (EE [(33, (zC.x.sig, false)), (102, (yd.x.sig, false)), (46, (zx.x.sig, false))]) 154 yC.x = true := by kernel_rfl
theorem yC.sound (N : Nat) : SD 154 yC.x.sig (yC.fs N) := zZ N (kC (n := 33) (by kernel_rfl) (zC.sound N) rfl (kC (n := 102) (by kernel_rfl) (yd.sound N) rfl (kC (n := 46) (by kernel_rfl) (zx.sound N) rfl (zJ)))) hQs hmix yC.ok
theorem zAH.ok : yD (EE [(33, (zC.x.sig, false)), (102, (yd.x.sig, false))]) 179 zAH.x = true := by kernel_rfl
theorem zAH.sound (N : Nat) : SD 179 zAH.x.sig (zAH.fs N) := zZ N (kC (n := 33) (by kernel_rfl) (zC.sound N) rfl (kC (n := 102) (by kernel_rfl) (yd.sound N) rfl (zJ))) hQs hmix zAH.ok
theorem zI.ok : yD (EE [(33, (zC.x.sig, false)), (102, (yd.x.sig, false)), (149, (zAH.x.sig, false))]) 156 zI.x = true := by kernel_rfl
theorem zI.sound (N : Nat) : SD 156 zI.x.sig (zI.fs N) := zZ N (kC (n := 33) (by kernel_rfl) (zC.sound N) rfl (kC (n := 102) (by kernel_rfl) (yd.sound N) rfl (kC (n := 149) (by kernel_rfl) (zAH.sound N) rfl (zJ)))) hQs hmix zI.ok
theorem zS.ok : yD (EE []) 55 zS.x = true := by kernel_rfl
theorem zS.sound (N : Nat) : SD 55 zS.x.sig (zS.fs N) := zZ N (zJ) hQs hmix zS.ok
theorem yJ.ok : yD (EE [(1, (zS.x.sig, true))]) 161 yJ.x = true := by kernel_rfl
theorem yJ.sound (N : Nat) : SD 161 yJ.x.sig (yJ.fs N) := zZ N (kC (n := 1) (by kernel_rfl) (zS.sound N) rfl (zJ)) hQs hmix yJ.ok
theorem zE.ok : yD (EE [(283, (yJ.x.sig, true)), (1, (zS.x.sig, true))]) 131 zE.x = true := by kernel_rfl
theorem zE.sound (N : Nat) : SD 131 zE.x.sig (zE.fs N) := zZ N (kC (n := 283) (by kernel_rfl) (yJ.sound N) rfl (kC (n := 1) (by kernel_rfl) (zS.sound N) rfl (zJ))) hQs hmix zE.ok
theorem z5.ok : yD (EE [(283, (yJ.x.sig, true))]) 136 z5.x = true := by kernel_rfl
theorem z5.sound (N : Nat) : SD 136 z5.x.sig (z5.fs N) := zZ N (kC (n := 283) (by kernel_rfl) (yJ.sound N) rfl (zJ)) hQs hmix z5.ok
theorem zt.ok : yD (EE [(283, (yJ.x.sig, true)), (285, (z5.x.sig, true)), (1, (zS.x.sig, true))]) 132 zt.x = true := by kernel_rfl
theorem zt.sound (N : Nat) : SD 132 zt.x.sig (zt.fs N) := zZ N (kC (n := 283) (by kernel_rfl) (yJ.sound N) rfl (kC (n := 285) (by kernel_rfl) (z5.sound N) rfl (kC (n := 1) (by kernel_rfl) (zS.sound N) rfl (zJ)))) hQs hmix zt.ok
theorem zy.ok : yD (EE []) 162 zy.x = true := by kernel_rfl
theorem zy.sound (N : Nat) : SD 162 zy.x.sig (zy.fs N) := zZ N (zJ) hQs hmix zy.ok
theorem yg.ok : yD (EE []) 163 yg.x = true := by kernel_rfl
theorem yg.sound (N : Nat) : SD 163 yg.x.sig (yg.fs N) := zZ N (zJ) hQs hmix yg.ok
theorem z9.ok : yD (EE []) 140 z9.x = true := by kernel_rfl
theorem z9.sound (N : Nat) : SD 140 z9.x.sig (z9.fs N) := zZ N (zJ) hQs hmix z9.ok
theorem zr.ok : yD (EE [(283, (yJ.x.sig, true)), (1, (zS.x.sig, true)), (288, (yg.x.sig, true)), (287, (zy.x.sig, true)), (289, (z9.x.sig, true))]) 133 zr.x = true := by kernel_rfl
theorem zr.sound (N : Nat) : SD 133 zr.x.sig (zr.fs N) := zZ N (kC (n := 283) (by kernel_rfl) (yJ.sound N) rfl (kC (n := 1) (by kernel_rfl) (zS.sound N) rfl (kC (n := 288) (by kernel_rfl) (yg.sound N) rfl (kC (n := 287) (by kernel_rfl) (zy.sound N) rfl (kC (n := 289) (by kernel_rfl) (z9.sound N) rfl (zJ)))))) hQs hmix zr.ok
theorem zG.ok : yD (EE [(286, (zt.x.sig, true)), (284, (zE.x.sig, true)), (290, (zr.x.sig, true)), (1, (zS.x.sig, true))]) 95 zG.x = true := by kernel_rfl
theorem zG.sound (N : Nat) : SD 95 zG.x.sig (zG.fs N) := zZ N (kC (n := 286) (by kernel_rfl) (zt.sound N) rfl (kC (n := 284) (by kernel_rfl) (zE.sound N) rfl (kC (n := 290) (by kernel_rfl) (zr.sound N) rfl (kC (n := 1) (by kernel_rfl) (zS.sound N) rfl (zJ))))) hQs hmix zG.ok
theorem z1.ok : yD (EE []) 98 z1.x = true := by kernel_rfl
theorem z1.sound (N : Nat) : SD 98 z1.x.sig (z1.fs N) := sound_ofH N (zJ) hQs hmix z1.ok
theorem z0.ok : yD (EE [(418, (z1.x.sig, true))]) 58 z0.x = true := by kernel_rfl
theorem z0.sound (N : Nat) : SD 58 z0.x.sig (z0.fs N) := sound_ofH N (kC (n := 418) (by kernel_rfl) (z1.sound N) rfl (zJ)) hQs hmix z0.ok
theorem yv.ok : yD (EE [(291, (zG.x.sig, true)), (419, (z0.x.sig, true))]) 155 yv.x = true := by kernel_rfl
theorem yv.sound (N : Nat) : SD 155 yv.x.sig (yv.fs N) := sound_ofH N (kC (n := 291) (by kernel_rfl) (zG.sound N) rfl (kC (n := 419) (by kernel_rfl) (z0.sound N) rfl (zJ))) hQs hmix yv.ok
theorem yU.ok : yD (EE [(294, (yv.x.sig, true)), (33, (zC.x.sig, false)), (150, (zI.x.sig, false)), (159, (yC.x.sig, false))]) 114 yU.x = true := by kernel_rfl
theorem yU.sound (N : Nat) : SD 114 yU.x.sig (yU.fs N) := sound_ofH N (kC (n := 294) (by kernel_rfl) (yv.sound N) rfl (kC (n := 33) (by kernel_rfl) (zC.sound N) rfl (kC (n := 150) (by kernel_rfl) (zI.sound N) rfl (kC (n := 159) (by kernel_rfl) (yC.sound N) rfl (zJ))))) hQs hmix yU.ok
theorem yp.ok : yD (EE [(33, (zC.x.sig, false)), (46, (zx.x.sig, false))]) 117 yp.x = true := by kernel_rfl
theorem yp.sound (N : Nat) : SD 117 yp.x.sig (yp.fs N) := zZ N (kC (n := 33) (by kernel_rfl) (zC.sound N) rfl (kC (n := 46) (by kernel_rfl) (zx.sound N) rfl (zJ))) hQs hmix yp.ok
theorem yl.ok : yD (EE [(1, (zS.x.sig, true))]) 96 yl.x = true := by kernel_rfl
theorem yl.sound (N : Nat) : SD 96 yl.x.sig (yl.fs N) := zZ N (kC (n := 1) (by kernel_rfl) (zS.sound N) rfl (zJ)) hQs hmix yl.ok
theorem y4.ok : yD (EE [(1, (zS.x.sig, true))]) 76 y4.x = true := by kernel_rfl
theorem y4.sound (N : Nat) : SD 76 y4.x.sig (y4.fs N) := zZ N (kC (n := 1) (by kernel_rfl) (zS.sound N) rfl (zJ)) hQs hmix y4.ok
theorem zm.ok : yD (EE [(57, (y4.x.sig, true))]) 57 zm.x = true := by kernel_rfl
theorem zm.sound (N : Nat) : SD 57 zm.x.sig (zm.fs N) := zZ N (kC (n := 57) (by kernel_rfl) (y4.sound N) rfl (zJ)) hQs hmix zm.ok
theorem yt.ok : yD (EE [(1, (zS.x.sig, true))]) 97 yt.x = true := by kernel_rfl
theorem yt.sound (N : Nat) : SD 97 yt.x.sig (yt.fs N) := zZ N (kC (n := 1) (by kernel_rfl) (zS.sound N) rfl (zJ)) hQs hmix yt.ok
theorem zW.ok : yD (EE [(40, (yt.x.sig, true))]) 56 zW.x = true := by kernel_rfl
theorem zW.sound (N : Nat) : SD 56 zW.x.sig (zW.fs N) := zZ N (kC (n := 40) (by kernel_rfl) (yt.sound N) rfl (zJ)) hQs hmix zW.ok
theorem yV.ok : yD (EE [(291, (zG.x.sig, true)), (296, (yl.x.sig, true)), (41, (zW.x.sig, true)), (297, (zm.x.sig, true)), (1, (zS.x.sig, true))]) 54 yV.x = true := by kernel_rfl
theorem yV.sound (N : Nat) : SD 54 yV.x.sig (yV.fs N) := zZ N (kC (n := 291) (by kernel_rfl) (zG.sound N) rfl (kC (n := 296) (by kernel_rfl) (yl.sound N) rfl (kC (n := 41) (by kernel_rfl) (zW.sound N) rfl (kC (n := 297) (by kernel_rfl) (zm.sound N) rfl (kC (n := 1) (by kernel_rfl) (zS.sound N) rfl (zJ)))))) hQs hmix yV.ok
theorem yG.ok : yD (EE []) 98 yG.x = true := by kernel_rfl
theorem yG.sound (N : Nat) : SD 98 yG.x.sig (yG.fs N) := zZ N (zJ) hQs hmix yG.ok
theorem zn.ok : yD (EE [(292, (yG.x.sig, true))]) 58 zn.x = true := by kernel_rfl
theorem zn.sound (N : Nat) : SD 58 zn.x.sig (zn.fs N) := zZ N (kC (n := 292) (by kernel_rfl) (yG.sound N) rfl (zJ)) hQs hmix zn.ok
theorem yf.ok : yD (EE [(298, (yV.x.sig, true)), (293, (zn.x.sig, true))]) 116 yf.x = true := by kernel_rfl
theorem yf.sound (N : Nat) : SD 116 yf.x.sig (yf.fs N) := zZ N (kC (n := 298) (by kernel_rfl) (yV.sound N) rfl (kC (n := 293) (by kernel_rfl) (zn.sound N) rfl (zJ))) hQs hmix yf.ok
theorem yF.ok : yD (EE [(299, (yf.x.sig, true)), (169, (yp.x.sig, false)), (33, (zC.x.sig, false)), (102, (yd.x.sig, false)), (295, (yU.x.sig, false))]) 73 yF.x = true := by kernel_rfl
theorem yF.sound (N : Nat) : SD 73 yF.x.sig (yF.fs N) := sound_ofH N (kC (n := 299) (by kernel_rfl) (yf.sound N) rfl (kC (n := 169) (by kernel_rfl) (yp.sound N) rfl (kC (n := 33) (by kernel_rfl) (zC.sound N) rfl (kC (n := 102) (by kernel_rfl) (yd.sound N) rfl (kC (n := 295) (by kernel_rfl) (yU.sound N) rfl (zJ)))))) hQs hmix yF.ok
theorem yE.ok : yD (EE [(33, (zC.x.sig, false)), (46, (zx.x.sig, false))]) 74 yE.x = true := by kernel_rfl
theorem yE.sound (N : Nat) : SD 74 yE.x.sig (yE.fs N) := zZ N (kC (n := 33) (by kernel_rfl) (zC.sound N) rfl (kC (n := 46) (by kernel_rfl) (zx.sound N) rfl (zJ))) hQs hmix yE.ok
theorem zc.ok : yD (EE [(286, (zt.x.sig, true)), (1, (zS.x.sig, true))]) 135 zc.x = true := by kernel_rfl
theorem zc.sound (N : Nat) : SD 135 zc.x.sig (zc.fs N) := zZ N (kC (n := 286) (by kernel_rfl) (zt.sound N) rfl (kC (n := 1) (by kernel_rfl) (zS.sound N) rfl (zJ))) hQs hmix zc.ok
theorem z3.ok : yD (EE [(284, (zE.x.sig, true)), (1, (zS.x.sig, true))]) 164 z3.x = true := by kernel_rfl
theorem z3.sound (N : Nat) : SD 164 z3.x.sig (z3.fs N) := zZ N (kC (n := 284) (by kernel_rfl) (zE.sound N) rfl (kC (n := 1) (by kernel_rfl) (zS.sound N) rfl (zJ))) hQs hmix z3.ok
theorem ym.ok : yD (EE [(302, (z3.x.sig, true))]) 134 ym.x = true := by kernel_rfl
theorem ym.sound (N : Nat) : SD 134 ym.x.sig (ym.fs N) := zZ N (kC (n := 302) (by kernel_rfl) (z3.sound N) rfl (zJ)) hQs hmix ym.ok
theorem zX.ok : yD (EE [(40, (yt.x.sig, true)), (296, (yl.x.sig, true)), (1, (zS.x.sig, true))]) 137 zX.x = true := by kernel_rfl
theorem zX.sound (N : Nat) : SD 137 zX.x.sig (zX.fs N) := zZ N (kC (n := 40) (by kernel_rfl) (yt.sound N) rfl (kC (n := 296) (by kernel_rfl) (yl.sound N) rfl (kC (n := 1) (by kernel_rfl) (zS.sound N) rfl (zJ)))) hQs hmix zX.ok
theorem z6.ok : yD (EE []) 139 z6.x = true := by kernel_rfl
theorem z6.sound (N : Nat) : SD 139 z6.x.sig (z6.fs N) := zZ N (zJ) hQs hmix z6.ok
theorem zAK.ok : yD (EE [(285, (z5.x.sig, true))]) 165 zAK.x = true := by kernel_rfl
theorem zAK.sound (N : Nat) : SD 165 zAK.x.sig (zAK.fs N) := zZ N (kC (n := 285) (by kernel_rfl) (z5.sound N) rfl (zJ)) hQs hmix zAK.ok
theorem zAP.ok : yD (EE [(285, (z5.x.sig, true))]) 166 zAP.x = true := by kernel_rfl
theorem zAP.sound (N : Nat) : SD 166 zAP.x.sig (zAP.fs N) := zZ N (kC (n := 285) (by kernel_rfl) (z5.sound N) rfl (zJ)) hQs hmix zAP.ok
theorem yi.ok : yD (EE [(1, (zS.x.sig, true))]) 186 yi.x = true := by kernel_rfl
theorem yi.sound (N : Nat) : SD 186 yi.x.sig (yi.fs N) := zZ N (kC (n := 1) (by kernel_rfl) (zS.sound N) rfl (zJ)) hQs hmix yi.ok
theorem zAT.ok : yD (EE [(308, (yi.x.sig, true))]) 183 zAT.x = true := by kernel_rfl
theorem zAT.sound (N : Nat) : SD 183 zAT.x.sig (zAT.fs N) := zZ N (kC (n := 308) (by kernel_rfl) (yi.sound N) rfl (zJ)) hQs hmix zAT.ok
theorem yx.ok : yD (EE [(309, (zAT.x.sig, false))]) 167 yx.x = true := by kernel_rfl
theorem yx.sound (N : Nat) : SD 167 yx.x.sig (yx.fs N) := zZ N (kC (n := 309) (by kernel_rfl) (zAT.sound N) rfl (zJ)) hQs hmix yx.ok
theorem zB.ok : yD (EE [(286, (zt.x.sig, true))]) 142 zB.x = true := by kernel_rfl
theorem zB.sound (N : Nat) : SD 142 zB.x.sig (zB.fs N) := zZ N (kC (n := 286) (by kernel_rfl) (zt.sound N) rfl (zJ)) hQs hmix zB.ok
theorem zA.ok : yD (EE [(311, (zB.x.sig, true))]) 184 zA.x = true := by kernel_rfl
theorem zA.sound (N : Nat) : SD 184 zA.x.sig (zA.fs N) := zZ N (kC (n := 311) (by kernel_rfl) (zB.sound N) rfl (zJ)) hQs hmix zA.ok
theorem zK.ok : yD (EE [(286, (zt.x.sig, true)), (290, (zr.x.sig, true)), (288, (yg.x.sig, true)), (287, (zy.x.sig, true)), (312, (zA.x.sig, true)), (289, (z9.x.sig, true))]) 168 zK.x = true := by kernel_rfl
theorem zK.sound (N : Nat) : SD 168 zK.x.sig (zK.fs N) := zZ N (kC (n := 286) (by kernel_rfl) (zt.sound N) rfl (kC (n := 290) (by kernel_rfl) (zr.sound N) rfl (kC (n := 288) (by kernel_rfl) (yg.sound N) rfl (kC (n := 287) (by kernel_rfl) (zy.sound N) rfl (kC (n := 312) (by kernel_rfl) (zA.sound N) rfl (kC (n := 289) (by kernel_rfl) (z9.sound N) rfl (zJ))))))) hQs hmix zK.ok
theorem zb.ok : yD (EE []) 169 zb.x = true := by kernel_rfl
theorem zb.sound (N : Nat) : SD 169 zb.x.sig (zb.fs N) := zZ N (zJ) hQs hmix zb.ok
theorem zAJ.ok : yD (EE []) 170 zAJ.x = true := by kernel_rfl
theorem zAJ.sound (N : Nat) : SD 170 zAJ.x.sig (zAJ.fs N) := zZ N (zJ) hQs hmix zAJ.ok
theorem zQ.ok : yD (EE [(277, (zb.x.sig, true)), (314, (zAJ.x.sig, true))]) 141 zQ.x = true := by kernel_rfl
theorem zQ.sound (N : Nat) : SD 141 zQ.x.sig (zQ.fs N) := zZ N (kC (n := 277) (by kernel_rfl) (zb.sound N) rfl (kC (n := 314) (by kernel_rfl) (zAJ.sound N) rfl (zJ))) hQs hmix zQ.ok
theorem zAG.ok : yD (EE [(303, (ym.x.sig, true)), (305, (z6.x.sig, true)), (306, (zAK.x.sig, true)), (291, (zG.x.sig, true)), (301, (zc.x.sig, true)), (313, (zK.x.sig, true)), (311, (zB.x.sig, true)), (307, (zAP.x.sig, true)), (1, (zS.x.sig, true)), (315, (zQ.x.sig, true)), (293, (zn.x.sig, true)), (310, (yx.x.sig, false))]) 138 zAG.x = true := by kernel_rfl
theorem zAG.sound (N : Nat) : SD 138 zAG.x.sig (zAG.fs N) := zZ N (kC (n := 303) (by kernel_rfl) (ym.sound N) rfl (kC (n := 305) (by kernel_rfl) (z6.sound N) rfl (kC (n := 306) (by kernel_rfl) (zAK.sound N) rfl (kC (n := 291) (by kernel_rfl) (zG.sound N) rfl (kC (n := 301) (by kernel_rfl) (zc.sound N) rfl (kC (n := 313) (by kernel_rfl) (zK.sound N) rfl (kC (n := 311) (by kernel_rfl) (zB.sound N) rfl (kC (n := 307) (by kernel_rfl) (zAP.sound N) rfl (kC (n := 1) (by kernel_rfl) (zS.sound N) rfl (kC (n := 315) (by kernel_rfl) (zQ.sound N) rfl (kC (n := 293) (by kernel_rfl) (zn.sound N) rfl (kC (n := 310) (by kernel_rfl) (yx.sound N) rfl (zJ))))))))))))) hQs hmix zAG.ok
theorem zAA.ok : yD (EE [(303, (ym.x.sig, true)), (304, (zX.x.sig, true)), (285, (z5.x.sig, true)), (301, (zc.x.sig, true)), (316, (zAG.x.sig, true))]) 99 zAA.x = true := by kernel_rfl
theorem zAA.sound (N : Nat) : SD 99 zAA.x.sig (zAA.fs N) := zZ N (kC (n := 303) (by kernel_rfl) (ym.sound N) rfl (kC (n := 304) (by kernel_rfl) (zX.sound N) rfl (kC (n := 285) (by kernel_rfl) (z5.sound N) rfl (kC (n := 301) (by kernel_rfl) (zc.sound N) rfl (kC (n := 316) (by kernel_rfl) (zAG.sound N) rfl (zJ)))))) hQs hmix zAA.ok
theorem zAB.ok : yD (EE [(305, (z6.x.sig, true)), (291, (zG.x.sig, true)), (311, (zB.x.sig, true)), (289, (z9.x.sig, true)), (315, (zQ.x.sig, true)), (293, (zn.x.sig, true))]) 100 zAB.x = true := by kernel_rfl
theorem zAB.sound (N : Nat) : SD 100 zAB.x.sig (zAB.fs N) := zZ N (kC (n := 305) (by kernel_rfl) (z6.sound N) rfl (kC (n := 291) (by kernel_rfl) (zG.sound N) rfl (kC (n := 311) (by kernel_rfl) (zB.sound N) rfl (kC (n := 289) (by kernel_rfl) (z9.sound N) rfl (kC (n := 315) (by kernel_rfl) (zQ.sound N) rfl (kC (n := 293) (by kernel_rfl) (zn.sound N) rfl (zJ))))))) hQs hmix zAB.ok
theorem zR.ok : yD (EE [(318, (zAB.x.sig, true)), (317, (zAA.x.sig, false))]) 59 zR.x = true := by kernel_rfl
theorem zR.sound (N : Nat) : SD 59 zR.x.sig (zR.fs N) := zZ N (kC (n := 318) (by kernel_rfl) (zAB.sound N) rfl (kC (n := 317) (by kernel_rfl) (zAA.sound N) rfl (zJ))) hQs hmix zR.ok
theorem ye.ok : yD (EE [(298, (yV.x.sig, true)), (41, (zW.x.sig, true)), (297, (zm.x.sig, true)), (319, (zR.x.sig, false)), (1, (zS.x.sig, true)), (293, (zn.x.sig, true))]) 22 ye.x = true := by kernel_rfl
theorem ye.sound (N : Nat) : SD 22 ye.x.sig (ye.fs N) := zZ N (kC (n := 298) (by kernel_rfl) (yV.sound N) rfl (kC (n := 41) (by kernel_rfl) (zW.sound N) rfl (kC (n := 297) (by kernel_rfl) (zm.sound N) rfl (kC (n := 319) (by kernel_rfl) (zR.sound N) rfl (kC (n := 1) (by kernel_rfl) (zS.sound N) rfl (kC (n := 293) (by kernel_rfl) (zn.sound N) rfl (zJ))))))) hQs hmix ye.ok
theorem y9.ok : yD (EE [(320, (ye.x.sig, false)), (300, (yF.x.sig, false)), (33, (zC.x.sig, false)), (176, (yE.x.sig, false))]) 34 y9.x = true := by kernel_rfl
theorem y9.sound (N : Nat) : SD 34 y9.x.sig (y9.fs N) := zZ N (kC (n := 320) (by kernel_rfl) (ye.sound N) rfl (kC (n := 300) (by kernel_rfl) (yF.sound N) rfl (kC (n := 33) (by kernel_rfl) (zC.sound N) rfl (kC (n := 176) (by kernel_rfl) (yE.sound N) rfl (zJ))))) hQs hmix y9.ok
theorem zT.ok : yD (EE [(57, (y4.x.sig, true)), (297, (zm.x.sig, true)), (33, (zC.x.sig, false)), (46, (zx.x.sig, false))]) 36 zT.x = true := by kernel_rfl
theorem zT.sound (N : Nat) : SD 36 zT.x.sig (zT.fs N) := zZ N (kC (n := 57) (by kernel_rfl) (y4.sound N) rfl (kC (n := 297) (by kernel_rfl) (zm.sound N) rfl (kC (n := 33) (by kernel_rfl) (zC.sound N) rfl (kC (n := 46) (by kernel_rfl) (zx.sound N) rfl (zJ))))) hQs hmix zT.ok
theorem y8.ok : yD (EE []) 37 y8.x = true := by kernel_rfl
theorem y8.sound (N : Nat) : SD 37 y8.x.sig (y8.fs N) := zZ N (zJ) hQs hmix y8.ok
theorem yb.ok : yD (EE [(321, (y9.x.sig, false)), (322, (zT.x.sig, false)), (48, (y8.x.sig, true)), (33, (zC.x.sig, false)), (237, (y2.x.sig, false))]) 8 yb.x = true := by kernel_rfl
theorem yb.sound (N : Nat) : SD 8 yb.x.sig (yb.fs N) := zZ N (kC (n := 321) (by kernel_rfl) (y9.sound N) rfl (kC (n := 322) (by kernel_rfl) (zT.sound N) rfl (kC (n := 48) (by kernel_rfl) (y8.sound N) rfl (kC (n := 33) (by kernel_rfl) (zC.sound N) rfl (kC (n := 237) (by kernel_rfl) (y2.sound N) rfl (zJ)))))) hQs hmix yb.ok
theorem yh.ok : yD (EE [(33, (zC.x.sig, false)), (237, (y2.x.sig, false))]) 15 yh.x = true := by kernel_rfl
theorem yh.sound (N : Nat) : SD 15 yh.x.sig (yh.fs N) := zZ N (kC (n := 33) (by kernel_rfl) (zC.sound N) rfl (kC (n := 237) (by kernel_rfl) (y2.sound N) rfl (zJ))) hQs hmix yh.ok
theorem yc.ok : yD (EE []) 44 yc.x = true := by kernel_rfl
theorem yc.sound (N : Nat) : SD 44 yc.x.sig (yc.fs N) := zZ N (zJ) hQs hmix yc.ok
theorem yS.ok : yD (EE []) 86 yS.x = true := by kernel_rfl
theorem yS.sound (N : Nat) : SD 86 yS.x.sig (yS.fs N) := zZ N (zJ) hQs hmix yS.ok
theorem yW.ok : yD (EE []) 87 yW.x = true := by kernel_rfl
theorem yW.sound (N : Nat) : SD 87 yW.x.sig (yW.fs N) := zZ N (zJ) hQs hmix yW.ok
theorem yK.ok : yD (EE [(153, (yc.x.sig, true)), (154, (yS.x.sig, true)), (155, (yW.x.sig, true))]) 47 yK.x = true := by kernel_rfl
theorem yK.sound (N : Nat) : SD 47 yK.x.sig (yK.fs N) := zZ N (kC (n := 153) (by kernel_rfl) (yc.sound N) rfl (kC (n := 154) (by kernel_rfl) (yS.sound N) rfl (kC (n := 155) (by kernel_rfl) (yW.sound N) rfl (zJ)))) hQs hmix yK.ok
theorem zF.ok : yD (EE [(156, (yK.x.sig, true))]) 83 zF.x = true := by kernel_rfl
theorem zF.sound (N : Nat) : SD 83 zF.x.sig (zF.fs N) := zZ N (kC (n := 156) (by kernel_rfl) (yK.sound N) rfl (zJ)) hQs hmix zF.ok
theorem zAD.ok : yD (EE []) 85 zAD.x = true := by kernel_rfl
theorem zAD.sound (N : Nat) : SD 85 zAD.x.sig (zAD.fs N) := zZ N (zJ) hQs hmix zAD.ok
theorem zl.ok : yD (EE [(156, (yK.x.sig, true)), (65, (zAD.x.sig, true))]) 46 zl.x = true := by kernel_rfl
theorem zl.sound (N : Nat) : SD 46 zl.x.sig (zl.fs N) := zZ N (kC (n := 156) (by kernel_rfl) (yK.sound N) rfl (kC (n := 65) (by kernel_rfl) (zAD.sound N) rfl (zJ))) hQs hmix zl.ok
theorem z7.ok : yD (EE []) 128 z7.x = true := by kernel_rfl
theorem z7.sound (N : Nat) : SD 128 z7.x.sig (z7.fs N) := zZ N (zJ) hQs hmix z7.ok
theorem zj.ok : yD (EE [(156, (yK.x.sig, true)), (165, (z7.x.sig, true))]) 88 zj.x = true := by kernel_rfl
theorem zj.sound (N : Nat) : SD 88 zj.x.sig (zj.fs N) := zZ N (kC (n := 156) (by kernel_rfl) (yK.sound N) rfl (kC (n := 165) (by kernel_rfl) (z7.sound N) rfl (zJ))) hQs hmix zj.ok
theorem zN.ok : yD (EE [(164, (zl.x.sig, true)), (163, (zF.x.sig, true)), (166, (zj.x.sig, true))]) 48 zN.x = true := by kernel_rfl
theorem zN.sound (N : Nat) : SD 48 zN.x.sig (zN.fs N) := zZ N (kC (n := 164) (by kernel_rfl) (zl.sound N) rfl (kC (n := 163) (by kernel_rfl) (zF.sound N) rfl (kC (n := 166) (by kernel_rfl) (zj.sound N) rfl (zJ)))) hQs hmix zN.ok
theorem yo.ok : yD (EE []) 49 yo.x = true := by kernel_rfl
theorem yo.sound (N : Nat) : SD 49 yo.x.sig (yo.fs N) := zZ N (zJ) hQs hmix yo.ok
theorem zi.ok : yD (EE []) 41 zi.x = true := by kernel_rfl
theorem zi.sound (N : Nat) : SD 41 zi.x.sig (zi.fs N) := zZ N (zJ) hQs hmix zi.ok
theorem yu.ok : yD (EE []) 120 yu.x = true := by kernel_rfl
theorem yu.sound (N : Nat) : SD 120 yu.x.sig (yu.fs N) := zZ N (zJ) hQs hmix yu.ok
theorem z8.ok : yD (EE [(68, (yu.x.sig, true)), (65, (zAD.x.sig, true))]) 79 z8.x = true := by kernel_rfl
theorem z8.sound (N : Nat) : SD 79 z8.x.sig (z8.fs N) := zZ N (kC (n := 68) (by kernel_rfl) (yu.sound N) rfl (kC (n := 65) (by kernel_rfl) (zAD.sound N) rfl (zJ))) hQs hmix z8.ok
theorem za.ok : yD (EE [(69, (z8.x.sig, true))]) 40 za.x = true := by kernel_rfl
theorem za.sound (N : Nat) : SD 40 za.x.sig (za.fs N) := zZ N (kC (n := 69) (by kernel_rfl) (z8.sound N) rfl (zJ)) hQs hmix za.ok
theorem yT.ok : yD (EE []) 38 yT.x = true := by kernel_rfl
theorem yT.sound (N : Nat) : SD 38 yT.x.sig (yT.fs N) := zZ N (zJ) hQs hmix yT.ok
theorem yw.ok : yD (EE [(167, (zN.x.sig, true)), (172, (yo.x.sig, true)), (173, (zi.x.sig, true)), (71, (yT.x.sig, true)), (70, (za.x.sig, true))]) 14 yw.x = true := by kernel_rfl
theorem yw.sound (N : Nat) : SD 14 yw.x.sig (yw.fs N) := zZ N (kC (n := 167) (by kernel_rfl) (zN.sound N) rfl (kC (n := 172) (by kernel_rfl) (yo.sound N) rfl (kC (n := 173) (by kernel_rfl) (zi.sound N) rfl (kC (n := 71) (by kernel_rfl) (yT.sound N) rfl (kC (n := 70) (by kernel_rfl) (za.sound N) rfl (zJ)))))) hQs hmix yw.ok
theorem zf.ok : yD (EE []) 118 zf.x = true := by kernel_rfl
theorem zf.sound (N : Nat) : SD 118 zf.x.sig (zf.fs N) := zZ N (zJ) hQs hmix zf.ok
theorem ze.ok : yD (EE []) 119 ze.x = true := by kernel_rfl
theorem ze.sound (N : Nat) : SD 119 ze.x.sig (ze.fs N) := zZ N (zJ) hQs hmix ze.ok
theorem yB.ok : yD (EE [(161, (zf.x.sig, true)), (162, (ze.x.sig, true))]) 78 yB.x = true := by kernel_rfl
theorem yB.sound (N : Nat) : SD 78 yB.x.sig (yB.fs N) := zZ N (kC (n := 161) (by kernel_rfl) (zf.sound N) rfl (kC (n := 162) (by kernel_rfl) (ze.sound N) rfl (zJ))) hQs hmix yB.ok
theorem yQ.ok : yD (EE [(171, (yB.x.sig, true))]) 39 yQ.x = true := by kernel_rfl
theorem yQ.sound (N : Nat) : SD 39 yQ.x.sig (yQ.fs N) := zZ N (kC (n := 171) (by kernel_rfl) (yB.sound N) rfl (zJ)) hQs hmix yQ.ok
theorem yI.ok : yD (EE []) 121 yI.x = true := by kernel_rfl
theorem yI.sound (N : Nat) : SD 121 yI.x.sig (yI.fs N) := zZ N (zJ) hQs hmix yI.ok
theorem yn.ok : yD (EE []) 180 yn.x = true := by kernel_rfl
theorem yn.sound (N : Nat) : SD 180 yn.x.sig (yn.fs N) := zZ N (zJ) hQs hmix yn.ok
theorem yH.ok : yD (EE []) 182 yH.x = true := by kernel_rfl
theorem yH.sound (N : Nat) : SD 182 yH.x.sig (yH.fs N) := zZ N (zJ) hQs hmix yH.ok
theorem zp.ok : yD (EE [(201, (ext_sort_Ints.sig, true)), (114, (yn.x.sig, true)), (202, (yH.x.sig, true))]) 157 zp.x = true := by kernel_rfl
theorem zp.sound (N : Nat) : SD 157 zp.x.sig (zp.fs N) := zZ N (kC (n := 201) (by kernel_rfl) (ext_sort_Ints.sound N) rfl (kC (n := 114) (by kernel_rfl) (yn.sound N) rfl (kC (n := 202) (by kernel_rfl) (yH.sound N) rfl (zJ)))) hQs hmix zp.ok
theorem zH.ok : yD (EE [(164, (zl.x.sig, true)), (203, (zp.x.sig, true))]) 123 zH.x = true := by kernel_rfl
theorem zH.sound (N : Nat) : SD 123 zH.x.sig (zH.fs N) := zZ N (kC (n := 164) (by kernel_rfl) (zl.sound N) rfl (kC (n := 203) (by kernel_rfl) (zp.sound N) rfl (zJ))) hQs hmix zH.ok
theorem zw.ok : yD (EE []) 89 zw.x = true := by kernel_rfl
theorem zw.sound (N : Nat) : SD 89 zw.x.sig (zw.fs N) := zZ N (zJ) hQs hmix zw.ok
theorem yR.ok : yD (EE [(205, (zw.x.sig, true))]) 50 yR.x = true := by kernel_rfl
theorem yR.sound (N : Nat) : SD 50 yR.x.sig (yR.fs N) := zZ N (kC (n := 205) (by kernel_rfl) (zw.sound N) rfl (zJ)) hQs hmix yR.ok
theorem zD.ok : yD (EE [(206, (yR.x.sig, true))]) 122 zD.x = true := by kernel_rfl
theorem zD.sound (N : Nat) : SD 122 zD.x.sig (zD.fs N) := zZ N (kC (n := 206) (by kernel_rfl) (yR.sound N) rfl (zJ)) hQs hmix zD.ok
theorem y5.ok : yD (EE [(179, (yI.x.sig, true)), (204, (zH.x.sig, true)), (207, (zD.x.sig, false)), (171, (yB.x.sig, true))]) 80 y5.x = true := by kernel_rfl
theorem y5.sound (N : Nat) : SD 80 y5.x.sig (y5.fs N) := zZ N (kC (n := 179) (by kernel_rfl) (yI.sound N) rfl (kC (n := 204) (by kernel_rfl) (zH.sound N) rfl (kC (n := 207) (by kernel_rfl) (zD.sound N) rfl (kC (n := 171) (by kernel_rfl) (yB.sound N) rfl (zJ))))) hQs hmix y5.ok
theorem zg.ok : yD (EE [(164, (zl.x.sig, true))]) 12 zg.x = true := by kernel_rfl
theorem zg.sound (N : Nat) : SD 12 zg.x.sig (zg.fs N) := zZ N (kC (n := 164) (by kernel_rfl) (zl.sound N) rfl (zJ)) hQs hmix zg.ok
theorem zu.ok : yD (EE [(65, (zAD.x.sig, true))]) 84 zu.x = true := by kernel_rfl
theorem zu.sound (N : Nat) : SD 84 zu.x.sig (zu.fs N) := zZ N (kC (n := 65) (by kernel_rfl) (zAD.sound N) rfl (zJ)) hQs hmix zu.ok
theorem zAF.ok : yD (EE [(163, (zF.x.sig, true)), (210, (zu.x.sig, true))]) 45 zAF.x = true := by kernel_rfl
theorem zAF.sound (N : Nat) : SD 45 zAF.x.sig (zAF.fs N) := zZ N (kC (n := 163) (by kernel_rfl) (zF.sound N) rfl (kC (n := 210) (by kernel_rfl) (zu.sound N) rfl (zJ))) hQs hmix zAF.ok
theorem y1.ok : yD (EE [(211, (zAF.x.sig, true))]) 11 y1.x = true := by kernel_rfl
theorem y1.sound (N : Nat) : SD 11 y1.x.sig (y1.fs N) := zZ N (kC (n := 211) (by kernel_rfl) (zAF.sound N) rfl (zJ)) hQs hmix y1.ok
theorem yL.ok : yD (EE [(156, (yK.x.sig, true))]) 13 yL.x = true := by kernel_rfl
theorem yL.sound (N : Nat) : SD 13 yL.x.sig (yL.fs N) := zZ N (kC (n := 156) (by kernel_rfl) (yK.sound N) rfl (zJ)) hQs hmix yL.ok
theorem zh.ok : yD (EE [(68, (yu.x.sig, true)), (172, (yo.x.sig, true)), (65, (zAD.x.sig, true))]) 81 zh.x = true := by kernel_rfl
theorem zh.sound (N : Nat) : SD 81 zh.x.sig (zh.fs N) := zZ N (kC (n := 68) (by kernel_rfl) (yu.sound N) rfl (kC (n := 172) (by kernel_rfl) (yo.sound N) rfl (kC (n := 65) (by kernel_rfl) (zAD.sound N) rfl (zJ)))) hQs hmix zh.ok
theorem zAL.ok : yD (EE [(157, (yL.x.sig, true))]) 124 zAL.x = true := by kernel_rfl
theorem zAL.sound (N : Nat) : SD 124 zAL.x.sig (zAL.fs N) := zZ N (kC (n := 157) (by kernel_rfl) (yL.sound N) rfl (zJ)) hQs hmix zAL.ok
theorem zAQ.ok : yD (EE [(157, (yL.x.sig, true))]) 125 zAQ.x = true := by kernel_rfl
theorem zAQ.sound (N : Nat) : SD 125 zAQ.x.sig (zAQ.fs N) := zZ N (kC (n := 157) (by kernel_rfl) (yL.sound N) rfl (zJ)) hQs hmix zAQ.ok
theorem yk.ok : yD (EE []) 158 yk.x = true := by kernel_rfl
theorem yk.sound (N : Nat) : SD 158 yk.x.sig (yk.fs N) := zZ N (zJ) hQs hmix yk.ok
theorem zAI.ok : yD (EE [(215, (yk.x.sig, true))]) 126 zAI.x = true := by kernel_rfl
theorem zAI.sound (N : Nat) : SD 126 zAI.x.sig (zAI.fs N) := zZ N (kC (n := 215) (by kernel_rfl) (yk.sound N) rfl (zJ)) hQs hmix zAI.ok
theorem zY.ok : yD (EE [(203, (zp.x.sig, true)), (114, (yn.x.sig, true))]) 159 zY.x = true := by kernel_rfl
theorem zY.sound (N : Nat) : SD 159 zY.x.sig (zY.fs N) := zZ N (kC (n := 203) (by kernel_rfl) (zp.sound N) rfl (kC (n := 114) (by kernel_rfl) (yn.sound N) rfl (zJ))) hQs hmix zY.ok
theorem zL.ok : yD (EE [(164, (zl.x.sig, true)), (166, (zj.x.sig, true)), (204, (zH.x.sig, true)), (165, (z7.x.sig, true)), (217, (zY.x.sig, true))]) 127 zL.x = true := by kernel_rfl
theorem zL.sound (N : Nat) : SD 127 zL.x.sig (zL.fs N) := zZ N (kC (n := 164) (by kernel_rfl) (zl.sound N) rfl (kC (n := 166) (by kernel_rfl) (zj.sound N) rfl (kC (n := 204) (by kernel_rfl) (zH.sound N) rfl (kC (n := 165) (by kernel_rfl) (z7.sound N) rfl (kC (n := 217) (by kernel_rfl) (zY.sound N) rfl (zJ)))))) hQs hmix zL.ok
theorem y7.ok : yD (EE [(214, (zAL.x.sig, true)), (209, (zg.x.sig, true)), (218, (zL.x.sig, true)), (204, (zH.x.sig, true)), (158, (zAQ.x.sig, true)), (207, (zD.x.sig, false)), (171, (yB.x.sig, true)), (210, (zu.x.sig, true)), (216, (zAI.x.sig, false))]) 82 y7.x = true := by kernel_rfl
theorem y7.sound (N : Nat) : SD 82 y7.x.sig (y7.fs N) := zZ N (kC (n := 214) (by kernel_rfl) (zAL.sound N) rfl (kC (n := 209) (by kernel_rfl) (zg.sound N) rfl (kC (n := 218) (by kernel_rfl) (zL.sound N) rfl (kC (n := 204) (by kernel_rfl) (zH.sound N) rfl (kC (n := 158) (by kernel_rfl) (zAQ.sound N) rfl (kC (n := 207) (by kernel_rfl) (zD.sound N) rfl (kC (n := 171) (by kernel_rfl) (yB.sound N) rfl (kC (n := 210) (by kernel_rfl) (zu.sound N) rfl (kC (n := 216) (by kernel_rfl) (zAI.sound N) rfl (zJ)))))))))) hQs hmix y7.ok
theorem z4.ok : yD (EE [(212, (y1.x.sig, true)), (213, (zh.x.sig, true)), (157, (yL.x.sig, true)), (209, (zg.x.sig, true)), (219, (y7.x.sig, false)), (208, (y5.x.sig, false))]) 42 z4.x = true := by kernel_rfl
theorem z4.sound (N : Nat) : SD 42 z4.x.sig (z4.fs N) := zZ N (kC (n := 212) (by kernel_rfl) (y1.sound N) rfl (kC (n := 213) (by kernel_rfl) (zh.sound N) rfl (kC (n := 157) (by kernel_rfl) (yL.sound N) rfl (kC (n := 209) (by kernel_rfl) (zg.sound N) rfl (kC (n := 219) (by kernel_rfl) (y7.sound N) rfl (kC (n := 208) (by kernel_rfl) (y5.sound N) rfl (zJ))))))) hQs hmix z4.ok
theorem yq.ok : yD (EE []) 43 yq.x = true := by kernel_rfl
theorem yq.sound (N : Nat) : SD 43 yq.x.sig (yq.fs N) := zZ N (zJ) hQs hmix yq.ok
theorem zM.ok : yD (EE [(220, (z4.x.sig, false)), (174, (yw.x.sig, true)), (178, (yQ.x.sig, true)), (173, (zi.x.sig, true)), (71, (yT.x.sig, true)), (70, (za.x.sig, true)), (221, (yq.x.sig, false))]) 9 zM.x = true := by kernel_rfl
theorem zM.sound (N : Nat) : SD 9 zM.x.sig (zM.fs N) := zZ N (kC (n := 220) (by kernel_rfl) (z4.sound N) rfl (kC (n := 174) (by kernel_rfl) (yw.sound N) rfl (kC (n := 178) (by kernel_rfl) (yQ.sound N) rfl (kC (n := 173) (by kernel_rfl) (zi.sound N) rfl (kC (n := 71) (by kernel_rfl) (yT.sound N) rfl (kC (n := 70) (by kernel_rfl) (za.sound N) rfl (kC (n := 221) (by kernel_rfl) (yq.sound N) rfl (zJ)))))))) hQs hmix zM.ok
theorem zo.ok : yD (EE [(206, (yR.x.sig, true))]) 18 zo.x = true := by kernel_rfl
theorem zo.sound (N : Nat) : SD 18 zo.x.sig (zo.fs N) := zZ N (kC (n := 206) (by kernel_rfl) (yR.sound N) rfl (zJ)) hQs hmix zo.ok
theorem zO.ok : yD (EE []) 90 zO.x = true := by kernel_rfl
theorem zO.sound (N : Nat) : SD 90 zO.x.sig (zO.fs N) := zZ N (zJ) hQs hmix zO.ok
theorem zv.ok : yD (EE []) 91 zv.x = true := by kernel_rfl
theorem zv.sound (N : Nat) : SD 91 zv.x.sig (zv.fs N) := zZ N (zJ) hQs hmix zv.ok
theorem yj.ok : yD (EE [(227, (zv.x.sig, true)), (226, (zO.x.sig, true))]) 51 yj.x = true := by kernel_rfl
theorem yj.sound (N : Nat) : SD 51 yj.x.sig (yj.fs N) := zZ N (kC (n := 227) (by kernel_rfl) (zv.sound N) rfl (kC (n := 226) (by kernel_rfl) (zO.sound N) rfl (zJ))) hQs hmix yj.ok
theorem zd.ok : yD (EE []) 52 zd.x = true := by kernel_rfl
theorem zd.sound (N : Nat) : SD 52 zd.x.sig (zd.fs N) := zZ N (zJ) hQs hmix zd.ok
theorem yP.ok : yD (EE [(228, (yj.x.sig, true)), (84, (zd.x.sig, true))]) 19 yP.x = true := by kernel_rfl
theorem yP.sound (N : Nat) : SD 19 yP.x.sig (yP.fs N) := zZ N (kC (n := 228) (by kernel_rfl) (yj.sound N) rfl (kC (n := 84) (by kernel_rfl) (zd.sound N) rfl (zJ))) hQs hmix yP.ok
theorem laws_FnTwoParts.ok : yD (EE [(222, (zM.x.sig, false)), (225, (zo.x.sig, true)), (31, (zAj.x.sig, true)), (345, (yP.x.sig, true)), (323, (yb.x.sig, false)), (81, (yh.x.sig, true))]) 5 laws_FnTwoParts.x = true := by kernel_rfl
theorem laws_FnTwoParts.sound (N : Nat) : SD 5 laws_FnTwoParts.x.sig (laws_FnTwoParts.fs N) := zZ N (kC (n := 222) (by kernel_rfl) (zM.sound N) rfl (kC (n := 225) (by kernel_rfl) (zo.sound N) rfl (kC (n := 31) (by kernel_rfl) (zAj.sound N) rfl (kC (n := 345) (by kernel_rfl) (yP.sound N) rfl (kC (n := 323) (by kernel_rfl) (yb.sound N) rfl (kC (n := 81) (by kernel_rfl) (yh.sound N) rfl (zJ))))))) hQs hmix laws_FnTwoParts.ok
end Go.Kb
