/- Each function of the law does what its abstract text does, over the program. -/
import Derived.Test.YticidpdbkjgebaaGreatKc
import Derived.Test.YticidpdbkjgebaaGreatPromptP0toP4
import Derived.Test.YticidpdbkjgebaaGreatPromptF3toP75
import Derived.Test.YticidpdbkjgebaaGreatPromptF4toP29
import Derived.Test.YticidpdbkjgebaaGreatPromptP94toF8
import Derived.Test.YticidpdbkjgebaaGreatPromptF30
import Derived.Test.YticidpdbkjgebaaGreatRows
import Derived.Test.YticidpdbkjgebaaGreatShelf
import Derived.Test.YticidpdbkjgebaaGreatKd
import Derived.KernelRfl
namespace Go.Kb
def TM : List (Nat × Nat) := [(2, 3), (1, 5), (16, 9), (6, 41), (12, 43), (13, 45), (4, 48), (8, 50), (9, 95), (15, 98), (11, 135), (10, 171), (14, 173)]
def FM : List (Nat × Nat) := [(31, 7), (236, 72), (237, 33), (32, 75), (33, 35), (46, 77), (102, 115), (159, 154), (149, 179), (150, 156), (1, 55), (283, 161), (284, 131), (285, 136), (286, 132), (287, 162), (288, 163), (289, 140), (290, 133), (291, 95), (418, 98), (419, 58), (294, 155), (295, 114), (169, 117), (296, 96), (57, 76), (297, 57), (40, 97), (41, 56), (298, 54), (292, 98), (293, 58), (299, 116), (300, 73), (176, 74), (301, 135), (302, 164), (303, 134), (304, 137), (305, 139), (306, 165), (307, 166), (308, 186), (309, 183), (310, 167), (311, 142), (312, 184), (313, 168), (277, 169), (314, 170), (315, 141), (316, 138), (317, 99), (318, 100), (319, 59), (320, 22), (321, 34), (322, 36), (48, 37), (323, 8), (153, 44), (154, 86), (155, 87), (156, 47), (163, 83), (65, 85), (164, 46), (165, 128), (166, 88), (167, 48), (172, 49), (173, 41), (68, 120), (69, 79), (70, 40), (71, 38), (174, 14), (161, 118), (162, 119), (171, 78), (178, 39), (179, 121), (114, 180), (201, 181), (202, 182), (203, 157), (204, 123), (205, 89), (206, 50), (207, 122), (208, 80), (209, 12), (210, 84), (211, 45), (212, 11), (157, 13), (213, 81), (214, 124), (158, 125), (215, 158), (216, 126), (217, 159), (218, 127), (219, 82), (220, 42), (221, 43), (222, 9), (263, 10), (324, 3)]
def GB : Nat → Prop := fun _ => False
def QW : World → Prop := fun _ => True
theorem hQs : ∀ w w' : World, (∀ b, GB b → w'.heap[b]? = w.heap[b]?) → QW w → QW w' := fun _ _ _ _ => trivial
theorem ext_sort_Ints.sound (N : Nat) : Sound Go.Proofs.Tryz.prog (natTbl TM) GB QW 181 ext_sort_Ints.sig (ext_sort_Ints.fs N) := sort_sound (fun blk off cap zs w h1 h2 h3 => Go.Proofs.Tryz.sort_Ints blk off cap zs w h1 h2 h3) (fun p cap w => Go.Proofs.Tryz.sort_Ints_none p cap w) N
theorem hmix : Go.Proofs.Tryz.prog.follows .mixedOrders = true := by kernel_rfl
noncomputable abbrev EE (l : List (Nat × (Sig × Bool))) : Env1 := mkE Go.Proofs.Tryz.prog GB QW TM FM l
abbrev SD (i : FuncId) (g : Sig) (f : FS) : Prop := Sound Go.Proofs.Tryz.prog (natTbl TM) GB QW i g f
theorem kC {n : Nat} {g : Sig} {fr : Bool} {f : FS} {l : List (Nat × (Sig × Bool))} {r : List (Nat × FS)} {fid : FuncId} (hid : natTbl FM n = fid) (hs : SD fid g f) (hf : (f.fresh && !f.keep) = fr) (hk : Known (EE l) (tbl r noFS)) : Known (EE ((n, (g, fr)) :: l)) (tbl ((n, f) :: r) noFS) := known_cons (fm := FM) hid hs hf hk
theorem zAC.ok : funcOk (EE []) 7 zAC.x = true := by kernel_rfl
theorem zAC.sound (N : Nat) : SD 7 zAC.x.sig (zAC.fs N) := sound_of N (known_nil) hQs hmix zAC.ok
theorem yN.ok : funcOk (EE []) 72 yN.x = true := by kernel_rfl
theorem yN.sound (N : Nat) : SD 72 yN.x.sig (yN.fs N) := sound_of N (known_nil) hQs hmix yN.ok
theorem yz.ok : funcOk (EE [(236, (yN.x.sig, false))]) 33 yz.x = true := by kernel_rfl
theorem yz.sound (N : Nat) : SD 33 yz.x.sig (yz.fs N) := sound_of N (kC (n := 236) (by kernel_rfl) (yN.sound N) rfl (known_nil)) hQs hmix yz.ok
theorem yj.ok : funcOk (EE []) 75 yj.x = true := by kernel_rfl
theorem yj.sound (N : Nat) : SD 75 yj.x.sig (yj.fs N) := sound_of N (known_nil) hQs hmix yj.ok
theorem zC.ok : funcOk (EE [(32, (yj.x.sig, false))]) 35 zC.x = true := by kernel_rfl
theorem zC.sound (N : Nat) : SD 35 zC.x.sig (zC.fs N) := sound_of N (kC (n := 32) (by kernel_rfl) (yj.sound N) rfl (known_nil)) hQs hmix zC.ok
theorem zp.ok : funcOk (EE [(33, (zC.x.sig, false))]) 77 zp.x = true := by kernel_rfl
theorem zp.sound (N : Nat) : SD 77 zp.x.sig (zp.fs N) := sound_of N (kC (n := 33) (by kernel_rfl) (zC.sound N) rfl (known_nil)) hQs hmix zp.ok
theorem yP.ok : funcOk (EE [(33, (zC.x.sig, false))]) 115 yP.x = true := by kernel_rfl
theorem yP.sound (N : Nat) : SD 115 yP.x.sig (yP.fs N) := sound_of N (kC (n := 33) (by kernel_rfl) (zC.sound N) rfl (known_nil)) hQs hmix yP.ok
theorem z4.ok : funcOk (EE [(33, (zC.x.sig, false)), (102, (yP.x.sig, false)), (46, (zp.x.sig, false))]) 154 z4.x = true := by kernel_rfl
theorem z4.sound (N : Nat) : SD 154 z4.x.sig (z4.fs N) := sound_of N (kC (n := 33) (by kernel_rfl) (zC.sound N) rfl (kC (n := 102) (by kernel_rfl) (yP.sound N) rfl (kC (n := 46) (by kernel_rfl) (zp.sound N) rfl (known_nil)))) hQs hmix z4.ok
theorem yv.ok : funcOk (EE [(33, (zC.x.sig, false)), (102, (yP.x.sig, false))]) 179 yv.x = true := by kernel_rfl
theorem yv.sound (N : Nat) : SD 179 yv.x.sig (yv.fs N) := sound_of N (kC (n := 33) (by kernel_rfl) (zC.sound N) rfl (kC (n := 102) (by kernel_rfl) (yP.sound N) rfl (known_nil))) hQs hmix yv.ok
theorem zI.ok : funcOk (EE [(33, (zC.x.sig, false)), (102, (yP.x.sig, false)), (149, (yv.x.sig, false))]) 156 zI.x = true := by kernel_rfl
theorem zI.sound (N : Nat) : SD 156 zI.x.sig (zI.fs N) := sound_of N (kC (n := 33) (by kernel_rfl) (zC.sound N) rfl (kC (n := 102) (by kernel_rfl) (yP.sound N) rfl (kC (n := 149) (by kernel_rfl) (yv.sound N) rfl (known_nil)))) hQs hmix zI.ok
theorem zO.ok : funcOk (EE []) 55 zO.x = true := by kernel_rfl
theorem zO.sound (N : Nat) : SD 55 zO.x.sig (zO.fs N) := sound_of N (known_nil) hQs hmix zO.ok
theorem yA.ok : funcOk (EE [(1, (zO.x.sig, true))]) 161 yA.x = true := by kernel_rfl
theorem yA.sound (N : Nat) : SD 161 yA.x.sig (yA.fs N) := sound_of N (kC (n := 1) (by kernel_rfl) (zO.sound N) rfl (known_nil)) hQs hmix yA.ok
theorem zE.ok : funcOk (EE [(283, (yA.x.sig, true)), (1, (zO.x.sig, true))]) 131 zE.x = true := by kernel_rfl
theorem zE.sound (N : Nat) : SD 131 zE.x.sig (zE.fs N) := sound_of N (kC (n := 283) (by kernel_rfl) (yA.sound N) rfl (kC (n := 1) (by kernel_rfl) (zO.sound N) rfl (known_nil))) hQs hmix zE.ok
theorem zw.ok : funcOk (EE [(283, (yA.x.sig, true))]) 136 zw.x = true := by kernel_rfl
theorem zw.sound (N : Nat) : SD 136 zw.x.sig (zw.fs N) := sound_of N (kC (n := 283) (by kernel_rfl) (yA.sound N) rfl (known_nil)) hQs hmix zw.ok
theorem zm.ok : funcOk (EE [(283, (yA.x.sig, true)), (285, (zw.x.sig, true)), (1, (zO.x.sig, true))]) 132 zm.x = true := by kernel_rfl
theorem zm.sound (N : Nat) : SD 132 zm.x.sig (zm.fs N) := sound_of N (kC (n := 283) (by kernel_rfl) (yA.sound N) rfl (kC (n := 285) (by kernel_rfl) (zw.sound N) rfl (kC (n := 1) (by kernel_rfl) (zO.sound N) rfl (known_nil)))) hQs hmix zm.ok
theorem zq.ok : funcOk (EE []) 162 zq.x = true := by kernel_rfl
theorem zq.sound (N : Nat) : SD 162 zq.x.sig (zq.fs N) := sound_of N (known_nil) hQs hmix zq.ok
theorem yS.ok : funcOk (EE []) 163 yS.x = true := by kernel_rfl
theorem yS.sound (N : Nat) : SD 163 yS.x.sig (yS.fs N) := sound_of N (known_nil) hQs hmix yS.ok
theorem z1.ok : funcOk (EE []) 140 z1.x = true := by kernel_rfl
theorem z1.sound (N : Nat) : SD 140 z1.x.sig (z1.fs N) := sound_of N (known_nil) hQs hmix z1.ok
theorem zl.ok : funcOk (EE [(283, (yA.x.sig, true)), (1, (zO.x.sig, true)), (288, (yS.x.sig, true)), (287, (zq.x.sig, true)), (289, (z1.x.sig, true))]) 133 zl.x = true := by kernel_rfl
theorem zl.sound (N : Nat) : SD 133 zl.x.sig (zl.fs N) := sound_of N (kC (n := 283) (by kernel_rfl) (yA.sound N) rfl (kC (n := 1) (by kernel_rfl) (zO.sound N) rfl (kC (n := 288) (by kernel_rfl) (yS.sound N) rfl (kC (n := 287) (by kernel_rfl) (zq.sound N) rfl (kC (n := 289) (by kernel_rfl) (z1.sound N) rfl (known_nil)))))) hQs hmix zl.ok
theorem zG.ok : funcOk (EE [(286, (zm.x.sig, true)), (284, (zE.x.sig, true)), (290, (zl.x.sig, true)), (1, (zO.x.sig, true))]) 95 zG.x = true := by kernel_rfl
theorem zG.sound (N : Nat) : SD 95 zG.x.sig (zG.fs N) := sound_of N (kC (n := 286) (by kernel_rfl) (zm.sound N) rfl (kC (n := 284) (by kernel_rfl) (zE.sound N) rfl (kC (n := 290) (by kernel_rfl) (zl.sound N) rfl (kC (n := 1) (by kernel_rfl) (zO.sound N) rfl (known_nil))))) hQs hmix zG.ok
theorem zt.ok : funcOk (EE []) 98 zt.x = true := by kernel_rfl
theorem zt.sound (N : Nat) : SD 98 zt.x.sig (zt.fs N) := sound_ofH N (known_nil) hQs hmix zt.ok
theorem zr.ok : funcOk (EE [(418, (zt.x.sig, true))]) 58 zr.x = true := by kernel_rfl
theorem zr.sound (N : Nat) : SD 58 zr.x.sig (zr.fs N) := sound_ofH N (kC (n := 418) (by kernel_rfl) (zt.sound N) rfl (known_nil)) hQs hmix zr.ok
theorem yg.ok : funcOk (EE [(291, (zG.x.sig, true)), (419, (zr.x.sig, true))]) 155 yg.x = true := by kernel_rfl
theorem yg.sound (N : Nat) : SD 155 yg.x.sig (yg.fs N) := sound_ofH N (kC (n := 291) (by kernel_rfl) (zG.sound N) rfl (kC (n := 419) (by kernel_rfl) (zr.sound N) rfl (known_nil))) hQs hmix yg.ok
theorem yJ.ok : funcOk (EE [(294, (yg.x.sig, true)), (33, (zC.x.sig, false)), (150, (zI.x.sig, false)), (159, (z4.x.sig, false))]) 114 yJ.x = true := by kernel_rfl
theorem yJ.sound (N : Nat) : SD 114 yJ.x.sig (yJ.fs N) := sound_ofH N (kC (n := 294) (by kernel_rfl) (yg.sound N) rfl (kC (n := 33) (by kernel_rfl) (zC.sound N) rfl (kC (n := 150) (by kernel_rfl) (zI.sound N) rfl (kC (n := 159) (by kernel_rfl) (z4.sound N) rfl (known_nil))))) hQs hmix yJ.ok
theorem yc.ok : funcOk (EE [(33, (zC.x.sig, false)), (46, (zp.x.sig, false))]) 117 yc.x = true := by kernel_rfl
theorem yc.sound (N : Nat) : SD 117 yc.x.sig (yc.fs N) := sound_of N (kC (n := 33) (by kernel_rfl) (zC.sound N) rfl (kC (n := 46) (by kernel_rfl) (zp.sound N) rfl (known_nil))) hQs hmix yc.ok
theorem yW.ok : funcOk (EE [(1, (zO.x.sig, true))]) 96 yW.x = true := by kernel_rfl
theorem yW.sound (N : Nat) : SD 96 yW.x.sig (yW.fs N) := sound_of N (kC (n := 1) (by kernel_rfl) (zO.sound N) rfl (known_nil)) hQs hmix yW.ok
theorem yk.ok : funcOk (EE [(1, (zO.x.sig, true))]) 76 yk.x = true := by kernel_rfl
theorem yk.sound (N : Nat) : SD 76 yk.x.sig (yk.fs N) := sound_of N (kC (n := 1) (by kernel_rfl) (zO.sound N) rfl (known_nil)) hQs hmix yk.ok
theorem zg.ok : funcOk (EE [(57, (yk.x.sig, true))]) 57 zg.x = true := by kernel_rfl
theorem zg.sound (N : Nat) : SD 57 zg.x.sig (zg.fs N) := sound_of N (kC (n := 57) (by kernel_rfl) (yk.sound N) rfl (known_nil)) hQs hmix zg.ok
theorem ye.ok : funcOk (EE [(1, (zO.x.sig, true))]) 97 ye.x = true := by kernel_rfl
theorem ye.sound (N : Nat) : SD 97 ye.x.sig (ye.fs N) := sound_of N (kC (n := 1) (by kernel_rfl) (zO.sound N) rfl (known_nil)) hQs hmix ye.ok
theorem zR.ok : funcOk (EE [(40, (ye.x.sig, true))]) 56 zR.x = true := by kernel_rfl
theorem zR.sound (N : Nat) : SD 56 zR.x.sig (zR.fs N) := sound_of N (kC (n := 40) (by kernel_rfl) (ye.sound N) rfl (known_nil)) hQs hmix zR.ok
theorem yK.ok : funcOk (EE [(291, (zG.x.sig, true)), (296, (yW.x.sig, true)), (41, (zR.x.sig, true)), (297, (zg.x.sig, true)), (1, (zO.x.sig, true))]) 54 yK.x = true := by kernel_rfl
theorem yK.sound (N : Nat) : SD 54 yK.x.sig (yK.fs N) := sound_of N (kC (n := 291) (by kernel_rfl) (zG.sound N) rfl (kC (n := 296) (by kernel_rfl) (yW.sound N) rfl (kC (n := 41) (by kernel_rfl) (zR.sound N) rfl (kC (n := 297) (by kernel_rfl) (zg.sound N) rfl (kC (n := 1) (by kernel_rfl) (zO.sound N) rfl (known_nil)))))) hQs hmix yK.ok
theorem z7.ok : funcOk (EE []) 98 z7.x = true := by kernel_rfl
theorem z7.sound (N : Nat) : SD 98 z7.x.sig (z7.fs N) := sound_of N (known_nil) hQs hmix z7.ok
theorem zh.ok : funcOk (EE [(292, (z7.x.sig, true))]) 58 zh.x = true := by kernel_rfl
theorem zh.sound (N : Nat) : SD 58 zh.x.sig (zh.fs N) := sound_of N (kC (n := 292) (by kernel_rfl) (z7.sound N) rfl (known_nil)) hQs hmix zh.ok
theorem yR.ok : funcOk (EE [(298, (yK.x.sig, true)), (293, (zh.x.sig, true))]) 116 yR.x = true := by kernel_rfl
theorem yR.sound (N : Nat) : SD 116 yR.x.sig (yR.fs N) := sound_of N (kC (n := 298) (by kernel_rfl) (yK.sound N) rfl (kC (n := 293) (by kernel_rfl) (zh.sound N) rfl (known_nil))) hQs hmix yR.ok
theorem z6.ok : funcOk (EE [(299, (yR.x.sig, true)), (169, (yc.x.sig, false)), (33, (zC.x.sig, false)), (102, (yP.x.sig, false)), (295, (yJ.x.sig, false))]) 73 z6.x = true := by kernel_rfl
theorem z6.sound (N : Nat) : SD 73 z6.x.sig (z6.fs N) := sound_ofH N (kC (n := 299) (by kernel_rfl) (yR.sound N) rfl (kC (n := 169) (by kernel_rfl) (yc.sound N) rfl (kC (n := 33) (by kernel_rfl) (zC.sound N) rfl (kC (n := 102) (by kernel_rfl) (yP.sound N) rfl (kC (n := 295) (by kernel_rfl) (yJ.sound N) rfl (known_nil)))))) hQs hmix z6.ok
theorem z5.ok : funcOk (EE [(33, (zC.x.sig, false)), (46, (zp.x.sig, false))]) 74 z5.x = true := by kernel_rfl
theorem z5.sound (N : Nat) : SD 74 z5.x.sig (z5.fs N) := sound_of N (kC (n := 33) (by kernel_rfl) (zC.sound N) rfl (kC (n := 46) (by kernel_rfl) (zp.sound N) rfl (known_nil))) hQs hmix z5.ok
theorem zY.ok : funcOk (EE [(286, (zm.x.sig, true)), (1, (zO.x.sig, true))]) 135 zY.x = true := by kernel_rfl
theorem zY.sound (N : Nat) : SD 135 zY.x.sig (zY.fs N) := sound_of N (kC (n := 286) (by kernel_rfl) (zm.sound N) rfl (kC (n := 1) (by kernel_rfl) (zO.sound N) rfl (known_nil))) hQs hmix zY.ok
theorem zu.ok : funcOk (EE [(284, (zE.x.sig, true)), (1, (zO.x.sig, true))]) 164 zu.x = true := by kernel_rfl
theorem zu.sound (N : Nat) : SD 164 zu.x.sig (zu.fs N) := sound_of N (kC (n := 284) (by kernel_rfl) (zE.sound N) rfl (kC (n := 1) (by kernel_rfl) (zO.sound N) rfl (known_nil))) hQs hmix zu.ok
theorem yX.ok : funcOk (EE [(302, (zu.x.sig, true))]) 134 yX.x = true := by kernel_rfl
theorem yX.sound (N : Nat) : SD 134 yX.x.sig (yX.fs N) := sound_of N (kC (n := 302) (by kernel_rfl) (zu.sound N) rfl (known_nil)) hQs hmix yX.ok
theorem zS.ok : funcOk (EE [(40, (ye.x.sig, true)), (296, (yW.x.sig, true)), (1, (zO.x.sig, true))]) 137 zS.x = true := by kernel_rfl
theorem zS.sound (N : Nat) : SD 137 zS.x.sig (zS.fs N) := sound_of N (kC (n := 40) (by kernel_rfl) (ye.sound N) rfl (kC (n := 296) (by kernel_rfl) (yW.sound N) rfl (kC (n := 1) (by kernel_rfl) (zO.sound N) rfl (known_nil)))) hQs hmix zS.ok
theorem zy.ok : funcOk (EE []) 139 zy.x = true := by kernel_rfl
theorem zy.sound (N : Nat) : SD 139 zy.x.sig (zy.fs N) := sound_of N (known_nil) hQs hmix zy.ok
theorem y0.ok : funcOk (EE [(285, (zw.x.sig, true))]) 165 y0.x = true := by kernel_rfl
theorem y0.sound (N : Nat) : SD 165 y0.x.sig (y0.fs N) := sound_of N (kC (n := 285) (by kernel_rfl) (zw.sound N) rfl (known_nil)) hQs hmix y0.ok
theorem y4.ok : funcOk (EE [(285, (zw.x.sig, true))]) 166 y4.x = true := by kernel_rfl
theorem y4.sound (N : Nat) : SD 166 y4.x.sig (y4.fs N) := sound_of N (kC (n := 285) (by kernel_rfl) (zw.sound N) rfl (known_nil)) hQs hmix y4.ok
theorem yT.ok : funcOk (EE [(1, (zO.x.sig, true))]) 186 yT.x = true := by kernel_rfl
theorem yT.sound (N : Nat) : SD 186 yT.x.sig (yT.fs N) := sound_of N (kC (n := 1) (by kernel_rfl) (zO.sound N) rfl (known_nil)) hQs hmix yT.ok
theorem y7.ok : funcOk (EE [(308, (yT.x.sig, true))]) 183 y7.x = true := by kernel_rfl
theorem y7.sound (N : Nat) : SD 183 y7.x.sig (y7.fs N) := sound_of N (kC (n := 308) (by kernel_rfl) (yT.sound N) rfl (known_nil)) hQs hmix y7.ok
theorem yi.ok : funcOk (EE [(309, (y7.x.sig, false))]) 167 yi.x = true := by kernel_rfl
theorem yi.sound (N : Nat) : SD 167 yi.x.sig (yi.fs N) := sound_of N (kC (n := 309) (by kernel_rfl) (y7.sound N) rfl (known_nil)) hQs hmix yi.ok
theorem zB.ok : funcOk (EE [(286, (zm.x.sig, true))]) 142 zB.x = true := by kernel_rfl
theorem zB.sound (N : Nat) : SD 142 zB.x.sig (zB.fs N) := sound_of N (kC (n := 286) (by kernel_rfl) (zm.sound N) rfl (known_nil)) hQs hmix zB.ok
theorem zA.ok : funcOk (EE [(311, (zB.x.sig, true))]) 184 zA.x = true := by kernel_rfl
theorem zA.sound (N : Nat) : SD 184 zA.x.sig (zA.fs N) := sound_of N (kC (n := 311) (by kernel_rfl) (zB.sound N) rfl (known_nil)) hQs hmix zA.ok
theorem zJ.ok : funcOk (EE [(286, (zm.x.sig, true)), (290, (zl.x.sig, true)), (288, (yS.x.sig, true)), (287, (zq.x.sig, true)), (312, (zA.x.sig, true)), (289, (z1.x.sig, true))]) 168 zJ.x = true := by kernel_rfl
theorem zJ.sound (N : Nat) : SD 168 zJ.x.sig (zJ.fs N) := sound_of N (kC (n := 286) (by kernel_rfl) (zm.sound N) rfl (kC (n := 290) (by kernel_rfl) (zl.sound N) rfl (kC (n := 288) (by kernel_rfl) (yS.sound N) rfl (kC (n := 287) (by kernel_rfl) (zq.sound N) rfl (kC (n := 312) (by kernel_rfl) (zA.sound N) rfl (kC (n := 289) (by kernel_rfl) (z1.sound N) rfl (known_nil))))))) hQs hmix zJ.ok
theorem zX.ok : funcOk (EE []) 169 zX.x = true := by kernel_rfl
theorem zX.sound (N : Nat) : SD 169 zX.x.sig (zX.fs N) := sound_of N (known_nil) hQs hmix zX.ok
theorem yy.ok : funcOk (EE []) 170 yy.x = true := by kernel_rfl
theorem yy.sound (N : Nat) : SD 170 yy.x.sig (yy.fs N) := sound_of N (known_nil) hQs hmix yy.ok
theorem zM.ok : funcOk (EE [(277, (zX.x.sig, true)), (314, (yy.x.sig, true))]) 141 zM.x = true := by kernel_rfl
theorem zM.sound (N : Nat) : SD 141 zM.x.sig (zM.fs N) := sound_of N (kC (n := 277) (by kernel_rfl) (zX.sound N) rfl (kC (n := 314) (by kernel_rfl) (yy.sound N) rfl (known_nil))) hQs hmix zM.ok
theorem yu.ok : funcOk (EE [(303, (yX.x.sig, true)), (305, (zy.x.sig, true)), (306, (y0.x.sig, true)), (291, (zG.x.sig, true)), (301, (zY.x.sig, true)), (313, (zJ.x.sig, true)), (311, (zB.x.sig, true)), (307, (y4.x.sig, true)), (1, (zO.x.sig, true)), (315, (zM.x.sig, true)), (293, (zh.x.sig, true)), (310, (yi.x.sig, false))]) 138 yu.x = true := by kernel_rfl
theorem yu.sound (N : Nat) : SD 138 yu.x.sig (yu.fs N) := sound_of N (kC (n := 303) (by kernel_rfl) (yX.sound N) rfl (kC (n := 305) (by kernel_rfl) (zy.sound N) rfl (kC (n := 306) (by kernel_rfl) (y0.sound N) rfl (kC (n := 291) (by kernel_rfl) (zG.sound N) rfl (kC (n := 301) (by kernel_rfl) (zY.sound N) rfl (kC (n := 313) (by kernel_rfl) (zJ.sound N) rfl (kC (n := 311) (by kernel_rfl) (zB.sound N) rfl (kC (n := 307) (by kernel_rfl) (y4.sound N) rfl (kC (n := 1) (by kernel_rfl) (zO.sound N) rfl (kC (n := 315) (by kernel_rfl) (zM.sound N) rfl (kC (n := 293) (by kernel_rfl) (zh.sound N) rfl (kC (n := 310) (by kernel_rfl) (yi.sound N) rfl (known_nil))))))))))))) hQs hmix yu.ok
theorem yp.ok : funcOk (EE [(303, (yX.x.sig, true)), (304, (zS.x.sig, true)), (285, (zw.x.sig, true)), (301, (zY.x.sig, true)), (316, (yu.x.sig, true))]) 99 yp.x = true := by kernel_rfl
theorem yp.sound (N : Nat) : SD 99 yp.x.sig (yp.fs N) := sound_of N (kC (n := 303) (by kernel_rfl) (yX.sound N) rfl (kC (n := 304) (by kernel_rfl) (zS.sound N) rfl (kC (n := 285) (by kernel_rfl) (zw.sound N) rfl (kC (n := 301) (by kernel_rfl) (zY.sound N) rfl (kC (n := 316) (by kernel_rfl) (yu.sound N) rfl (known_nil)))))) hQs hmix yp.ok
theorem yq.ok : funcOk (EE [(305, (zy.x.sig, true)), (291, (zG.x.sig, true)), (311, (zB.x.sig, true)), (289, (z1.x.sig, true)), (315, (zM.x.sig, true)), (293, (zh.x.sig, true))]) 100 yq.x = true := by kernel_rfl
theorem yq.sound (N : Nat) : SD 100 yq.x.sig (yq.fs N) := sound_of N (kC (n := 305) (by kernel_rfl) (zy.sound N) rfl (kC (n := 291) (by kernel_rfl) (zG.sound N) rfl (kC (n := 311) (by kernel_rfl) (zB.sound N) rfl (kC (n := 289) (by kernel_rfl) (z1.sound N) rfl (kC (n := 315) (by kernel_rfl) (zM.sound N) rfl (kC (n := 293) (by kernel_rfl) (zh.sound N) rfl (known_nil))))))) hQs hmix yq.ok
theorem zN.ok : funcOk (EE [(318, (yq.x.sig, true)), (317, (yp.x.sig, false))]) 59 zN.x = true := by kernel_rfl
theorem zN.sound (N : Nat) : SD 59 zN.x.sig (zN.fs N) := sound_of N (kC (n := 318) (by kernel_rfl) (yq.sound N) rfl (kC (n := 317) (by kernel_rfl) (yp.sound N) rfl (known_nil))) hQs hmix zN.ok
theorem yQ.ok : funcOk (EE [(298, (yK.x.sig, true)), (41, (zR.x.sig, true)), (297, (zg.x.sig, true)), (319, (zN.x.sig, false)), (1, (zO.x.sig, true)), (293, (zh.x.sig, true))]) 22 yQ.x = true := by kernel_rfl
theorem yQ.sound (N : Nat) : SD 22 yQ.x.sig (yQ.fs N) := sound_of N (kC (n := 298) (by kernel_rfl) (yK.sound N) rfl (kC (n := 41) (by kernel_rfl) (zR.sound N) rfl (kC (n := 297) (by kernel_rfl) (zg.sound N) rfl (kC (n := 319) (by kernel_rfl) (zN.sound N) rfl (kC (n := 1) (by kernel_rfl) (zO.sound N) rfl (kC (n := 293) (by kernel_rfl) (zh.sound N) rfl (known_nil))))))) hQs hmix yQ.ok
theorem yo.ok : funcOk (EE [(320, (yQ.x.sig, false)), (300, (z6.x.sig, false)), (33, (zC.x.sig, false)), (176, (z5.x.sig, false))]) 34 yo.x = true := by kernel_rfl
theorem yo.sound (N : Nat) : SD 34 yo.x.sig (yo.fs N) := sound_of N (kC (n := 320) (by kernel_rfl) (yQ.sound N) rfl (kC (n := 300) (by kernel_rfl) (z6.sound N) rfl (kC (n := 33) (by kernel_rfl) (zC.sound N) rfl (kC (n := 176) (by kernel_rfl) (z5.sound N) rfl (known_nil))))) hQs hmix yo.ok
theorem zP.ok : funcOk (EE [(57, (yk.x.sig, true)), (297, (zg.x.sig, true)), (33, (zC.x.sig, false)), (46, (zp.x.sig, false))]) 36 zP.x = true := by kernel_rfl
theorem zP.sound (N : Nat) : SD 36 zP.x.sig (zP.fs N) := sound_of N (kC (n := 57) (by kernel_rfl) (yk.sound N) rfl (kC (n := 297) (by kernel_rfl) (zg.sound N) rfl (kC (n := 33) (by kernel_rfl) (zC.sound N) rfl (kC (n := 46) (by kernel_rfl) (zp.sound N) rfl (known_nil))))) hQs hmix zP.ok
theorem yn.ok : funcOk (EE []) 37 yn.x = true := by kernel_rfl
theorem yn.sound (N : Nat) : SD 37 yn.x.sig (yn.fs N) := sound_of N (known_nil) hQs hmix yn.ok
theorem yO.ok : funcOk (EE [(321, (yo.x.sig, false)), (322, (zP.x.sig, false)), (48, (yn.x.sig, true)), (33, (zC.x.sig, false)), (237, (yz.x.sig, false))]) 8 yO.x = true := by kernel_rfl
theorem yO.sound (N : Nat) : SD 8 yO.x.sig (yO.fs N) := sound_of N (kC (n := 321) (by kernel_rfl) (yo.sound N) rfl (kC (n := 322) (by kernel_rfl) (zP.sound N) rfl (kC (n := 48) (by kernel_rfl) (yn.sound N) rfl (kC (n := 33) (by kernel_rfl) (zC.sound N) rfl (kC (n := 237) (by kernel_rfl) (yz.sound N) rfl (known_nil)))))) hQs hmix yO.ok
theorem yE.ok : funcOk (EE []) 44 yE.x = true := by kernel_rfl
theorem yE.sound (N : Nat) : SD 44 yE.x.sig (yE.fs N) := sound_of N (known_nil) hQs hmix yE.ok
theorem yG.ok : funcOk (EE []) 86 yG.x = true := by kernel_rfl
theorem yG.sound (N : Nat) : SD 86 yG.x.sig (yG.fs N) := sound_of N (known_nil) hQs hmix yG.ok
theorem yL.ok : funcOk (EE []) 87 yL.x = true := by kernel_rfl
theorem yL.sound (N : Nat) : SD 87 yL.x.sig (yL.fs N) := sound_of N (known_nil) hQs hmix yL.ok
theorem yB.ok : funcOk (EE [(153, (yE.x.sig, true)), (154, (yG.x.sig, true)), (155, (yL.x.sig, true))]) 47 yB.x = true := by kernel_rfl
theorem yB.sound (N : Nat) : SD 47 yB.x.sig (yB.fs N) := sound_of N (kC (n := 153) (by kernel_rfl) (yE.sound N) rfl (kC (n := 154) (by kernel_rfl) (yG.sound N) rfl (kC (n := 155) (by kernel_rfl) (yL.sound N) rfl (known_nil)))) hQs hmix yB.ok
theorem zF.ok : funcOk (EE [(156, (yB.x.sig, true))]) 83 zF.x = true := by kernel_rfl
theorem zF.sound (N : Nat) : SD 83 zF.x.sig (zF.fs N) := sound_of N (kC (n := 156) (by kernel_rfl) (yB.sound N) rfl (known_nil)) hQs hmix zF.ok
theorem ys.ok : funcOk (EE []) 85 ys.x = true := by kernel_rfl
theorem ys.sound (N : Nat) : SD 85 ys.x.sig (ys.fs N) := sound_of N (known_nil) hQs hmix ys.ok
theorem zf.ok : funcOk (EE [(156, (yB.x.sig, true)), (65, (ys.x.sig, true))]) 46 zf.x = true := by kernel_rfl
theorem zf.sound (N : Nat) : SD 46 zf.x.sig (zf.fs N) := sound_of N (kC (n := 156) (by kernel_rfl) (yB.sound N) rfl (kC (n := 65) (by kernel_rfl) (ys.sound N) rfl (known_nil))) hQs hmix zf.ok
theorem zz.ok : funcOk (EE []) 128 zz.x = true := by kernel_rfl
theorem zz.sound (N : Nat) : SD 128 zz.x.sig (zz.fs N) := sound_of N (known_nil) hQs hmix zz.ok
theorem ze.ok : funcOk (EE [(156, (yB.x.sig, true)), (165, (zz.x.sig, true))]) 88 ze.x = true := by kernel_rfl
theorem ze.sound (N : Nat) : SD 88 ze.x.sig (ze.fs N) := sound_of N (kC (n := 156) (by kernel_rfl) (yB.sound N) rfl (kC (n := 165) (by kernel_rfl) (zz.sound N) rfl (known_nil))) hQs hmix ze.ok
theorem zL.ok : funcOk (EE [(164, (zf.x.sig, true)), (163, (zF.x.sig, true)), (166, (ze.x.sig, true))]) 48 zL.x = true := by kernel_rfl
theorem zL.sound (N : Nat) : SD 48 zL.x.sig (zL.fs N) := sound_of N (kC (n := 164) (by kernel_rfl) (zf.sound N) rfl (kC (n := 163) (by kernel_rfl) (zF.sound N) rfl (kC (n := 166) (by kernel_rfl) (ze.sound N) rfl (known_nil)))) hQs hmix zL.ok
theorem yZ.ok : funcOk (EE []) 49 yZ.x = true := by kernel_rfl
theorem yZ.sound (N : Nat) : SD 49 yZ.x.sig (yZ.fs N) := sound_of N (known_nil) hQs hmix yZ.ok
theorem zc.ok : funcOk (EE []) 41 zc.x = true := by kernel_rfl
theorem zc.sound (N : Nat) : SD 41 zc.x.sig (zc.fs N) := sound_of N (known_nil) hQs hmix zc.ok
theorem yf.ok : funcOk (EE []) 120 yf.x = true := by kernel_rfl
theorem yf.sound (N : Nat) : SD 120 yf.x.sig (yf.fs N) := sound_of N (known_nil) hQs hmix yf.ok
theorem z0.ok : funcOk (EE [(68, (yf.x.sig, true)), (65, (ys.x.sig, true))]) 79 z0.x = true := by kernel_rfl
theorem z0.sound (N : Nat) : SD 79 z0.x.sig (z0.fs N) := sound_of N (kC (n := 68) (by kernel_rfl) (yf.sound N) rfl (kC (n := 65) (by kernel_rfl) (ys.sound N) rfl (known_nil))) hQs hmix z0.ok
theorem zW.ok : funcOk (EE [(69, (z0.x.sig, true))]) 40 zW.x = true := by kernel_rfl
theorem zW.sound (N : Nat) : SD 40 zW.x.sig (zW.fs N) := sound_of N (kC (n := 69) (by kernel_rfl) (z0.sound N) rfl (known_nil)) hQs hmix zW.ok
theorem yH.ok : funcOk (EE []) 38 yH.x = true := by kernel_rfl
theorem yH.sound (N : Nat) : SD 38 yH.x.sig (yH.fs N) := sound_of N (known_nil) hQs hmix yH.ok
theorem yh.ok : funcOk (EE [(167, (zL.x.sig, true)), (172, (yZ.x.sig, true)), (173, (zc.x.sig, true)), (71, (yH.x.sig, true)), (70, (zW.x.sig, true))]) 14 yh.x = true := by kernel_rfl
theorem yh.sound (N : Nat) : SD 14 yh.x.sig (yh.fs N) := sound_of N (kC (n := 167) (by kernel_rfl) (zL.sound N) rfl (kC (n := 172) (by kernel_rfl) (yZ.sound N) rfl (kC (n := 173) (by kernel_rfl) (zc.sound N) rfl (kC (n := 71) (by kernel_rfl) (yH.sound N) rfl (kC (n := 70) (by kernel_rfl) (zW.sound N) rfl (known_nil)))))) hQs hmix yh.ok
theorem za.ok : funcOk (EE []) 118 za.x = true := by kernel_rfl
theorem za.sound (N : Nat) : SD 118 za.x.sig (za.fs N) := sound_of N (known_nil) hQs hmix za.ok
theorem zZ.ok : funcOk (EE []) 119 zZ.x = true := by kernel_rfl
theorem zZ.sound (N : Nat) : SD 119 zZ.x.sig (zZ.fs N) := sound_of N (known_nil) hQs hmix zZ.ok
theorem z3.ok : funcOk (EE [(161, (za.x.sig, true)), (162, (zZ.x.sig, true))]) 78 z3.x = true := by kernel_rfl
theorem z3.sound (N : Nat) : SD 78 z3.x.sig (z3.fs N) := sound_of N (kC (n := 161) (by kernel_rfl) (za.sound N) rfl (kC (n := 162) (by kernel_rfl) (zZ.sound N) rfl (known_nil))) hQs hmix z3.ok
theorem yF.ok : funcOk (EE [(171, (z3.x.sig, true))]) 39 yF.x = true := by kernel_rfl
theorem yF.sound (N : Nat) : SD 39 yF.x.sig (yF.fs N) := sound_of N (kC (n := 171) (by kernel_rfl) (z3.sound N) rfl (known_nil)) hQs hmix yF.ok
theorem z9.ok : funcOk (EE []) 121 z9.x = true := by kernel_rfl
theorem z9.sound (N : Nat) : SD 121 z9.x.sig (z9.fs N) := sound_of N (known_nil) hQs hmix z9.ok
theorem yY.ok : funcOk (EE []) 180 yY.x = true := by kernel_rfl
theorem yY.sound (N : Nat) : SD 180 yY.x.sig (yY.fs N) := sound_of N (known_nil) hQs hmix yY.ok
theorem z8.ok : funcOk (EE []) 182 z8.x = true := by kernel_rfl
theorem z8.sound (N : Nat) : SD 182 z8.x.sig (z8.fs N) := sound_of N (known_nil) hQs hmix z8.ok
theorem zk.ok : funcOk (EE [(201, (ext_sort_Ints.sig, true)), (114, (yY.x.sig, true)), (202, (z8.x.sig, true))]) 157 zk.x = true := by kernel_rfl
theorem zk.sound (N : Nat) : SD 157 zk.x.sig (zk.fs N) := sound_of N (kC (n := 201) (by kernel_rfl) (ext_sort_Ints.sound N) rfl (kC (n := 114) (by kernel_rfl) (yY.sound N) rfl (kC (n := 202) (by kernel_rfl) (z8.sound N) rfl (known_nil)))) hQs hmix zk.ok
theorem zH.ok : funcOk (EE [(164, (zf.x.sig, true)), (203, (zk.x.sig, true))]) 123 zH.x = true := by kernel_rfl
theorem zH.sound (N : Nat) : SD 123 zH.x.sig (zH.fs N) := sound_of N (kC (n := 164) (by kernel_rfl) (zf.sound N) rfl (kC (n := 203) (by kernel_rfl) (zk.sound N) rfl (known_nil))) hQs hmix zH.ok
theorem zo.ok : funcOk (EE []) 89 zo.x = true := by kernel_rfl
theorem zo.sound (N : Nat) : SD 89 zo.x.sig (zo.fs N) := sound_of N (known_nil) hQs hmix zo.ok
theorem yU.ok : funcOk (EE [(205, (zo.x.sig, true))]) 50 yU.x = true := by kernel_rfl
theorem yU.sound (N : Nat) : SD 50 yU.x.sig (yU.fs N) := sound_of N (kC (n := 205) (by kernel_rfl) (zo.sound N) rfl (known_nil)) hQs hmix yU.ok
theorem zD.ok : funcOk (EE [(206, (yU.x.sig, true))]) 122 zD.x = true := by kernel_rfl
theorem zD.sound (N : Nat) : SD 122 zD.x.sig (zD.fs N) := sound_of N (kC (n := 206) (by kernel_rfl) (yU.sound N) rfl (known_nil)) hQs hmix zD.ok
theorem yl.ok : funcOk (EE [(179, (z9.x.sig, true)), (204, (zH.x.sig, true)), (207, (zD.x.sig, false)), (171, (z3.x.sig, true))]) 80 yl.x = true := by kernel_rfl
theorem yl.sound (N : Nat) : SD 80 yl.x.sig (yl.fs N) := sound_of N (kC (n := 179) (by kernel_rfl) (z9.sound N) rfl (kC (n := 204) (by kernel_rfl) (zH.sound N) rfl (kC (n := 207) (by kernel_rfl) (zD.sound N) rfl (kC (n := 171) (by kernel_rfl) (z3.sound N) rfl (known_nil))))) hQs hmix yl.ok
theorem zV.ok : funcOk (EE [(164, (zf.x.sig, true))]) 12 zV.x = true := by kernel_rfl
theorem zV.sound (N : Nat) : SD 12 zV.x.sig (zV.fs N) := sound_of N (kC (n := 164) (by kernel_rfl) (zf.sound N) rfl (known_nil)) hQs hmix zV.ok
theorem zn.ok : funcOk (EE [(65, (ys.x.sig, true))]) 84 zn.x = true := by kernel_rfl
theorem zn.sound (N : Nat) : SD 84 zn.x.sig (zn.fs N) := sound_of N (kC (n := 65) (by kernel_rfl) (ys.sound N) rfl (known_nil)) hQs hmix zn.ok
theorem yt.ok : funcOk (EE [(163, (zF.x.sig, true)), (210, (zn.x.sig, true))]) 45 yt.x = true := by kernel_rfl
theorem yt.sound (N : Nat) : SD 45 yt.x.sig (yt.fs N) := sound_of N (kC (n := 163) (by kernel_rfl) (zF.sound N) rfl (kC (n := 210) (by kernel_rfl) (zn.sound N) rfl (known_nil))) hQs hmix yt.ok
theorem ya.ok : funcOk (EE [(211, (yt.x.sig, true))]) 11 ya.x = true := by kernel_rfl
theorem ya.sound (N : Nat) : SD 11 ya.x.sig (ya.fs N) := sound_of N (kC (n := 211) (by kernel_rfl) (yt.sound N) rfl (known_nil)) hQs hmix ya.ok
theorem zx.ok : funcOk (EE [(156, (yB.x.sig, true))]) 13 zx.x = true := by kernel_rfl
theorem zx.sound (N : Nat) : SD 13 zx.x.sig (zx.fs N) := sound_of N (kC (n := 156) (by kernel_rfl) (yB.sound N) rfl (known_nil)) hQs hmix zx.ok
theorem zb.ok : funcOk (EE [(68, (yf.x.sig, true)), (172, (yZ.x.sig, true)), (65, (ys.x.sig, true))]) 81 zb.x = true := by kernel_rfl
theorem zb.sound (N : Nat) : SD 81 zb.x.sig (zb.fs N) := sound_of N (kC (n := 68) (by kernel_rfl) (yf.sound N) rfl (kC (n := 172) (by kernel_rfl) (yZ.sound N) rfl (kC (n := 65) (by kernel_rfl) (ys.sound N) rfl (known_nil)))) hQs hmix zb.ok
theorem y1.ok : funcOk (EE [(157, (zx.x.sig, true))]) 124 y1.x = true := by kernel_rfl
theorem y1.sound (N : Nat) : SD 124 y1.x.sig (y1.fs N) := sound_of N (kC (n := 157) (by kernel_rfl) (zx.sound N) rfl (known_nil)) hQs hmix y1.ok
theorem y5.ok : funcOk (EE [(157, (zx.x.sig, true))]) 125 y5.x = true := by kernel_rfl
theorem y5.sound (N : Nat) : SD 125 y5.x.sig (y5.fs N) := sound_of N (kC (n := 157) (by kernel_rfl) (zx.sound N) rfl (known_nil)) hQs hmix y5.ok
theorem yV.ok : funcOk (EE []) 158 yV.x = true := by kernel_rfl
theorem yV.sound (N : Nat) : SD 158 yV.x.sig (yV.fs N) := sound_of N (known_nil) hQs hmix yV.ok
theorem yw.ok : funcOk (EE [(215, (yV.x.sig, true))]) 126 yw.x = true := by kernel_rfl
theorem yw.sound (N : Nat) : SD 126 yw.x.sig (yw.fs N) := sound_of N (kC (n := 215) (by kernel_rfl) (yV.sound N) rfl (known_nil)) hQs hmix yw.ok
theorem zU.ok : funcOk (EE [(203, (zk.x.sig, true)), (114, (yY.x.sig, true))]) 159 zU.x = true := by kernel_rfl
theorem zU.sound (N : Nat) : SD 159 zU.x.sig (zU.fs N) := sound_of N (kC (n := 203) (by kernel_rfl) (zk.sound N) rfl (kC (n := 114) (by kernel_rfl) (yY.sound N) rfl (known_nil))) hQs hmix zU.ok
theorem zK.ok : funcOk (EE [(164, (zf.x.sig, true)), (166, (ze.x.sig, true)), (204, (zH.x.sig, true)), (165, (zz.x.sig, true)), (217, (zU.x.sig, true))]) 127 zK.x = true := by kernel_rfl
theorem zK.sound (N : Nat) : SD 127 zK.x.sig (zK.fs N) := sound_of N (kC (n := 164) (by kernel_rfl) (zf.sound N) rfl (kC (n := 166) (by kernel_rfl) (ze.sound N) rfl (kC (n := 204) (by kernel_rfl) (zH.sound N) rfl (kC (n := 165) (by kernel_rfl) (zz.sound N) rfl (kC (n := 217) (by kernel_rfl) (zU.sound N) rfl (known_nil)))))) hQs hmix zK.ok
theorem ym.ok : funcOk (EE [(214, (y1.x.sig, true)), (209, (zV.x.sig, true)), (218, (zK.x.sig, true)), (204, (zH.x.sig, true)), (158, (y5.x.sig, true)), (207, (zD.x.sig, false)), (171, (z3.x.sig, true)), (210, (zn.x.sig, true)), (216, (yw.x.sig, false))]) 82 ym.x = true := by kernel_rfl
theorem ym.sound (N : Nat) : SD 82 ym.x.sig (ym.fs N) := sound_of N (kC (n := 214) (by kernel_rfl) (y1.sound N) rfl (kC (n := 209) (by kernel_rfl) (zV.sound N) rfl (kC (n := 218) (by kernel_rfl) (zK.sound N) rfl (kC (n := 204) (by kernel_rfl) (zH.sound N) rfl (kC (n := 158) (by kernel_rfl) (y5.sound N) rfl (kC (n := 207) (by kernel_rfl) (zD.sound N) rfl (kC (n := 171) (by kernel_rfl) (z3.sound N) rfl (kC (n := 210) (by kernel_rfl) (zn.sound N) rfl (kC (n := 216) (by kernel_rfl) (yw.sound N) rfl (known_nil)))))))))) hQs hmix ym.ok
theorem zv.ok : funcOk (EE [(212, (ya.x.sig, true)), (213, (zb.x.sig, true)), (157, (zx.x.sig, true)), (209, (zV.x.sig, true)), (219, (ym.x.sig, false)), (208, (yl.x.sig, false))]) 42 zv.x = true := by kernel_rfl
theorem zv.sound (N : Nat) : SD 42 zv.x.sig (zv.fs N) := sound_of N (kC (n := 212) (by kernel_rfl) (ya.sound N) rfl (kC (n := 213) (by kernel_rfl) (zb.sound N) rfl (kC (n := 157) (by kernel_rfl) (zx.sound N) rfl (kC (n := 209) (by kernel_rfl) (zV.sound N) rfl (kC (n := 219) (by kernel_rfl) (ym.sound N) rfl (kC (n := 208) (by kernel_rfl) (yl.sound N) rfl (known_nil))))))) hQs hmix zv.ok
theorem yd.ok : funcOk (EE []) 43 yd.x = true := by kernel_rfl
theorem yd.sound (N : Nat) : SD 43 yd.x.sig (yd.fs N) := sound_of N (known_nil) hQs hmix yd.ok
theorem zT.ok : funcOk (EE [(220, (zv.x.sig, false)), (174, (yh.x.sig, true)), (178, (yF.x.sig, true)), (173, (zc.x.sig, true)), (71, (yH.x.sig, true)), (70, (zW.x.sig, true)), (221, (yd.x.sig, false))]) 9 zT.x = true := by kernel_rfl
theorem zT.sound (N : Nat) : SD 9 zT.x.sig (zT.fs N) := sound_of N (kC (n := 220) (by kernel_rfl) (zv.sound N) rfl (kC (n := 174) (by kernel_rfl) (yh.sound N) rfl (kC (n := 178) (by kernel_rfl) (yF.sound N) rfl (kC (n := 173) (by kernel_rfl) (zc.sound N) rfl (kC (n := 71) (by kernel_rfl) (yH.sound N) rfl (kC (n := 70) (by kernel_rfl) (zW.sound N) rfl (kC (n := 221) (by kernel_rfl) (yd.sound N) rfl (known_nil)))))))) hQs hmix zT.ok
theorem zi.ok : funcOk (EE [(153, (yE.x.sig, true))]) 10 zi.x = true := by kernel_rfl
theorem zi.sound (N : Nat) : SD 10 zi.x.sig (zi.fs N) := sound_of N (kC (n := 153) (by kernel_rfl) (yE.sound N) rfl (known_nil)) hQs hmix zi.ok
theorem laws_FnPrompt.ok : funcOk (EE [(212, (ya.x.sig, true)), (263, (zi.x.sig, true)), (157, (zx.x.sig, true)), (209, (zV.x.sig, true)), (222, (zT.x.sig, false)), (31, (zAC.x.sig, true)), (323, (yO.x.sig, false))]) 3 laws_FnPrompt.x = true := by kernel_rfl
theorem laws_FnPrompt.sound (N : Nat) : SD 3 laws_FnPrompt.x.sig (laws_FnPrompt.fs N) := sound_of N (kC (n := 212) (by kernel_rfl) (ya.sound N) rfl (kC (n := 263) (by kernel_rfl) (zi.sound N) rfl (kC (n := 157) (by kernel_rfl) (zx.sound N) rfl (kC (n := 209) (by kernel_rfl) (zV.sound N) rfl (kC (n := 222) (by kernel_rfl) (zT.sound N) rfl (kC (n := 31) (by kernel_rfl) (zAC.sound N) rfl (kC (n := 323) (by kernel_rfl) (yO.sound N) rfl (known_nil)))))))) hQs hmix laws_FnPrompt.ok
end Go.Kb
