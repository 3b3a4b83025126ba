/- Each function of the law does what its abstract text does, over the program. -/
import Derived.Test.YticidpdbkjgebaaGreatKc
import Derived.Test.YticidpdbkjgebaaGreatExactPlayEventsP0toF3
import Derived.Test.YticidpdbkjgebaaGreatExactPlayEventsF4
import Derived.Test.YticidpdbkjgebaaGreatExactPlayEventsP15toP90
import Derived.Test.YticidpdbkjgebaaGreatExactPlayEventsP93toF8
import Derived.Test.YticidpdbkjgebaaGreatExactPlayEventsF30
import Derived.Test.YticidpdbkjgebaaGreatExactPlayEventsP69toP119
import Derived.Test.YticidpdbkjgebaaGreatExactPlayEventsF33
import Derived.Test.YticidpdbkjgebaaGreatRows
import Derived.Test.YticidpdbkjgebaaGreatShelf
import Derived.Test.YticidpdbkjgebaaGreatKd
import Derived.KernelRfl
namespace Go.Kb
def TM : List (Nat × Nat) := [(2, 3), (1, 5), (16, 9), (6, 41), (12, 43), (13, 45), (4, 48), (8, 50), (9, 95), (15, 98), (11, 135), (10, 171), (14, 173)]
def FM : List (Nat × Nat) := [(422, 160), (423, 129), (424, 92), (425, 130), (426, 93), (427, 94), (428, 53), (123, 21), (429, 20), (430, 173), (431, 171), (432, 143), (433, 101), (434, 172), (435, 144), (436, 102), (437, 145), (438, 103), (439, 60), (440, 61), (128, 62), (129, 24), (441, 23), (1, 55), (283, 161), (284, 131), (285, 136), (286, 132), (287, 162), (288, 163), (289, 140), (290, 133), (291, 95), (296, 96), (57, 76), (297, 57), (40, 97), (41, 56), (298, 54), (292, 98), (293, 58), (301, 135), (302, 164), (303, 134), (304, 137), (305, 139), (306, 165), (307, 166), (308, 186), (309, 183), (310, 167), (311, 142), (312, 184), (313, 168), (277, 169), (314, 170), (315, 141), (316, 138), (317, 99), (318, 100), (319, 59), (320, 22), (442, 143), (443, 101), (444, 102), (445, 60), (446, 23), (153, 44), (154, 86), (155, 87), (156, 47), (163, 83), (65, 85), (164, 46), (165, 128), (166, 88), (167, 48), (172, 49), (173, 41), (68, 120), (69, 79), (70, 40), (71, 38), (174, 14), (447, 118), (448, 119), (449, 78), (450, 39), (179, 121), (114, 180), (201, 181), (202, 182), (203, 157), (204, 123), (205, 89), (206, 50), (451, 122), (452, 80), (209, 12), (210, 84), (211, 45), (212, 11), (157, 13), (213, 81), (214, 124), (158, 125), (215, 158), (453, 126), (217, 159), (454, 127), (455, 82), (456, 42), (457, 43), (458, 9), (459, 176), (460, 174), (461, 146), (462, 104), (389, 175), (390, 147), (463, 105), (464, 148), (465, 106), (466, 63), (467, 64), (135, 66), (136, 27), (468, 25), (239, 149), (265, 107), (469, 65), (470, 26), (471, 177), (472, 150), (473, 108), (391, 151), (474, 109), (475, 110), (476, 67), (141, 29), (477, 28), (242, 68), (478, 30), (479, 178), (480, 152), (481, 111), (392, 153), (482, 112), (483, 113), (484, 69), (145, 70), (485, 31), (245, 71), (486, 32), (487, 6)]
def GB : Nat -> Prop := fun _ => False
def QW : World -> Prop := fun _ => True
theorem hQs : ∀ w w' : World, (∀ b, GB b -> w'.heap[b]? = w.heap[b]?) -> QW w -> QW w' := fun _ _ _ _ => trivial
theorem ext_sort_Ints.sound (N : Nat) : Sound Go.Proofs.Tryz.prog (natTbl TM) GB QW 181 ext_sort_Ints.sig (ext_sort_Ints.fs N) := sort_sound (fun blk off cap zs w h1 h2 h3 => Go.Proofs.Tryz.sort_Ints blk off cap zs w h1 h2 h3) (fun p cap w => Go.Proofs.Tryz.sort_Ints_none p cap w) N
theorem hmix : Go.Proofs.Tryz.prog.follows .mixedOrders = true := by kernel_rfl
noncomputable abbrev EE (l : List (Nat × (Sig × Bool))) : Env1 := mkE Go.Proofs.Tryz.prog GB QW TM FM l
abbrev SD (i : FuncId) (g : Sig) (f : FS) : Prop := Sound Go.Proofs.Tryz.prog (natTbl TM) GB QW i g f
theorem kC {n : Nat} {g : Sig} {fr : Bool} {f : FS} {l : List (Nat × (Sig × Bool))} {r : List (Nat × FS)} {fid : FuncId} (hid : natTbl FM n = fid) (hs : SD fid g f) (hf : (f.fresh && !f.keep) = fr) (hk : Known (EE l) (tbl r noFS)) : Known (EE ((n, (g, fr)) :: l)) (tbl ((n, f) :: r) noFS) := known_cons (fm := FM) hid hs hf hk
theorem zAN.ok : z4 (EE []) 160 zAN.x = true := by kernel_rfl
theorem zAN.sound (N : Nat) : SD 160 zAN.x.sig (zAN.fs N) := zM N (zD) hQs hmix zAN.ok
theorem zn.ok : z4 (EE [(422, (zAN.x.sig, true))]) 129 zn.x = true := by kernel_rfl
theorem zn.sound (N : Nat) : SD 129 zn.x.sig (zn.fs N) := zM N (kC (n := 422) (by kernel_rfl) (zAN.sound N) rfl (zD)) hQs hmix zn.ok
theorem zAh.ok : z4 (EE [(423, (zn.x.sig, true))]) 92 zAh.x = true := by kernel_rfl
theorem zAh.sound (N : Nat) : SD 92 zAh.x.sig (zAh.fs N) := zM N (kC (n := 423) (by kernel_rfl) (zn.sound N) rfl (zD)) hQs hmix zAh.ok
theorem zAm.ok : z4 (EE []) 130 zAm.x = true := by kernel_rfl
theorem zAm.sound (N : Nat) : SD 130 zAm.x.sig (zAm.fs N) := zM N (zD) hQs hmix zAm.ok
theorem yE.ok : z4 (EE [(425, (zAm.x.sig, true))]) 93 yE.x = true := by kernel_rfl
theorem yE.sound (N : Nat) : SD 93 yE.x.sig (yE.fs N) := zM N (kC (n := 425) (by kernel_rfl) (zAm.sound N) rfl (zD)) hQs hmix yE.ok
theorem zAs.ok : z4 (EE []) 94 zAs.x = true := by kernel_rfl
theorem zAs.sound (N : Nat) : SD 94 zAs.x.sig (zAs.fs N) := zM N (zD) hQs hmix zAs.ok
theorem zAi.ok : z4 (EE [(427, (zAs.x.sig, true)), (424, (zAh.x.sig, true)), (426, (yE.x.sig, true))]) 53 zAi.x = true := by kernel_rfl
theorem zAi.sound (N : Nat) : SD 53 zAi.x.sig (zAi.fs N) := zM N (kC (n := 427) (by kernel_rfl) (zAs.sound N) rfl (kC (n := 424) (by kernel_rfl) (zAh.sound N) rfl (kC (n := 426) (by kernel_rfl) (yE.sound N) rfl (zD)))) hQs hmix zAi.ok
theorem zAK.ok : z4 (EE []) 21 zAK.x = true := by kernel_rfl
theorem zAK.sound (N : Nat) : SD 21 zAK.x.sig (zAK.fs N) := zM N (zD) hQs hmix zAK.ok
theorem zAV.ok : z4 (EE [(428, (zAi.x.sig, true)), (123, (zAK.x.sig, true))]) 20 zAV.x = true := by kernel_rfl
theorem zAV.sound (N : Nat) : SD 20 zAV.x.sig (zAV.fs N) := zM N (kC (n := 428) (by kernel_rfl) (zAi.sound N) rfl (kC (n := 123) (by kernel_rfl) (zAK.sound N) rfl (zD))) hQs hmix zAV.ok
theorem y8.ok : z4 (EE []) 173 y8.x = true := by kernel_rfl
theorem y8.sound (N : Nat) : SD 173 y8.x.sig (y8.fs N) := zM N (zD) hQs hmix y8.ok
theorem zi.ok : z4 (EE [(430, (y8.x.sig, true))]) 171 zi.x = true := by kernel_rfl
theorem zi.sound (N : Nat) : SD 171 zi.x.sig (zi.fs N) := zM N (kC (n := 430) (by kernel_rfl) (y8.sound N) rfl (zD)) hQs hmix zi.ok
theorem zm.ok : z4 (EE [(431, (zi.x.sig, true))]) 143 zm.x = true := by kernel_rfl
theorem zm.sound (N : Nat) : SD 143 zm.x.sig (zm.fs N) := zM N (kC (n := 431) (by kernel_rfl) (zi.sound N) rfl (zD)) hQs hmix zm.ok
theorem zAf.ok : z4 (EE [(432, (zm.x.sig, true))]) 101 zAf.x = true := by kernel_rfl
theorem zAf.sound (N : Nat) : SD 101 zAf.x.sig (zAf.fs N) := zM N (kC (n := 432) (by kernel_rfl) (zm.sound N) rfl (zD)) hQs hmix zAf.ok
theorem zA3.ok : z4 (EE []) 172 zA3.x = true := by kernel_rfl
theorem zA3.sound (N : Nat) : SD 172 zA3.x.sig (zA3.fs N) := zM N (zD) hQs hmix zA3.ok
theorem yB.ok : z4 (EE [(434, (zA3.x.sig, true))]) 144 yB.x = true := by kernel_rfl
theorem yB.sound (N : Nat) : SD 144 yB.x.sig (yB.fs N) := zM N (kC (n := 434) (by kernel_rfl) (zA3.sound N) rfl (zD)) hQs hmix yB.ok
theorem yD.ok : z4 (EE [(435, (yB.x.sig, true))]) 102 yD.x = true := by kernel_rfl
theorem yD.sound (N : Nat) : SD 102 yD.x.sig (yD.fs N) := zM N (kC (n := 435) (by kernel_rfl) (yB.sound N) rfl (zD)) hQs hmix yD.ok
theorem zA4.ok : z4 (EE [(430, (y8.x.sig, true))]) 145 zA4.x = true := by kernel_rfl
theorem zA4.sound (N : Nat) : SD 145 zA4.x.sig (zA4.fs N) := zM N (kC (n := 430) (by kernel_rfl) (y8.sound N) rfl (zD)) hQs hmix zA4.ok
theorem yK.ok : z4 (EE [(437, (zA4.x.sig, true))]) 103 yK.x = true := by kernel_rfl
theorem yK.sound (N : Nat) : SD 103 yK.x.sig (yK.fs N) := zM N (kC (n := 437) (by kernel_rfl) (zA4.sound N) rfl (zD)) hQs hmix yK.ok
theorem zAg.ok : z4 (EE [(438, (yK.x.sig, true)), (433, (zAf.x.sig, true)), (436, (yD.x.sig, true))]) 60 zAg.x = true := by kernel_rfl
theorem zAg.sound (N : Nat) : SD 60 zAg.x.sig (zAg.fs N) := zM N (kC (n := 438) (by kernel_rfl) (yK.sound N) rfl (kC (n := 433) (by kernel_rfl) (zAf.sound N) rfl (kC (n := 436) (by kernel_rfl) (yD.sound N) rfl (zD)))) hQs hmix zAg.ok
theorem zAJ.ok : z4 (EE []) 61 zAJ.x = true := by kernel_rfl
theorem zAJ.sound (N : Nat) : SD 61 zAJ.x.sig (zAJ.fs N) := zM N (zD) hQs hmix zAJ.ok
theorem zAr.ok : z4 (EE []) 62 zAr.x = true := by kernel_rfl
theorem zAr.sound (N : Nat) : SD 62 zAr.x.sig (zAr.fs N) := zM N (zD) hQs hmix zAr.ok
theorem zd.ok : z4 (EE [(128, (zAr.x.sig, true))]) 24 zd.x = true := by kernel_rfl
theorem zd.sound (N : Nat) : SD 24 zd.x.sig (zd.fs N) := zM N (kC (n := 128) (by kernel_rfl) (zAr.sound N) rfl (zD)) hQs hmix zd.ok
theorem zAG.ok : z4 (EE [(439, (zAg.x.sig, true)), (129, (zd.x.sig, true)), (440, (zAJ.x.sig, true))]) 23 zAG.x = true := by kernel_rfl
theorem zAG.sound (N : Nat) : SD 23 zAG.x.sig (zAG.fs N) := zM N (kC (n := 439) (by kernel_rfl) (zAg.sound N) rfl (kC (n := 129) (by kernel_rfl) (zd.sound N) rfl (kC (n := 440) (by kernel_rfl) (zAJ.sound N) rfl (zD)))) hQs hmix zAG.ok
theorem zS.ok : z4 (EE []) 55 zS.x = true := by kernel_rfl
theorem zS.sound (N : Nat) : SD 55 zS.x.sig (zS.fs N) := zM N (zD) hQs hmix zS.ok
theorem yh.ok : z4 (EE [(1, (zS.x.sig, true))]) 161 yh.x = true := by kernel_rfl
theorem yh.sound (N : Nat) : SD 161 yh.x.sig (yh.fs N) := zM N (kC (n := 1) (by kernel_rfl) (zS.sound N) rfl (zD)) hQs hmix yh.ok
theorem zE.ok : z4 (EE [(283, (yh.x.sig, true)), (1, (zS.x.sig, true))]) 131 zE.x = true := by kernel_rfl
theorem zE.sound (N : Nat) : SD 131 zE.x.sig (zE.fs N) := zM N (kC (n := 283) (by kernel_rfl) (yh.sound N) rfl (kC (n := 1) (by kernel_rfl) (zS.sound N) rfl (zD))) hQs hmix zE.ok
theorem yU.ok : z4 (EE [(283, (yh.x.sig, true))]) 136 yU.x = true := by kernel_rfl
theorem yU.sound (N : Nat) : SD 136 yU.x.sig (yU.fs N) := zM N (kC (n := 283) (by kernel_rfl) (yh.sound N) rfl (zD)) hQs hmix yU.ok
theorem yA.ok : z4 (EE [(283, (yh.x.sig, true)), (285, (yU.x.sig, true)), (1, (zS.x.sig, true))]) 132 yA.x = true := by kernel_rfl
theorem yA.sound (N : Nat) : SD 132 yA.x.sig (yA.fs N) := zM N (kC (n := 283) (by kernel_rfl) (yh.sound N) rfl (kC (n := 285) (by kernel_rfl) (yU.sound N) rfl (kC (n := 1) (by kernel_rfl) (zS.sound N) rfl (zD)))) hQs hmix yA.ok
theorem yQ.ok : z4 (EE []) 162 yQ.x = true := by kernel_rfl
theorem yQ.sound (N : Nat) : SD 162 yQ.x.sig (yQ.fs N) := zM N (zD) hQs hmix yQ.ok
theorem y7.ok : z4 (EE []) 163 y7.x = true := by kernel_rfl
theorem y7.sound (N : Nat) : SD 163 y7.x.sig (y7.fs N) := zM N (zD) hQs hmix y7.ok
theorem yY.ok : z4 (EE []) 140 yY.x = true := by kernel_rfl
theorem yY.sound (N : Nat) : SD 140 yY.x.sig (yY.fs N) := zM N (zD) hQs hmix yY.ok
theorem z8.ok : z4 (EE [(283, (yh.x.sig, true)), (1, (zS.x.sig, true)), (288, (y7.x.sig, true)), (287, (yQ.x.sig, true)), (289, (yY.x.sig, true))]) 133 z8.x = true := by kernel_rfl
theorem z8.sound (N : Nat) : SD 133 z8.x.sig (z8.fs N) := zM N (kC (n := 283) (by kernel_rfl) (yh.sound N) rfl (kC (n := 1) (by kernel_rfl) (zS.sound N) rfl (kC (n := 288) (by kernel_rfl) (y7.sound N) rfl (kC (n := 287) (by kernel_rfl) (yQ.sound N) rfl (kC (n := 289) (by kernel_rfl) (yY.sound N) rfl (zD)))))) hQs hmix z8.ok
theorem zH.ok : z4 (EE [(286, (yA.x.sig, true)), (284, (zE.x.sig, true)), (290, (z8.x.sig, true)), (1, (zS.x.sig, true))]) 95 zH.x = true := by kernel_rfl
theorem zH.sound (N : Nat) : SD 95 zH.x.sig (zH.fs N) := zM N (kC (n := 286) (by kernel_rfl) (yA.sound N) rfl (kC (n := 284) (by kernel_rfl) (zE.sound N) rfl (kC (n := 290) (by kernel_rfl) (z8.sound N) rfl (kC (n := 1) (by kernel_rfl) (zS.sound N) rfl (zD))))) hQs hmix zH.ok
theorem zAH.ok : z4 (EE [(1, (zS.x.sig, true))]) 96 zAH.x = true := by kernel_rfl
theorem zAH.sound (N : Nat) : SD 96 zAH.x.sig (zAH.fs N) := zM N (kC (n := 1) (by kernel_rfl) (zS.sound N) rfl (zD)) hQs hmix zAH.ok
theorem zA1.ok : z4 (EE [(1, (zS.x.sig, true))]) 76 zA1.x = true := by kernel_rfl
theorem zA1.sound (N : Nat) : SD 76 zA1.x.sig (zA1.fs N) := zM N (kC (n := 1) (by kernel_rfl) (zS.sound N) rfl (zD)) hQs hmix zA1.ok
theorem yJ.ok : z4 (EE [(57, (zA1.x.sig, true))]) 57 yJ.x = true := by kernel_rfl
theorem yJ.sound (N : Nat) : SD 57 yJ.x.sig (yJ.fs N) := zM N (kC (n := 57) (by kernel_rfl) (zA1.sound N) rfl (zD)) hQs hmix yJ.ok
theorem zAQ.ok : z4 (EE [(1, (zS.x.sig, true))]) 97 zAQ.x = true := by kernel_rfl
theorem zAQ.sound (N : Nat) : SD 97 zAQ.x.sig (zAQ.fs N) := zM N (kC (n := 1) (by kernel_rfl) (zS.sound N) rfl (zD)) hQs hmix zAQ.ok
theorem zU.ok : z4 (EE [(40, (zAQ.x.sig, true))]) 56 zU.x = true := by kernel_rfl
theorem zU.sound (N : Nat) : SD 56 zU.x.sig (zU.fs N) := zM N (kC (n := 40) (by kernel_rfl) (zAQ.sound N) rfl (zD)) hQs hmix zU.ok
theorem zAS.ok : z4 (EE [(291, (zH.x.sig, true)), (296, (zAH.x.sig, true)), (41, (zU.x.sig, true)), (297, (yJ.x.sig, true)), (1, (zS.x.sig, true))]) 54 zAS.x = true := by kernel_rfl
theorem zAS.sound (N : Nat) : SD 54 zAS.x.sig (zAS.fs N) := zM N (kC (n := 291) (by kernel_rfl) (zH.sound N) rfl (kC (n := 296) (by kernel_rfl) (zAH.sound N) rfl (kC (n := 41) (by kernel_rfl) (zU.sound N) rfl (kC (n := 297) (by kernel_rfl) (yJ.sound N) rfl (kC (n := 1) (by kernel_rfl) (zS.sound N) rfl (zD)))))) hQs hmix zAS.ok
theorem yc.ok : z4 (EE []) 98 yc.x = true := by kernel_rfl
theorem yc.sound (N : Nat) : SD 98 yc.x.sig (yc.fs N) := zM N (zD) hQs hmix yc.ok
theorem yI.ok : z4 (EE [(292, (yc.x.sig, true))]) 58 yI.x = true := by kernel_rfl
theorem yI.sound (N : Nat) : SD 58 yI.x.sig (yI.fs N) := zM N (kC (n := 292) (by kernel_rfl) (yc.sound N) rfl (zD)) hQs hmix yI.ok
theorem zl.ok : z4 (EE [(286, (yA.x.sig, true)), (1, (zS.x.sig, true))]) 135 zl.x = true := by kernel_rfl
theorem zl.sound (N : Nat) : SD 135 zl.x.sig (zl.fs N) := zM N (kC (n := 286) (by kernel_rfl) (yA.sound N) rfl (kC (n := 1) (by kernel_rfl) (zS.sound N) rfl (zD))) hQs hmix zl.ok
theorem yR.ok : z4 (EE [(284, (zE.x.sig, true)), (1, (zS.x.sig, true))]) 164 yR.x = true := by kernel_rfl
theorem yR.sound (N : Nat) : SD 164 yR.x.sig (yR.fs N) := zM N (kC (n := 284) (by kernel_rfl) (zE.sound N) rfl (kC (n := 1) (by kernel_rfl) (zS.sound N) rfl (zD))) hQs hmix yR.ok
theorem zAI.ok : z4 (EE [(302, (yR.x.sig, true))]) 134 zAI.x = true := by kernel_rfl
theorem zAI.sound (N : Nat) : SD 134 zAI.x.sig (zAI.fs N) := zM N (kC (n := 302) (by kernel_rfl) (yR.sound N) rfl (zD)) hQs hmix zAI.ok
theorem zb.ok : z4 (EE [(40, (zAQ.x.sig, true)), (296, (zAH.x.sig, true)), (1, (zS.x.sig, true))]) 137 zb.x = true := by kernel_rfl
theorem zb.sound (N : Nat) : SD 137 zb.x.sig (zb.fs N) := zM N (kC (n := 40) (by kernel_rfl) (zAQ.sound N) rfl (kC (n := 296) (by kernel_rfl) (zAH.sound N) rfl (kC (n := 1) (by kernel_rfl) (zS.sound N) rfl (zD)))) hQs hmix zb.ok
theorem yV.ok : z4 (EE []) 139 yV.x = true := by kernel_rfl
theorem yV.sound (N : Nat) : SD 139 yV.x.sig (yV.fs N) := zM N (zD) hQs hmix yV.ok
theorem zA2.ok : z4 (EE [(285, (yU.x.sig, true))]) 165 zA2.x = true := by kernel_rfl
theorem zA2.sound (N : Nat) : SD 165 zA2.x.sig (zA2.fs N) := zM N (kC (n := 285) (by kernel_rfl) (yU.sound N) rfl (zD)) hQs hmix zA2.ok
theorem zBA.ok : z4 (EE [(285, (yU.x.sig, true))]) 166 zBA.x = true := by kernel_rfl
theorem zBA.sound (N : Nat) : SD 166 zBA.x.sig (zBA.fs N) := zM N (kC (n := 285) (by kernel_rfl) (yU.sound N) rfl (zD)) hQs hmix zBA.ok
theorem zAB.ok : z4 (EE [(1, (zS.x.sig, true))]) 186 zAB.x = true := by kernel_rfl
theorem zAB.sound (N : Nat) : SD 186 zAB.x.sig (zAB.fs N) := zM N (kC (n := 1) (by kernel_rfl) (zS.sound N) rfl (zD)) hQs hmix zAB.ok
theorem zBE.ok : z4 (EE [(308, (zAB.x.sig, true))]) 183 zBE.x = true := by kernel_rfl
theorem zBE.sound (N : Nat) : SD 183 zBE.x.sig (zBE.fs N) := zM N (kC (n := 308) (by kernel_rfl) (zAB.sound N) rfl (zD)) hQs hmix zBE.ok
theorem zAZ.ok : z4 (EE [(309, (zBE.x.sig, false))]) 167 zAZ.x = true := by kernel_rfl
theorem zAZ.sound (N : Nat) : SD 167 zAZ.x.sig (zAZ.fs N) := zM N (kC (n := 309) (by kernel_rfl) (zBE.sound N) rfl (zD)) hQs hmix zAZ.ok
theorem zB.ok : z4 (EE [(286, (yA.x.sig, true))]) 142 zB.x = true := by kernel_rfl
theorem zB.sound (N : Nat) : SD 142 zB.x.sig (zB.fs N) := zM N (kC (n := 286) (by kernel_rfl) (yA.sound N) rfl (zD)) hQs hmix zB.ok
theorem zA.ok : z4 (EE [(311, (zB.x.sig, true))]) 184 zA.x = true := by kernel_rfl
theorem zA.sound (N : Nat) : SD 184 zA.x.sig (zA.fs N) := zM N (kC (n := 311) (by kernel_rfl) (zB.sound N) rfl (zD)) hQs hmix zA.ok
theorem zK.ok : z4 (EE [(286, (yA.x.sig, true)), (290, (z8.x.sig, true)), (288, (y7.x.sig, true)), (287, (yQ.x.sig, true)), (312, (zA.x.sig, true)), (289, (yY.x.sig, true))]) 168 zK.x = true := by kernel_rfl
theorem zK.sound (N : Nat) : SD 168 zK.x.sig (zK.fs N) := zM N (kC (n := 286) (by kernel_rfl) (yA.sound N) rfl (kC (n := 290) (by kernel_rfl) (z8.sound N) rfl (kC (n := 288) (by kernel_rfl) (y7.sound N) rfl (kC (n := 287) (by kernel_rfl) (yQ.sound N) rfl (kC (n := 312) (by kernel_rfl) (zA.sound N) rfl (kC (n := 289) (by kernel_rfl) (yY.sound N) rfl (zD))))))) hQs hmix zK.ok
theorem ze.ok : z4 (EE []) 169 ze.x = true := by kernel_rfl
theorem ze.sound (N : Nat) : SD 169 ze.x.sig (ze.fs N) := zM N (zD) hQs hmix ze.ok
theorem zA0.ok : z4 (EE []) 170 zA0.x = true := by kernel_rfl
theorem zA0.sound (N : Nat) : SD 170 zA0.x.sig (zA0.fs N) := zM N (zD) hQs hmix zA0.ok
theorem zP.ok : z4 (EE [(277, (ze.x.sig, true)), (314, (zA0.x.sig, true))]) 141 zP.x = true := by kernel_rfl
theorem zP.sound (N : Nat) : SD 141 zP.x.sig (zP.fs N) := zM N (kC (n := 277) (by kernel_rfl) (ze.sound N) rfl (kC (n := 314) (by kernel_rfl) (zA0.sound N) rfl (zD))) hQs hmix zP.ok
theorem zAx.ok : z4 (EE [(303, (zAI.x.sig, true)), (305, (yV.x.sig, true)), (306, (zA2.x.sig, true)), (291, (zH.x.sig, true)), (301, (zl.x.sig, true)), (313, (zK.x.sig, true)), (311, (zB.x.sig, true)), (307, (zBA.x.sig, true)), (1, (zS.x.sig, true)), (315, (zP.x.sig, true)), (293, (yI.x.sig, true)), (310, (zAZ.x.sig, false))]) 138 zAx.x = true := by kernel_rfl
theorem zAx.sound (N : Nat) : SD 138 zAx.x.sig (zAx.fs N) := zM N (kC (n := 303) (by kernel_rfl) (zAI.sound N) rfl (kC (n := 305) (by kernel_rfl) (yV.sound N) rfl (kC (n := 306) (by kernel_rfl) (zA2.sound N) rfl (kC (n := 291) (by kernel_rfl) (zH.sound N) rfl (kC (n := 301) (by kernel_rfl) (zl.sound N) rfl (kC (n := 313) (by kernel_rfl) (zK.sound N) rfl (kC (n := 311) (by kernel_rfl) (zB.sound N) rfl (kC (n := 307) (by kernel_rfl) (zBA.sound N) rfl (kC (n := 1) (by kernel_rfl) (zS.sound N) rfl (kC (n := 315) (by kernel_rfl) (zP.sound N) rfl (kC (n := 293) (by kernel_rfl) (yI.sound N) rfl (kC (n := 310) (by kernel_rfl) (zAZ.sound N) rfl (zD))))))))))))) hQs hmix zAx.ok
theorem zAp.ok : z4 (EE [(303, (zAI.x.sig, true)), (304, (zb.x.sig, true)), (285, (yU.x.sig, true)), (301, (zl.x.sig, true)), (316, (zAx.x.sig, true))]) 99 zAp.x = true := by kernel_rfl
theorem zAp.sound (N : Nat) : SD 99 zAp.x.sig (zAp.fs N) := zM N (kC (n := 303) (by kernel_rfl) (zAI.sound N) rfl (kC (n := 304) (by kernel_rfl) (zb.sound N) rfl (kC (n := 285) (by kernel_rfl) (yU.sound N) rfl (kC (n := 301) (by kernel_rfl) (zl.sound N) rfl (kC (n := 316) (by kernel_rfl) (zAx.sound N) rfl (zD)))))) hQs hmix zAp.ok
theorem zAq.ok : z4 (EE [(305, (yV.x.sig, true)), (291, (zH.x.sig, true)), (311, (zB.x.sig, true)), (289, (yY.x.sig, true)), (315, (zP.x.sig, true)), (293, (yI.x.sig, true))]) 100 zAq.x = true := by kernel_rfl
theorem zAq.sound (N : Nat) : SD 100 zAq.x.sig (zAq.fs N) := zM N (kC (n := 305) (by kernel_rfl) (yV.sound N) rfl (kC (n := 291) (by kernel_rfl) (zH.sound N) rfl (kC (n := 311) (by kernel_rfl) (zB.sound N) rfl (kC (n := 289) (by kernel_rfl) (yY.sound N) rfl (kC (n := 315) (by kernel_rfl) (zP.sound N) rfl (kC (n := 293) (by kernel_rfl) (yI.sound N) rfl (zD))))))) hQs hmix zAq.ok
theorem zQ.ok : z4 (EE [(318, (zAq.x.sig, true)), (317, (zAp.x.sig, false))]) 59 zQ.x = true := by kernel_rfl
theorem zQ.sound (N : Nat) : SD 59 zQ.x.sig (zQ.fs N) := zM N (kC (n := 318) (by kernel_rfl) (zAq.sound N) rfl (kC (n := 317) (by kernel_rfl) (zAp.sound N) rfl (zD))) hQs hmix zQ.ok
theorem zAA.ok : z4 (EE [(298, (zAS.x.sig, true)), (41, (zU.x.sig, true)), (297, (yJ.x.sig, true)), (319, (zQ.x.sig, false)), (1, (zS.x.sig, true)), (293, (yI.x.sig, true))]) 22 zAA.x = true := by kernel_rfl
theorem zAA.sound (N : Nat) : SD 22 zAA.x.sig (zAA.fs N) := zM N (kC (n := 298) (by kernel_rfl) (zAS.sound N) rfl (kC (n := 41) (by kernel_rfl) (zU.sound N) rfl (kC (n := 297) (by kernel_rfl) (yJ.sound N) rfl (kC (n := 319) (by kernel_rfl) (zQ.sound N) rfl (kC (n := 1) (by kernel_rfl) (zS.sound N) rfl (kC (n := 293) (by kernel_rfl) (yI.sound N) rfl (zD))))))) hQs hmix zAA.ok
theorem zW.ok : z4 (EE [(431, (zi.x.sig, true))]) 143 zW.x = true := by kernel_rfl
theorem zW.sound (N : Nat) : SD 143 zW.x.sig (zW.fs N) := zBH N (kC (n := 431) (by kernel_rfl) (zi.sound N) rfl (zD)) hQs hmix zW.ok
theorem zAT.ok : z4 (EE [(442, (zW.x.sig, true))]) 101 zAT.x = true := by kernel_rfl
theorem zAT.sound (N : Nat) : SD 101 zAT.x.sig (zAT.fs N) := zBH N (kC (n := 442) (by kernel_rfl) (zW.sound N) rfl (zD)) hQs hmix zAT.ok
theorem zy.ok : z4 (EE [(435, (yB.x.sig, true))]) 102 zy.x = true := by kernel_rfl
theorem zy.sound (N : Nat) : SD 102 zy.x.sig (zy.fs N) := zBH N (kC (n := 435) (by kernel_rfl) (yB.sound N) rfl (zD)) hQs hmix zy.ok
theorem zAU.ok : z4 (EE [(438, (yK.x.sig, true)), (443, (zAT.x.sig, true)), (444, (zy.x.sig, true))]) 60 zAU.x = true := by kernel_rfl
theorem zAU.sound (N : Nat) : SD 60 zAU.x.sig (zAU.fs N) := zBH N (kC (n := 438) (by kernel_rfl) (yK.sound N) rfl (kC (n := 443) (by kernel_rfl) (zAT.sound N) rfl (kC (n := 444) (by kernel_rfl) (zy.sound N) rfl (zD)))) hQs hmix zAU.ok
theorem zAC.ok : z4 (EE [(445, (zAU.x.sig, true)), (129, (zd.x.sig, true)), (440, (zAJ.x.sig, true))]) 23 zAC.x = true := by kernel_rfl
theorem zAC.sound (N : Nat) : SD 23 zAC.x.sig (zAC.fs N) := zBH N (kC (n := 445) (by kernel_rfl) (zAU.sound N) rfl (kC (n := 129) (by kernel_rfl) (zd.sound N) rfl (kC (n := 440) (by kernel_rfl) (zAJ.sound N) rfl (zD)))) hQs hmix zAC.ok
theorem yx.ok : z4 (EE []) 44 yx.x = true := by kernel_rfl
theorem yx.sound (N : Nat) : SD 44 yx.x.sig (yx.fs N) := zM N (zD) hQs hmix yx.ok
theorem yo.ok : z4 (EE []) 86 yo.x = true := by kernel_rfl
theorem yo.sound (N : Nat) : SD 86 yo.x.sig (yo.fs N) := zM N (zD) hQs hmix yo.ok
theorem yu.ok : z4 (EE []) 87 yu.x = true := by kernel_rfl
theorem yu.sound (N : Nat) : SD 87 yu.x.sig (yu.fs N) := zM N (zD) hQs hmix yu.ok
theorem yi.ok : z4 (EE [(153, (yx.x.sig, true)), (154, (yo.x.sig, true)), (155, (yu.x.sig, true))]) 47 yi.x = true := by kernel_rfl
theorem yi.sound (N : Nat) : SD 47 yi.x.sig (yi.fs N) := zM N (kC (n := 153) (by kernel_rfl) (yx.sound N) rfl (kC (n := 154) (by kernel_rfl) (yo.sound N) rfl (kC (n := 155) (by kernel_rfl) (yu.sound N) rfl (zD)))) hQs hmix yi.ok
theorem zF.ok : z4 (EE [(156, (yi.x.sig, true))]) 83 zF.x = true := by kernel_rfl
theorem zF.sound (N : Nat) : SD 83 zF.x.sig (zF.fs N) := zM N (kC (n := 156) (by kernel_rfl) (yi.sound N) rfl (zD)) hQs hmix zF.ok
theorem zAv.ok : z4 (EE []) 85 zAv.x = true := by kernel_rfl
theorem zAv.sound (N : Nat) : SD 85 zAv.x.sig (zAv.fs N) := zM N (zD) hQs hmix zAv.ok
theorem z6.ok : z4 (EE [(156, (yi.x.sig, true)), (65, (zAv.x.sig, true))]) 46 z6.x = true := by kernel_rfl
theorem z6.sound (N : Nat) : SD 46 z6.x.sig (z6.fs N) := zM N (kC (n := 156) (by kernel_rfl) (yi.sound N) rfl (kC (n := 65) (by kernel_rfl) (zAv.sound N) rfl (zD))) hQs hmix z6.ok
theorem yW.ok : z4 (EE []) 128 yW.x = true := by kernel_rfl
theorem yW.sound (N : Nat) : SD 128 yW.x.sig (yW.fs N) := zM N (zD) hQs hmix yW.ok
theorem zx.ok : z4 (EE [(156, (yi.x.sig, true)), (165, (yW.x.sig, true))]) 88 zx.x = true := by kernel_rfl
theorem zx.sound (N : Nat) : SD 88 zx.x.sig (zx.fs N) := zM N (kC (n := 156) (by kernel_rfl) (yi.sound N) rfl (kC (n := 165) (by kernel_rfl) (yW.sound N) rfl (zD))) hQs hmix zx.ok
theorem zL.ok : z4 (EE [(164, (z6.x.sig, true)), (163, (zF.x.sig, true)), (166, (zx.x.sig, true))]) 48 zL.x = true := by kernel_rfl
theorem zL.sound (N : Nat) : SD 48 zL.x.sig (zL.fs N) := zM N (kC (n := 164) (by kernel_rfl) (z6.sound N) rfl (kC (n := 163) (by kernel_rfl) (zF.sound N) rfl (kC (n := 166) (by kernel_rfl) (zx.sound N) rfl (zD)))) hQs hmix zL.ok
theorem zAM.ok : z4 (EE []) 49 zAM.x = true := by kernel_rfl
theorem zAM.sound (N : Nat) : SD 49 zAM.x.sig (zAM.fs N) := zM N (zD) hQs hmix zAM.ok
theorem zw.ok : z4 (EE []) 41 zw.x = true := by kernel_rfl
theorem zw.sound (N : Nat) : SD 41 zw.x.sig (zw.fs N) := zM N (zD) hQs hmix zw.ok
theorem zAR.ok : z4 (EE []) 120 zAR.x = true := by kernel_rfl
theorem zAR.sound (N : Nat) : SD 120 zAR.x.sig (zAR.fs N) := zM N (zD) hQs hmix zAR.ok
theorem yX.ok : z4 (EE [(68, (zAR.x.sig, true)), (65, (zAv.x.sig, true))]) 79 yX.x = true := by kernel_rfl
theorem yX.sound (N : Nat) : SD 79 yX.x.sig (yX.fs N) := zM N (kC (n := 68) (by kernel_rfl) (zAR.sound N) rfl (kC (n := 65) (by kernel_rfl) (zAv.sound N) rfl (zD))) hQs hmix yX.ok
theorem zj.ok : z4 (EE [(69, (yX.x.sig, true))]) 40 zj.x = true := by kernel_rfl
theorem zj.sound (N : Nat) : SD 40 zj.x.sig (zj.fs N) := zM N (kC (n := 69) (by kernel_rfl) (yX.sound N) rfl (zD)) hQs hmix zj.ok
theorem yt.ok : z4 (EE []) 38 yt.x = true := by kernel_rfl
theorem yt.sound (N : Nat) : SD 38 yt.x.sig (yt.fs N) := zM N (zD) hQs hmix yt.ok
theorem zAW.ok : z4 (EE [(167, (zL.x.sig, true)), (172, (zAM.x.sig, true)), (173, (zw.x.sig, true)), (71, (yt.x.sig, true)), (70, (zj.x.sig, true))]) 14 zAW.x = true := by kernel_rfl
theorem zAW.sound (N : Nat) : SD 14 zAW.x.sig (zAW.fs N) := zM N (kC (n := 167) (by kernel_rfl) (zL.sound N) rfl (kC (n := 172) (by kernel_rfl) (zAM.sound N) rfl (kC (n := 173) (by kernel_rfl) (zw.sound N) rfl (kC (n := 71) (by kernel_rfl) (yt.sound N) rfl (kC (n := 70) (by kernel_rfl) (zj.sound N) rfl (zD)))))) hQs hmix zAW.ok
theorem za.ok : z4 (EE []) 118 za.x = true := by kernel_rfl
theorem za.sound (N : Nat) : SD 118 za.x.sig (za.fs N) := zBH N (zD) hQs hmix za.ok
theorem zZ.ok : z4 (EE []) 119 zZ.x = true := by kernel_rfl
theorem zZ.sound (N : Nat) : SD 119 zZ.x.sig (zZ.fs N) := zBH N (zD) hQs hmix zZ.ok
theorem yO.ok : z4 (EE [(447, (za.x.sig, true)), (448, (zZ.x.sig, true))]) 78 yO.x = true := by kernel_rfl
theorem yO.sound (N : Nat) : SD 78 yO.x.sig (yO.fs N) := zBH N (kC (n := 447) (by kernel_rfl) (za.sound N) rfl (kC (n := 448) (by kernel_rfl) (zZ.sound N) rfl (zD))) hQs hmix yO.ok
theorem yl.ok : z4 (EE [(449, (yO.x.sig, true))]) 39 yl.x = true := by kernel_rfl
theorem yl.sound (N : Nat) : SD 39 yl.x.sig (yl.fs N) := zBH N (kC (n := 449) (by kernel_rfl) (yO.sound N) rfl (zD)) hQs hmix yl.ok
theorem yf.ok : z4 (EE []) 121 yf.x = true := by kernel_rfl
theorem yf.sound (N : Nat) : SD 121 yf.x.sig (yf.fs N) := zM N (zD) hQs hmix yf.ok
theorem zAL.ok : z4 (EE []) 180 zAL.x = true := by kernel_rfl
theorem zAL.sound (N : Nat) : SD 180 zAL.x.sig (zAL.fs N) := zM N (zD) hQs hmix zAL.ok
theorem ye.ok : z4 (EE []) 182 ye.x = true := by kernel_rfl
theorem ye.sound (N : Nat) : SD 182 ye.x.sig (ye.fs N) := zM N (zD) hQs hmix ye.ok
theorem z7.ok : z4 (EE [(201, (ext_sort_Ints.sig, true)), (114, (zAL.x.sig, true)), (202, (ye.x.sig, true))]) 157 z7.x = true := by kernel_rfl
theorem z7.sound (N : Nat) : SD 157 z7.x.sig (z7.fs N) := zM N (kC (n := 201) (by kernel_rfl) (ext_sort_Ints.sound N) rfl (kC (n := 114) (by kernel_rfl) (zAL.sound N) rfl (kC (n := 202) (by kernel_rfl) (ye.sound N) rfl (zD)))) hQs hmix z7.ok
theorem zJ.ok : z4 (EE [(164, (z6.x.sig, true)), (203, (z7.x.sig, true))]) 123 zJ.x = true := by kernel_rfl
theorem zJ.sound (N : Nat) : SD 123 zJ.x.sig (zJ.fs N) := zM N (kC (n := 164) (by kernel_rfl) (z6.sound N) rfl (kC (n := 203) (by kernel_rfl) (z7.sound N) rfl (zD))) hQs hmix zJ.ok
theorem yH.ok : z4 (EE []) 89 yH.x = true := by kernel_rfl
theorem yH.sound (N : Nat) : SD 89 yH.x.sig (yH.fs N) := zM N (zD) hQs hmix yH.ok
theorem zAD.ok : z4 (EE [(205, (yH.x.sig, true))]) 50 zAD.x = true := by kernel_rfl
theorem zAD.sound (N : Nat) : SD 50 zAD.x.sig (zAD.fs N) := zM N (kC (n := 205) (by kernel_rfl) (yH.sound N) rfl (zD)) hQs hmix zAD.ok
theorem zC.ok : z4 (EE [(206, (zAD.x.sig, true))]) 122 zC.x = true := by kernel_rfl
theorem zC.sound (N : Nat) : SD 122 zC.x.sig (zC.fs N) := zBH N (kC (n := 206) (by kernel_rfl) (zAD.sound N) rfl (zD)) hQs hmix zC.ok
theorem zAb.ok : z4 (EE [(179, (yf.x.sig, true)), (204, (zJ.x.sig, true)), (451, (zC.x.sig, true)), (449, (yO.x.sig, true))]) 80 zAb.x = true := by kernel_rfl
theorem zAb.sound (N : Nat) : SD 80 zAb.x.sig (zAb.fs N) := zBH N (kC (n := 179) (by kernel_rfl) (yf.sound N) rfl (kC (n := 204) (by kernel_rfl) (zJ.sound N) rfl (kC (n := 451) (by kernel_rfl) (zC.sound N) rfl (kC (n := 449) (by kernel_rfl) (yO.sound N) rfl (zD))))) hQs hmix zAb.ok
theorem zp.ok : z4 (EE [(164, (z6.x.sig, true))]) 12 zp.x = true := by kernel_rfl
theorem zp.sound (N : Nat) : SD 12 zp.x.sig (zp.fs N) := zM N (kC (n := 164) (by kernel_rfl) (z6.sound N) rfl (zD)) hQs hmix zp.ok
theorem yC.ok : z4 (EE [(65, (zAv.x.sig, true))]) 84 yC.x = true := by kernel_rfl
theorem yC.sound (N : Nat) : SD 84 yC.x.sig (yC.fs N) := zM N (kC (n := 65) (by kernel_rfl) (zAv.sound N) rfl (zD)) hQs hmix yC.ok
theorem zAw.ok : z4 (EE [(163, (zF.x.sig, true)), (210, (yC.x.sig, true))]) 45 zAw.x = true := by kernel_rfl
theorem zAw.sound (N : Nat) : SD 45 zAw.x.sig (zAw.fs N) := zM N (kC (n := 163) (by kernel_rfl) (zF.sound N) rfl (kC (n := 210) (by kernel_rfl) (yC.sound N) rfl (zD))) hQs hmix zAw.ok
theorem zAe.ok : z4 (EE [(211, (zAw.x.sig, true))]) 11 zAe.x = true := by kernel_rfl
theorem zAe.sound (N : Nat) : SD 11 zAe.x.sig (zAe.fs N) := zM N (kC (n := 211) (by kernel_rfl) (zAw.sound N) rfl (zD)) hQs hmix zAe.ok
theorem yj.ok : z4 (EE [(156, (yi.x.sig, true))]) 13 yj.x = true := by kernel_rfl
theorem yj.sound (N : Nat) : SD 13 yj.x.sig (yj.fs N) := zM N (kC (n := 156) (by kernel_rfl) (yi.sound N) rfl (zD)) hQs hmix yj.ok
theorem zq.ok : z4 (EE [(68, (zAR.x.sig, true)), (172, (zAM.x.sig, true)), (65, (zAv.x.sig, true))]) 81 zq.x = true := by kernel_rfl
theorem zq.sound (N : Nat) : SD 81 zq.x.sig (zq.fs N) := zM N (kC (n := 68) (by kernel_rfl) (zAR.sound N) rfl (kC (n := 172) (by kernel_rfl) (zAM.sound N) rfl (kC (n := 65) (by kernel_rfl) (zAv.sound N) rfl (zD)))) hQs hmix zq.ok
theorem zA7.ok : z4 (EE [(157, (yj.x.sig, true))]) 124 zA7.x = true := by kernel_rfl
theorem zA7.sound (N : Nat) : SD 124 zA7.x.sig (zA7.fs N) := zM N (kC (n := 157) (by kernel_rfl) (yj.sound N) rfl (zD)) hQs hmix zA7.ok
theorem zBB.ok : z4 (EE [(157, (yj.x.sig, true))]) 125 zBB.x = true := by kernel_rfl
theorem zBB.sound (N : Nat) : SD 125 zBB.x.sig (zBB.fs N) := zM N (kC (n := 157) (by kernel_rfl) (yj.sound N) rfl (zD)) hQs hmix zBB.ok
theorem zAE.ok : z4 (EE []) 158 zAE.x = true := by kernel_rfl
theorem zAE.sound (N : Nat) : SD 158 zAE.x.sig (zAE.fs N) := zM N (zD) hQs hmix zAE.ok
theorem zAn.ok : z4 (EE [(215, (zAE.x.sig, true))]) 126 zAn.x = true := by kernel_rfl
theorem zAn.sound (N : Nat) : SD 126 zAn.x.sig (zAn.fs N) := zBH N (kC (n := 215) (by kernel_rfl) (zAE.sound N) rfl (zD)) hQs hmix zAn.ok
theorem zc.ok : z4 (EE [(203, (z7.x.sig, true)), (114, (zAL.x.sig, true))]) 159 zc.x = true := by kernel_rfl
theorem zc.sound (N : Nat) : SD 159 zc.x.sig (zc.fs N) := zM N (kC (n := 203) (by kernel_rfl) (z7.sound N) rfl (kC (n := 114) (by kernel_rfl) (zAL.sound N) rfl (zD))) hQs hmix zc.ok
theorem zI.ok : z4 (EE [(164, (z6.x.sig, true)), (166, (zx.x.sig, true)), (204, (zJ.x.sig, true)), (165, (yW.x.sig, true)), (217, (zc.x.sig, true))]) 127 zI.x = true := by kernel_rfl
theorem zI.sound (N : Nat) : SD 127 zI.x.sig (zI.fs N) := zBH N (kC (n := 164) (by kernel_rfl) (z6.sound N) rfl (kC (n := 166) (by kernel_rfl) (zx.sound N) rfl (kC (n := 204) (by kernel_rfl) (zJ.sound N) rfl (kC (n := 165) (by kernel_rfl) (yW.sound N) rfl (kC (n := 217) (by kernel_rfl) (zc.sound N) rfl (zD)))))) hQs hmix zI.ok
theorem zAc.ok : z4 (EE [(214, (zA7.x.sig, true)), (209, (zp.x.sig, true)), (454, (zI.x.sig, true)), (204, (zJ.x.sig, true)), (158, (zBB.x.sig, true)), (451, (zC.x.sig, true)), (449, (yO.x.sig, true)), (210, (yC.x.sig, true)), (453, (zAn.x.sig, false))]) 82 zAc.x = true := by kernel_rfl
theorem zAc.sound (N : Nat) : SD 82 zAc.x.sig (zAc.fs N) := zBH N (kC (n := 214) (by kernel_rfl) (zA7.sound N) rfl (kC (n := 209) (by kernel_rfl) (zp.sound N) rfl (kC (n := 454) (by kernel_rfl) (zI.sound N) rfl (kC (n := 204) (by kernel_rfl) (zJ.sound N) rfl (kC (n := 158) (by kernel_rfl) (zBB.sound N) rfl (kC (n := 451) (by kernel_rfl) (zC.sound N) rfl (kC (n := 449) (by kernel_rfl) (yO.sound N) rfl (kC (n := 210) (by kernel_rfl) (yC.sound N) rfl (kC (n := 453) (by kernel_rfl) (zAn.sound N) rfl (zD)))))))))) hQs hmix zAc.ok
theorem yL.ok : z4 (EE [(212, (zAe.x.sig, true)), (213, (zq.x.sig, true)), (157, (yj.x.sig, true)), (209, (zp.x.sig, true)), (455, (zAc.x.sig, true)), (452, (zAb.x.sig, true))]) 42 yL.x = true := by kernel_rfl
theorem yL.sound (N : Nat) : SD 42 yL.x.sig (yL.fs N) := zBH N (kC (n := 212) (by kernel_rfl) (zAe.sound N) rfl (kC (n := 213) (by kernel_rfl) (zq.sound N) rfl (kC (n := 157) (by kernel_rfl) (yj.sound N) rfl (kC (n := 209) (by kernel_rfl) (zp.sound N) rfl (kC (n := 455) (by kernel_rfl) (zAc.sound N) rfl (kC (n := 452) (by kernel_rfl) (zAb.sound N) rfl (zD))))))) hQs hmix yL.ok
theorem yr.ok : z4 (EE []) 43 yr.x = true := by kernel_rfl
theorem yr.sound (N : Nat) : SD 43 yr.x.sig (yr.fs N) := zBH N (zD) hQs hmix yr.ok
theorem zR.ok : z4 (EE [(456, (yL.x.sig, false)), (174, (zAW.x.sig, true)), (450, (yl.x.sig, true)), (173, (zw.x.sig, true)), (71, (yt.x.sig, true)), (70, (zj.x.sig, true)), (457, (yr.x.sig, false))]) 9 zR.x = true := by kernel_rfl
theorem zR.sound (N : Nat) : SD 9 zR.x.sig (zR.fs N) := zBH N (kC (n := 456) (by kernel_rfl) (yL.sound N) rfl (kC (n := 174) (by kernel_rfl) (zAW.sound N) rfl (kC (n := 450) (by kernel_rfl) (yl.sound N) rfl (kC (n := 173) (by kernel_rfl) (zw.sound N) rfl (kC (n := 71) (by kernel_rfl) (yt.sound N) rfl (kC (n := 70) (by kernel_rfl) (zj.sound N) rfl (kC (n := 457) (by kernel_rfl) (yr.sound N) rfl (zD)))))))) hQs hmix zR.ok
theorem y9.ok : z4 (EE []) 176 y9.x = true := by kernel_rfl
theorem y9.sound (N : Nat) : SD 176 y9.x.sig (y9.fs N) := zM N (zD) hQs hmix y9.ok
theorem zv.ok : z4 (EE [(459, (y9.x.sig, true))]) 174 zv.x = true := by kernel_rfl
theorem zv.sound (N : Nat) : SD 174 zv.x.sig (zv.fs N) := zM N (kC (n := 459) (by kernel_rfl) (y9.sound N) rfl (zD)) hQs hmix zv.ok
theorem zo.ok : z4 (EE [(460, (zv.x.sig, true))]) 146 zo.x = true := by kernel_rfl
theorem zo.sound (N : Nat) : SD 146 zo.x.sig (zo.fs N) := zM N (kC (n := 460) (by kernel_rfl) (zv.sound N) rfl (zD)) hQs hmix zo.ok
theorem zAk.ok : z4 (EE [(461, (zo.x.sig, true))]) 104 zAk.x = true := by kernel_rfl
theorem zAk.sound (N : Nat) : SD 104 zAk.x.sig (zAk.fs N) := zM N (kC (n := 461) (by kernel_rfl) (zo.sound N) rfl (zD)) hQs hmix zAk.ok
theorem zAz.ok : z4 (EE []) 175 zAz.x = true := by kernel_rfl
theorem zAz.sound (N : Nat) : SD 175 zAz.x.sig (zAz.fs N) := zM N (zD) hQs hmix zAz.ok
theorem yN.ok : z4 (EE [(389, (zAz.x.sig, true))]) 147 yN.x = true := by kernel_rfl
theorem yN.sound (N : Nat) : SD 147 yN.x.sig (yN.fs N) := zM N (kC (n := 389) (by kernel_rfl) (zAz.sound N) rfl (zD)) hQs hmix yN.ok
theorem yG.ok : z4 (EE [(390, (yN.x.sig, true))]) 105 yG.x = true := by kernel_rfl
theorem yG.sound (N : Nat) : SD 105 yG.x.sig (yG.fs N) := zM N (kC (n := 390) (by kernel_rfl) (yN.sound N) rfl (zD)) hQs hmix yG.ok
theorem zA6.ok : z4 (EE [(459, (y9.x.sig, true))]) 148 zA6.x = true := by kernel_rfl
theorem zA6.sound (N : Nat) : SD 148 zA6.x.sig (zA6.fs N) := zM N (kC (n := 459) (by kernel_rfl) (y9.sound N) rfl (zD)) hQs hmix zA6.ok
theorem yS.ok : z4 (EE [(464, (zA6.x.sig, true))]) 106 yS.x = true := by kernel_rfl
theorem yS.sound (N : Nat) : SD 106 yS.x.sig (yS.fs N) := zM N (kC (n := 464) (by kernel_rfl) (zA6.sound N) rfl (zD)) hQs hmix yS.ok
theorem zAl.ok : z4 (EE [(465, (yS.x.sig, true)), (462, (zAk.x.sig, true)), (463, (yG.x.sig, true))]) 63 zAl.x = true := by kernel_rfl
theorem zAl.sound (N : Nat) : SD 63 zAl.x.sig (zAl.fs N) := zM N (kC (n := 465) (by kernel_rfl) (yS.sound N) rfl (kC (n := 462) (by kernel_rfl) (zAk.sound N) rfl (kC (n := 463) (by kernel_rfl) (yG.sound N) rfl (zD)))) hQs hmix zAl.ok
theorem zAj.ok : z4 (EE []) 64 zAj.x = true := by kernel_rfl
theorem zAj.sound (N : Nat) : SD 64 zAj.x.sig (zAj.fs N) := zM N (zD) hQs hmix zAj.ok
theorem zAt.ok : z4 (EE []) 66 zAt.x = true := by kernel_rfl
theorem zAt.sound (N : Nat) : SD 66 zAt.x.sig (zAt.fs N) := zM N (zD) hQs hmix zAt.ok
theorem z5.ok : z4 (EE [(135, (zAt.x.sig, true))]) 27 z5.x = true := by kernel_rfl
theorem z5.sound (N : Nat) : SD 27 z5.x.sig (z5.fs N) := zM N (kC (n := 135) (by kernel_rfl) (zAt.sound N) rfl (zD)) hQs hmix z5.ok
theorem y5.ok : z4 (EE [(466, (zAl.x.sig, true)), (136, (z5.x.sig, true)), (467, (zAj.x.sig, true))]) 25 y5.x = true := by kernel_rfl
theorem y5.sound (N : Nat) : SD 25 y5.x.sig (y5.fs N) := zM N (kC (n := 466) (by kernel_rfl) (zAl.sound N) rfl (kC (n := 136) (by kernel_rfl) (z5.sound N) rfl (kC (n := 467) (by kernel_rfl) (zAj.sound N) rfl (zD)))) hQs hmix y5.ok
theorem yd.ok : z4 (EE []) 149 yd.x = true := by kernel_rfl
theorem yd.sound (N : Nat) : SD 149 yd.x.sig (yd.fs N) := zM N (zD) hQs hmix yd.ok
theorem zAd.ok : z4 (EE [(239, (yd.x.sig, true))]) 107 zAd.x = true := by kernel_rfl
theorem zAd.sound (N : Nat) : SD 107 zAd.x.sig (zAd.fs N) := zM N (kC (n := 239) (by kernel_rfl) (yd.sound N) rfl (zD)) hQs hmix zAd.ok
theorem zA5.ok : z4 (EE [(265, (zAd.x.sig, true))]) 65 zA5.x = true := by kernel_rfl
theorem zA5.sound (N : Nat) : SD 65 zA5.x.sig (zA5.fs N) := zM N (kC (n := 265) (by kernel_rfl) (zAd.sound N) rfl (zD)) hQs hmix zA5.ok
theorem yM.ok : z4 (EE [(469, (zA5.x.sig, true))]) 26 yM.x = true := by kernel_rfl
theorem yM.sound (N : Nat) : SD 26 yM.x.sig (yM.fs N) := zM N (kC (n := 469) (by kernel_rfl) (zA5.sound N) rfl (zD)) hQs hmix yM.ok
theorem zY.ok : z4 (EE []) 177 zY.x = true := by kernel_rfl
theorem zY.sound (N : Nat) : SD 177 zY.x.sig (zY.fs N) := zM N (zD) hQs hmix zY.ok
theorem zN.ok : z4 (EE [(471, (zY.x.sig, false))]) 150 zN.x = true := by kernel_rfl
theorem zN.sound (N : Nat) : SD 150 zN.x.sig (zN.fs N) := zBH N (kC (n := 471) (by kernel_rfl) (zY.sound N) rfl (zD)) hQs hmix zN.ok
theorem yz.ok : z4 (EE [(472, (zN.x.sig, true))]) 108 yz.x = true := by kernel_rfl
theorem yz.sound (N : Nat) : SD 108 yz.x.sig (yz.fs N) := zBH N (kC (n := 472) (by kernel_rfl) (zN.sound N) rfl (zD)) hQs hmix yz.ok
theorem z1.ok : z4 (EE []) 151 z1.x = true := by kernel_rfl
theorem z1.sound (N : Nat) : SD 151 z1.x.sig (z1.fs N) := zM N (zD) hQs hmix z1.ok
theorem zX.ok : z4 (EE [(391, (z1.x.sig, false))]) 109 zX.x = true := by kernel_rfl
theorem zX.sound (N : Nat) : SD 109 zX.x.sig (zX.fs N) := zBH N (kC (n := 391) (by kernel_rfl) (z1.sound N) rfl (zD)) hQs hmix zX.ok
theorem z3.ok : z4 (EE []) 110 z3.x = true := by kernel_rfl
theorem z3.sound (N : Nat) : SD 110 z3.x.sig (z3.fs N) := zM N (zD) hQs hmix z3.ok
theorem y4.ok : z4 (EE [(475, (z3.x.sig, false)), (473, (yz.x.sig, true)), (474, (zX.x.sig, true))]) 67 y4.x = true := by kernel_rfl
theorem y4.sound (N : Nat) : SD 67 y4.x.sig (y4.fs N) := zBH N (kC (n := 475) (by kernel_rfl) (z3.sound N) rfl (kC (n := 473) (by kernel_rfl) (yz.sound N) rfl (kC (n := 474) (by kernel_rfl) (zX.sound N) rfl (zD)))) hQs hmix y4.ok
theorem zV.ok : z4 (EE []) 29 zV.x = true := by kernel_rfl
theorem zV.sound (N : Nat) : SD 29 zV.x.sig (zV.fs N) := zM N (zD) hQs hmix zV.ok
theorem yk.ok : z4 (EE [(476, (y4.x.sig, false)), (141, (zV.x.sig, false))]) 28 yk.x = true := by kernel_rfl
theorem yk.sound (N : Nat) : SD 28 yk.x.sig (yk.fs N) := zBH N (kC (n := 476) (by kernel_rfl) (y4.sound N) rfl (kC (n := 141) (by kernel_rfl) (zV.sound N) rfl (zD))) hQs hmix yk.ok
theorem yF.ok : z4 (EE []) 68 yF.x = true := by kernel_rfl
theorem yF.sound (N : Nat) : SD 68 yF.x.sig (yF.fs N) := zM N (zD) hQs hmix yF.ok
theorem zf.ok : z4 (EE [(242, (yF.x.sig, false))]) 30 zf.x = true := by kernel_rfl
theorem zf.sound (N : Nat) : SD 30 zf.x.sig (zf.fs N) := zBH N (kC (n := 242) (by kernel_rfl) (yF.sound N) rfl (zD)) hQs hmix zf.ok
theorem zT.ok : z4 (EE []) 178 zT.x = true := by kernel_rfl
theorem zT.sound (N : Nat) : SD 178 zT.x.sig (zT.fs N) := zM N (zD) hQs hmix zT.ok
theorem zO.ok : z4 (EE [(479, (zT.x.sig, true))]) 152 zO.x = true := by kernel_rfl
theorem zO.sound (N : Nat) : SD 152 zO.x.sig (zO.fs N) := zM N (kC (n := 479) (by kernel_rfl) (zT.sound N) rfl (zD)) hQs hmix zO.ok
theorem zAO.ok : z4 (EE [(480, (zO.x.sig, true))]) 111 zAO.x = true := by kernel_rfl
theorem zAO.sound (N : Nat) : SD 111 zAO.x.sig (zAO.fs N) := zM N (kC (n := 480) (by kernel_rfl) (zO.sound N) rfl (zD)) hQs hmix zAO.ok
theorem zt.ok : z4 (EE []) 153 zt.x = true := by kernel_rfl
theorem zt.sound (N : Nat) : SD 153 zt.x.sig (zt.fs N) := zM N (zD) hQs hmix zt.ok
theorem zg.ok : z4 (EE [(392, (zt.x.sig, true))]) 112 zg.x = true := by kernel_rfl
theorem zg.sound (N : Nat) : SD 112 zg.x.sig (zg.fs N) := zM N (kC (n := 392) (by kernel_rfl) (zt.sound N) rfl (zD)) hQs hmix zg.ok
theorem zu.ok : z4 (EE []) 113 zu.x = true := by kernel_rfl
theorem zu.sound (N : Nat) : SD 113 zu.x.sig (zu.fs N) := zM N (zD) hQs hmix zu.ok
theorem zAP.ok : z4 (EE [(483, (zu.x.sig, true)), (481, (zAO.x.sig, true)), (482, (zg.x.sig, true))]) 69 zAP.x = true := by kernel_rfl
theorem zAP.sound (N : Nat) : SD 69 zAP.x.sig (zAP.fs N) := zM N (kC (n := 483) (by kernel_rfl) (zu.sound N) rfl (kC (n := 481) (by kernel_rfl) (zAO.sound N) rfl (kC (n := 482) (by kernel_rfl) (zg.sound N) rfl (zD)))) hQs hmix zAP.ok
theorem zh.ok : z4 (EE []) 70 zh.x = true := by kernel_rfl
theorem zh.sound (N : Nat) : SD 70 zh.x.sig (zh.fs N) := zM N (zD) hQs hmix zh.ok
theorem yp.ok : z4 (EE [(484, (zAP.x.sig, true)), (145, (zh.x.sig, true))]) 31 yp.x = true := by kernel_rfl
theorem yp.sound (N : Nat) : SD 31 yp.x.sig (yp.fs N) := zM N (kC (n := 484) (by kernel_rfl) (zAP.sound N) rfl (kC (n := 145) (by kernel_rfl) (zh.sound N) rfl (zD))) hQs hmix yp.ok
theorem z9.ok : z4 (EE []) 71 z9.x = true := by kernel_rfl
theorem z9.sound (N : Nat) : SD 71 z9.x.sig (z9.fs N) := zM N (zD) hQs hmix z9.ok
theorem zr.ok : z4 (EE [(245, (z9.x.sig, true))]) 32 zr.x = true := by kernel_rfl
theorem zr.sound (N : Nat) : SD 32 zr.x.sig (zr.fs N) := zM N (kC (n := 245) (by kernel_rfl) (z9.sound N) rfl (zD)) hQs hmix zr.ok
theorem laws_FnExactPlayEvents.ok : z4 (EE [(458, (zR.x.sig, true)), (468, (y5.x.sig, true)), (136, (z5.x.sig, true)), (470, (yM.x.sig, true)), (485, (yp.x.sig, true)), (486, (zr.x.sig, true)), (477, (yk.x.sig, false)), (141, (zV.x.sig, false)), (478, (zf.x.sig, false)), (429, (zAV.x.sig, true)), (123, (zAK.x.sig, true)), (441, (zAG.x.sig, true)), (446, (zAC.x.sig, true)), (129, (zd.x.sig, true)), (320, (zAA.x.sig, false))]) 6 laws_FnExactPlayEvents.x = true := by kernel_rfl
theorem laws_FnExactPlayEvents.sound (N : Nat) : SD 6 laws_FnExactPlayEvents.x.sig (laws_FnExactPlayEvents.fs N) := zM N (kC (n := 458) (by kernel_rfl) (zR.sound N) rfl (kC (n := 468) (by kernel_rfl) (y5.sound N) rfl (kC (n := 136) (by kernel_rfl) (z5.sound N) rfl (kC (n := 470) (by kernel_rfl) (yM.sound N) rfl (kC (n := 485) (by kernel_rfl) (yp.sound N) rfl (kC (n := 486) (by kernel_rfl) (zr.sound N) rfl (kC (n := 477) (by kernel_rfl) (yk.sound N) rfl (kC (n := 141) (by kernel_rfl) (zV.sound N) rfl (kC (n := 478) (by kernel_rfl) (zf.sound N) rfl (kC (n := 429) (by kernel_rfl) (zAV.sound N) rfl (kC (n := 123) (by kernel_rfl) (zAK.sound N) rfl (kC (n := 441) (by kernel_rfl) (zAG.sound N) rfl (kC (n := 446) (by kernel_rfl) (zAC.sound N) rfl (kC (n := 129) (by kernel_rfl) (zd.sound N) rfl (kC (n := 320) (by kernel_rfl) (zAA.sound N) rfl (zD)))))))))))))))) hQs hmix laws_FnExactPlayEvents.ok
end Go.Kb
