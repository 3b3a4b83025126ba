/- Each function of the law does what its abstract text does, over the program. -/
import Derived.Test.YticidpdbkjgebabGreatKc
import Derived.Test.YticidpdbkjgebabGreatExactWaitUntilP0toF3
import Derived.Test.YticidpdbkjgebabGreatExactWaitUntilF4
import Derived.Test.YticidpdbkjgebabGreatExactWaitUntilP15toP90
import Derived.Test.YticidpdbkjgebabGreatExactWaitUntilP93toF8
import Derived.Test.YticidpdbkjgebabGreatExactWaitUntilF30
import Derived.Test.YticidpdbkjgebabGreatExactWaitUntilP69toP119
import Derived.Test.YticidpdbkjgebabGreatExactWaitUntilF33
import Derived.Test.YticidpdbkjgebabGreatExactWaitUntilP127toP128
import Derived.Test.YticidpdbkjgebabGreatRows
import Derived.Test.YticidpdbkjgebabGreatShelf
import Derived.Test.YticidpdbkjgebabGreatKd
import Derived.KernelRfl
namespace Go.Kb
def TM : List (Nat × Nat) := [(2, 3), (1, 5), (16, 9), (4, 58), (6, 71), (12, 73), (13, 75), (8, 116), (15, 118), (11, 120), (9, 152), (10, 159), (14, 179)]
def FM : List (Nat × Nat) := [(422, 95), (423, 65), (424, 35), (425, 66), (426, 36), (427, 37), (428, 18), (123, 19), (429, 5), (430, 110), (431, 108), (432, 74), (433, 44), (434, 109), (435, 75), (436, 45), (437, 76), (438, 46), (439, 21), (440, 22), (128, 16), (129, 23), (441, 7), (1, 39), (283, 133), (284, 96), (285, 101), (286, 97), (287, 134), (288, 135), (289, 105), (290, 98), (291, 67), (296, 68), (57, 70), (297, 41), (40, 69), (41, 40), (298, 38), (292, 71), (293, 42), (301, 100), (302, 136), (303, 99), (304, 102), (305, 104), (306, 137), (307, 138), (308, 157), (309, 151), (310, 139), (311, 107), (312, 152), (313, 140), (277, 141), (314, 142), (315, 106), (316, 103), (317, 72), (318, 73), (319, 43), (320, 20), (488, 6), (442, 74), (443, 44), (444, 45), (445, 21), (446, 7), (153, 146), (154, 147), (155, 148), (156, 121), (163, 111), (65, 117), (164, 112), (165, 143), (166, 113), (167, 77), (172, 78), (173, 51), (68, 116), (69, 80), (70, 50), (71, 48), (174, 47), (447, 114), (448, 115), (449, 79), (450, 49), (179, 118), (114, 154), (201, 155), (202, 156), (203, 145), (204, 120), (205, 153), (206, 144), (451, 119), (452, 81), (209, 82), (210, 123), (211, 122), (212, 84), (157, 83), (213, 85), (214, 124), (158, 125), (215, 149), (453, 126), (217, 150), (454, 127), (455, 86), (456, 52), (457, 53), (458, 24), (489, 8), (459, 130), (460, 128), (461, 87), (462, 54), (389, 129), (390, 88), (463, 55), (464, 89), (465, 56), (466, 25), (467, 26), (135, 57), (136, 27), (468, 9), (239, 90), (265, 58), (469, 28), (470, 10), (471, 131), (472, 91), (473, 59), (391, 92), (474, 60), (475, 61), (476, 29), (141, 30), (477, 11), (242, 31), (478, 12), (479, 132), (480, 93), (481, 62), (392, 94), (482, 63), (483, 64), (484, 32), (145, 33), (485, 13), (245, 34), (486, 14), (490, 3)]
def GB : Nat -> Prop := fun _ => False
def QW : World -> Prop := fun _ => True
theorem hQs : ∀ w w' : World, (∀ b, GB b -> w'.heap[b]? = w.heap[b]?) -> QW w -> QW w' := fun _ _ _ _ => trivial
theorem ext_sort_Ints.sound (N : Nat) : Sound Go.Proofs.Tryz.prog (natTbl TM) GB QW 155 ext_sort_Ints.sig (ext_sort_Ints.fs N) := sort_sound (fun blk off cap zs w h1 h2 h3 => Go.Proofs.Tryz.sort_Ints blk off cap zs w h1 h2 h3) (fun p cap w => Go.Proofs.Tryz.sort_Ints_none p cap w) N
theorem hmix : Go.Proofs.Tryz.prog.follows .mixedOrders = true := by kernel_rfl
noncomputable abbrev EE (l : List (Nat × (Sig × Bool))) : Env1 := mkE Go.Proofs.Tryz.prog GB QW TM FM l
abbrev SD (i : FuncId) (g : Sig) (f : FS) : Prop := Sound Go.Proofs.Tryz.prog (natTbl TM) GB QW i g f
theorem kC {n : Nat} {g : Sig} {fr : Bool} {f : FS} {l : List (Nat × (Sig × Bool))} {r : List (Nat × FS)} {fid : FuncId} (hid : natTbl FM n = fid) (hs : SD fid g f) (hf : (f.fresh && !f.keep) = fr) (hk : Known (EE l) (tbl r noFS)) : Known (EE ((n, (g, fr)) :: l)) (tbl ((n, f) :: r) noFS) := known_cons (fm := FM) hid hs hf hk
theorem zAN.ok : zw (EE []) 95 zAN.x = true := by kernel_rfl
theorem zAN.sound (N : Nat) : SD 95 zAN.x.sig (zAN.fs N) := zM N (zD) hQs hmix zAN.ok
theorem zl.ok : zw (EE [(422, (zAN.x.sig, true))]) 65 zl.x = true := by kernel_rfl
theorem zl.sound (N : Nat) : SD 65 zl.x.sig (zl.fs N) := zM N (kC (n := 422) (by kernel_rfl) (zAN.sound N) rfl (zD)) hQs hmix zl.ok
theorem zAj.ok : zw (EE [(423, (zl.x.sig, true))]) 35 zAj.x = true := by kernel_rfl
theorem zAj.sound (N : Nat) : SD 35 zAj.x.sig (zAj.fs N) := zM N (kC (n := 423) (by kernel_rfl) (zl.sound N) rfl (zD)) hQs hmix zAj.ok
theorem zAo.ok : zw (EE []) 66 zAo.x = true := by kernel_rfl
theorem zAo.sound (N : Nat) : SD 66 zAo.x.sig (zAo.fs N) := zM N (zD) hQs hmix zAo.ok
theorem yD.ok : zw (EE [(425, (zAo.x.sig, true))]) 36 yD.x = true := by kernel_rfl
theorem yD.sound (N : Nat) : SD 36 yD.x.sig (yD.fs N) := zM N (kC (n := 425) (by kernel_rfl) (zAo.sound N) rfl (zD)) hQs hmix yD.ok
theorem zAu.ok : zw (EE []) 37 zAu.x = true := by kernel_rfl
theorem zAu.sound (N : Nat) : SD 37 zAu.x.sig (zAu.fs N) := zM N (zD) hQs hmix zAu.ok
theorem zAk.ok : zw (EE [(427, (zAu.x.sig, true)), (424, (zAj.x.sig, true)), (426, (yD.x.sig, true))]) 18 zAk.x = true := by kernel_rfl
theorem zAk.sound (N : Nat) : SD 18 zAk.x.sig (zAk.fs N) := zM N (kC (n := 427) (by kernel_rfl) (zAu.sound N) rfl (kC (n := 424) (by kernel_rfl) (zAj.sound N) rfl (kC (n := 426) (by kernel_rfl) (yD.sound N) rfl (zD)))) hQs hmix zAk.ok
theorem zAe.ok : zw (EE []) 19 zAe.x = true := by kernel_rfl
theorem zAe.sound (N : Nat) : SD 19 zAe.x.sig (zAe.fs N) := zM N (zD) hQs hmix zAe.ok
theorem zAW.ok : zw (EE [(428, (zAk.x.sig, true)), (123, (zAe.x.sig, true))]) 5 zAW.x = true := by kernel_rfl
theorem zAW.sound (N : Nat) : SD 5 zAW.x.sig (zAW.fs N) := zM N (kC (n := 428) (by kernel_rfl) (zAk.sound N) rfl (kC (n := 123) (by kernel_rfl) (zAe.sound N) rfl (zD))) hQs hmix zAW.ok
theorem y9.ok : zw (EE []) 110 y9.x = true := by kernel_rfl
theorem y9.sound (N : Nat) : SD 110 y9.x.sig (y9.fs N) := zM N (zD) hQs hmix y9.ok
theorem zg.ok : zw (EE [(430, (y9.x.sig, true))]) 108 zg.x = true := by kernel_rfl
theorem zg.sound (N : Nat) : SD 108 zg.x.sig (zg.fs N) := zM N (kC (n := 430) (by kernel_rfl) (y9.sound N) rfl (zD)) hQs hmix zg.ok
theorem zk.ok : zw (EE [(431, (zg.x.sig, true))]) 74 zk.x = true := by kernel_rfl
theorem zk.sound (N : Nat) : SD 74 zk.x.sig (zk.fs N) := zM N (kC (n := 431) (by kernel_rfl) (zg.sound N) rfl (zD)) hQs hmix zk.ok
theorem zAh.ok : zw (EE [(432, (zk.x.sig, true))]) 44 zAh.x = true := by kernel_rfl
theorem zAh.sound (N : Nat) : SD 44 zAh.x.sig (zAh.fs N) := zM N (kC (n := 432) (by kernel_rfl) (zk.sound N) rfl (zD)) hQs hmix zAh.ok
theorem zA5.ok : zw (EE []) 109 zA5.x = true := by kernel_rfl
theorem zA5.sound (N : Nat) : SD 109 zA5.x.sig (zA5.fs N) := zM N (zD) hQs hmix zA5.ok
theorem yA.ok : zw (EE [(434, (zA5.x.sig, true))]) 75 yA.x = true := by kernel_rfl
theorem yA.sound (N : Nat) : SD 75 yA.x.sig (yA.fs N) := zM N (kC (n := 434) (by kernel_rfl) (zA5.sound N) rfl (zD)) hQs hmix yA.ok
theorem yC.ok : zw (EE [(435, (yA.x.sig, true))]) 45 yC.x = true := by kernel_rfl
theorem yC.sound (N : Nat) : SD 45 yC.x.sig (yC.fs N) := zM N (kC (n := 435) (by kernel_rfl) (yA.sound N) rfl (zD)) hQs hmix yC.ok
theorem zA6.ok : zw (EE [(430, (y9.x.sig, true))]) 76 zA6.x = true := by kernel_rfl
theorem zA6.sound (N : Nat) : SD 76 zA6.x.sig (zA6.fs N) := zM N (kC (n := 430) (by kernel_rfl) (y9.sound N) rfl (zD)) hQs hmix zA6.ok
theorem yK.ok : zw (EE [(437, (zA6.x.sig, true))]) 46 yK.x = true := by kernel_rfl
theorem yK.sound (N : Nat) : SD 46 yK.x.sig (yK.fs N) := zM N (kC (n := 437) (by kernel_rfl) (zA6.sound N) rfl (zD)) hQs hmix yK.ok
theorem zAi.ok : zw (EE [(438, (yK.x.sig, true)), (433, (zAh.x.sig, true)), (436, (yC.x.sig, true))]) 21 zAi.x = true := by kernel_rfl
theorem zAi.sound (N : Nat) : SD 21 zAi.x.sig (zAi.fs N) := zM N (kC (n := 438) (by kernel_rfl) (yK.sound N) rfl (kC (n := 433) (by kernel_rfl) (zAh.sound N) rfl (kC (n := 436) (by kernel_rfl) (yC.sound N) rfl (zD)))) hQs hmix zAi.ok
theorem zAK.ok : zw (EE []) 22 zAK.x = true := by kernel_rfl
theorem zAK.sound (N : Nat) : SD 22 zAK.x.sig (zAK.fs N) := zM N (zD) hQs hmix zAK.ok
theorem zAt.ok : zw (EE []) 16 zAt.x = true := by kernel_rfl
theorem zAt.sound (N : Nat) : SD 16 zAt.x.sig (zAt.fs N) := zM N (zD) hQs hmix zAt.ok
theorem z4.ok : zw (EE [(128, (zAt.x.sig, true))]) 23 z4.x = true := by kernel_rfl
theorem z4.sound (N : Nat) : SD 23 z4.x.sig (z4.fs N) := zM N (kC (n := 128) (by kernel_rfl) (zAt.sound N) rfl (zD)) hQs hmix z4.ok
theorem zAH.ok : zw (EE [(439, (zAi.x.sig, true)), (129, (z4.x.sig, true)), (440, (zAK.x.sig, true))]) 7 zAH.x = true := by kernel_rfl
theorem zAH.sound (N : Nat) : SD 7 zAH.x.sig (zAH.fs N) := zM N (kC (n := 439) (by kernel_rfl) (zAi.sound N) rfl (kC (n := 129) (by kernel_rfl) (z4.sound N) rfl (kC (n := 440) (by kernel_rfl) (zAK.sound N) rfl (zD)))) hQs hmix zAH.ok
theorem zR.ok : zw (EE []) 39 zR.x = true := by kernel_rfl
theorem zR.sound (N : Nat) : SD 39 zR.x.sig (zR.fs N) := zM N (zD) hQs hmix zR.ok
theorem yf.ok : zw (EE [(1, (zR.x.sig, true))]) 133 yf.x = true := by kernel_rfl
theorem yf.sound (N : Nat) : SD 133 yf.x.sig (yf.fs N) := zM N (kC (n := 1) (by kernel_rfl) (zR.sound N) rfl (zD)) hQs hmix yf.ok
theorem zE.ok : zw (EE [(283, (yf.x.sig, true)), (1, (zR.x.sig, true))]) 96 zE.x = true := by kernel_rfl
theorem zE.sound (N : Nat) : SD 96 zE.x.sig (zE.fs N) := zM N (kC (n := 283) (by kernel_rfl) (yf.sound N) rfl (kC (n := 1) (by kernel_rfl) (zR.sound N) rfl (zD))) hQs hmix zE.ok
theorem yU.ok : zw (EE [(283, (yf.x.sig, true))]) 101 yU.x = true := by kernel_rfl
theorem yU.sound (N : Nat) : SD 101 yU.x.sig (yU.fs N) := zM N (kC (n := 283) (by kernel_rfl) (yf.sound N) rfl (zD)) hQs hmix yU.ok
theorem z9.ok : zw (EE [(283, (yf.x.sig, true)), (285, (yU.x.sig, true)), (1, (zR.x.sig, true))]) 97 z9.x = true := by kernel_rfl
theorem z9.sound (N : Nat) : SD 97 z9.x.sig (z9.fs N) := zM N (kC (n := 283) (by kernel_rfl) (yf.sound N) rfl (kC (n := 285) (by kernel_rfl) (yU.sound N) rfl (kC (n := 1) (by kernel_rfl) (zR.sound N) rfl (zD)))) hQs hmix z9.ok
theorem yQ.ok : zw (EE []) 134 yQ.x = true := by kernel_rfl
theorem yQ.sound (N : Nat) : SD 134 yQ.x.sig (yQ.fs N) := zM N (zD) hQs hmix yQ.ok
theorem y8.ok : zw (EE []) 135 y8.x = true := by kernel_rfl
theorem y8.sound (N : Nat) : SD 135 y8.x.sig (y8.fs N) := zM N (zD) hQs hmix y8.ok
theorem yY.ok : zw (EE []) 105 yY.x = true := by kernel_rfl
theorem yY.sound (N : Nat) : SD 105 yY.x.sig (yY.fs N) := zM N (zD) hQs hmix yY.ok
theorem z7.ok : zw (EE [(283, (yf.x.sig, true)), (1, (zR.x.sig, true)), (288, (y8.x.sig, true)), (287, (yQ.x.sig, true)), (289, (yY.x.sig, true))]) 98 z7.x = true := by kernel_rfl
theorem z7.sound (N : Nat) : SD 98 z7.x.sig (z7.fs N) := zM N (kC (n := 283) (by kernel_rfl) (yf.sound N) rfl (kC (n := 1) (by kernel_rfl) (zR.sound N) rfl (kC (n := 288) (by kernel_rfl) (y8.sound N) rfl (kC (n := 287) (by kernel_rfl) (yQ.sound N) rfl (kC (n := 289) (by kernel_rfl) (yY.sound N) rfl (zD)))))) hQs hmix z7.ok
theorem zH.ok : zw (EE [(286, (z9.x.sig, true)), (284, (zE.x.sig, true)), (290, (z7.x.sig, true)), (1, (zR.x.sig, true))]) 67 zH.x = true := by kernel_rfl
theorem zH.sound (N : Nat) : SD 67 zH.x.sig (zH.fs N) := zM N (kC (n := 286) (by kernel_rfl) (z9.sound N) rfl (kC (n := 284) (by kernel_rfl) (zE.sound N) rfl (kC (n := 290) (by kernel_rfl) (z7.sound N) rfl (kC (n := 1) (by kernel_rfl) (zR.sound N) rfl (zD))))) hQs hmix zH.ok
theorem zAI.ok : zw (EE [(1, (zR.x.sig, true))]) 68 zAI.x = true := by kernel_rfl
theorem zAI.sound (N : Nat) : SD 68 zAI.x.sig (zAI.fs N) := zM N (kC (n := 1) (by kernel_rfl) (zR.sound N) rfl (zD)) hQs hmix zAI.ok
theorem zA3.ok : zw (EE [(1, (zR.x.sig, true))]) 70 zA3.x = true := by kernel_rfl
theorem zA3.sound (N : Nat) : SD 70 zA3.x.sig (zA3.fs N) := zM N (kC (n := 1) (by kernel_rfl) (zR.sound N) rfl (zD)) hQs hmix zA3.ok
theorem yJ.ok : zw (EE [(57, (zA3.x.sig, true))]) 41 yJ.x = true := by kernel_rfl
theorem yJ.sound (N : Nat) : SD 41 yJ.x.sig (yJ.fs N) := zM N (kC (n := 57) (by kernel_rfl) (zA3.sound N) rfl (zD)) hQs hmix yJ.ok
theorem zAQ.ok : zw (EE [(1, (zR.x.sig, true))]) 69 zAQ.x = true := by kernel_rfl
theorem zAQ.sound (N : Nat) : SD 69 zAQ.x.sig (zAQ.fs N) := zM N (kC (n := 1) (by kernel_rfl) (zR.sound N) rfl (zD)) hQs hmix zAQ.ok
theorem zU.ok : zw (EE [(40, (zAQ.x.sig, true))]) 40 zU.x = true := by kernel_rfl
theorem zU.sound (N : Nat) : SD 40 zU.x.sig (zU.fs N) := zM N (kC (n := 40) (by kernel_rfl) (zAQ.sound N) rfl (zD)) hQs hmix zU.ok
theorem zAT.ok : zw (EE [(291, (zH.x.sig, true)), (296, (zAI.x.sig, true)), (41, (zU.x.sig, true)), (297, (yJ.x.sig, true)), (1, (zR.x.sig, true))]) 38 zAT.x = true := by kernel_rfl
theorem zAT.sound (N : Nat) : SD 38 zAT.x.sig (zAT.fs N) := zM N (kC (n := 291) (by kernel_rfl) (zH.sound N) rfl (kC (n := 296) (by kernel_rfl) (zAI.sound N) rfl (kC (n := 41) (by kernel_rfl) (zU.sound N) rfl (kC (n := 297) (by kernel_rfl) (yJ.sound N) rfl (kC (n := 1) (by kernel_rfl) (zR.sound N) rfl (zD)))))) hQs hmix zAT.ok
theorem ya.ok : zw (EE []) 71 ya.x = true := by kernel_rfl
theorem ya.sound (N : Nat) : SD 71 ya.x.sig (ya.fs N) := zM N (zD) hQs hmix ya.ok
theorem yI.ok : zw (EE [(292, (ya.x.sig, true))]) 42 yI.x = true := by kernel_rfl
theorem yI.sound (N : Nat) : SD 42 yI.x.sig (yI.fs N) := zM N (kC (n := 292) (by kernel_rfl) (ya.sound N) rfl (zD)) hQs hmix yI.ok
theorem zj.ok : zw (EE [(286, (z9.x.sig, true)), (1, (zR.x.sig, true))]) 100 zj.x = true := by kernel_rfl
theorem zj.sound (N : Nat) : SD 100 zj.x.sig (zj.fs N) := zM N (kC (n := 286) (by kernel_rfl) (z9.sound N) rfl (kC (n := 1) (by kernel_rfl) (zR.sound N) rfl (zD))) hQs hmix zj.ok
theorem yR.ok : zw (EE [(284, (zE.x.sig, true)), (1, (zR.x.sig, true))]) 136 yR.x = true := by kernel_rfl
theorem yR.sound (N : Nat) : SD 136 yR.x.sig (yR.fs N) := zM N (kC (n := 284) (by kernel_rfl) (zE.sound N) rfl (kC (n := 1) (by kernel_rfl) (zR.sound N) rfl (zD))) hQs hmix yR.ok
theorem zAJ.ok : zw (EE [(302, (yR.x.sig, true))]) 99 zAJ.x = true := by kernel_rfl
theorem zAJ.sound (N : Nat) : SD 99 zAJ.x.sig (zAJ.fs N) := zM N (kC (n := 302) (by kernel_rfl) (yR.sound N) rfl (zD)) hQs hmix zAJ.ok
theorem za.ok : zw (EE [(40, (zAQ.x.sig, true)), (296, (zAI.x.sig, true)), (1, (zR.x.sig, true))]) 102 za.x = true := by kernel_rfl
theorem za.sound (N : Nat) : SD 102 za.x.sig (za.fs N) := zM N (kC (n := 40) (by kernel_rfl) (zAQ.sound N) rfl (kC (n := 296) (by kernel_rfl) (zAI.sound N) rfl (kC (n := 1) (by kernel_rfl) (zR.sound N) rfl (zD)))) hQs hmix za.ok
theorem yV.ok : zw (EE []) 104 yV.x = true := by kernel_rfl
theorem yV.sound (N : Nat) : SD 104 yV.x.sig (yV.fs N) := zM N (zD) hQs hmix yV.ok
theorem zA4.ok : zw (EE [(285, (yU.x.sig, true))]) 137 zA4.x = true := by kernel_rfl
theorem zA4.sound (N : Nat) : SD 137 zA4.x.sig (zA4.fs N) := zM N (kC (n := 285) (by kernel_rfl) (yU.sound N) rfl (zD)) hQs hmix zA4.ok
theorem zBC.ok : zw (EE [(285, (yU.x.sig, true))]) 138 zBC.x = true := by kernel_rfl
theorem zBC.sound (N : Nat) : SD 138 zBC.x.sig (zBC.fs N) := zM N (kC (n := 285) (by kernel_rfl) (yU.sound N) rfl (zD)) hQs hmix zBC.ok
theorem zAC.ok : zw (EE [(1, (zR.x.sig, true))]) 157 zAC.x = true := by kernel_rfl
theorem zAC.sound (N : Nat) : SD 157 zAC.x.sig (zAC.fs N) := zM N (kC (n := 1) (by kernel_rfl) (zR.sound N) rfl (zD)) hQs hmix zAC.ok
theorem zBG.ok : zw (EE [(308, (zAC.x.sig, true))]) 151 zBG.x = true := by kernel_rfl
theorem zBG.sound (N : Nat) : SD 151 zBG.x.sig (zBG.fs N) := zM N (kC (n := 308) (by kernel_rfl) (zAC.sound N) rfl (zD)) hQs hmix zBG.ok
theorem zAa.ok : zw (EE [(309, (zBG.x.sig, false))]) 139 zAa.x = true := by kernel_rfl
theorem zAa.sound (N : Nat) : SD 139 zAa.x.sig (zAa.fs N) := zM N (kC (n := 309) (by kernel_rfl) (zBG.sound N) rfl (zD)) hQs hmix zAa.ok
theorem zB.ok : zw (EE [(286, (z9.x.sig, true))]) 107 zB.x = true := by kernel_rfl
theorem zB.sound (N : Nat) : SD 107 zB.x.sig (zB.fs N) := zM N (kC (n := 286) (by kernel_rfl) (z9.sound N) rfl (zD)) hQs hmix zB.ok
theorem zA.ok : zw (EE [(311, (zB.x.sig, true))]) 152 zA.x = true := by kernel_rfl
theorem zA.sound (N : Nat) : SD 152 zA.x.sig (zA.fs N) := zM N (kC (n := 311) (by kernel_rfl) (zB.sound N) rfl (zD)) hQs hmix zA.ok
theorem zK.ok : zw (EE [(286, (z9.x.sig, true)), (290, (z7.x.sig, true)), (288, (y8.x.sig, true)), (287, (yQ.x.sig, true)), (312, (zA.x.sig, true)), (289, (yY.x.sig, true))]) 140 zK.x = true := by kernel_rfl
theorem zK.sound (N : Nat) : SD 140 zK.x.sig (zK.fs N) := zM N (kC (n := 286) (by kernel_rfl) (z9.sound N) rfl (kC (n := 290) (by kernel_rfl) (z7.sound N) rfl (kC (n := 288) (by kernel_rfl) (y8.sound N) rfl (kC (n := 287) (by kernel_rfl) (yQ.sound N) rfl (kC (n := 312) (by kernel_rfl) (zA.sound N) rfl (kC (n := 289) (by kernel_rfl) (yY.sound N) rfl (zD))))))) hQs hmix zK.ok
theorem zc.ok : zw (EE []) 141 zc.x = true := by kernel_rfl
theorem zc.sound (N : Nat) : SD 141 zc.x.sig (zc.fs N) := zM N (zD) hQs hmix zc.ok
theorem zA2.ok : zw (EE []) 142 zA2.x = true := by kernel_rfl
theorem zA2.sound (N : Nat) : SD 142 zA2.x.sig (zA2.fs N) := zM N (zD) hQs hmix zA2.ok
theorem zP.ok : zw (EE [(277, (zc.x.sig, true)), (314, (zA2.x.sig, true))]) 106 zP.x = true := by kernel_rfl
theorem zP.sound (N : Nat) : SD 106 zP.x.sig (zP.fs N) := zM N (kC (n := 277) (by kernel_rfl) (zc.sound N) rfl (kC (n := 314) (by kernel_rfl) (zA2.sound N) rfl (zD))) hQs hmix zP.ok
theorem zAz.ok : zw (EE [(303, (zAJ.x.sig, true)), (305, (yV.x.sig, true)), (306, (zA4.x.sig, true)), (291, (zH.x.sig, true)), (301, (zj.x.sig, true)), (313, (zK.x.sig, true)), (311, (zB.x.sig, true)), (307, (zBC.x.sig, true)), (1, (zR.x.sig, true)), (315, (zP.x.sig, true)), (293, (yI.x.sig, true)), (310, (zAa.x.sig, false))]) 103 zAz.x = true := by kernel_rfl
theorem zAz.sound (N : Nat) : SD 103 zAz.x.sig (zAz.fs N) := zM N (kC (n := 303) (by kernel_rfl) (zAJ.sound N) rfl (kC (n := 305) (by kernel_rfl) (yV.sound N) rfl (kC (n := 306) (by kernel_rfl) (zA4.sound N) rfl (kC (n := 291) (by kernel_rfl) (zH.sound N) rfl (kC (n := 301) (by kernel_rfl) (zj.sound N) rfl (kC (n := 313) (by kernel_rfl) (zK.sound N) rfl (kC (n := 311) (by kernel_rfl) (zB.sound N) rfl (kC (n := 307) (by kernel_rfl) (zBC.sound N) rfl (kC (n := 1) (by kernel_rfl) (zR.sound N) rfl (kC (n := 315) (by kernel_rfl) (zP.sound N) rfl (kC (n := 293) (by kernel_rfl) (yI.sound N) rfl (kC (n := 310) (by kernel_rfl) (zAa.sound N) rfl (zD))))))))))))) hQs hmix zAz.ok
theorem zAr.ok : zw (EE [(303, (zAJ.x.sig, true)), (304, (za.x.sig, true)), (285, (yU.x.sig, true)), (301, (zj.x.sig, true)), (316, (zAz.x.sig, true))]) 72 zAr.x = true := by kernel_rfl
theorem zAr.sound (N : Nat) : SD 72 zAr.x.sig (zAr.fs N) := zM N (kC (n := 303) (by kernel_rfl) (zAJ.sound N) rfl (kC (n := 304) (by kernel_rfl) (za.sound N) rfl (kC (n := 285) (by kernel_rfl) (yU.sound N) rfl (kC (n := 301) (by kernel_rfl) (zj.sound N) rfl (kC (n := 316) (by kernel_rfl) (zAz.sound N) rfl (zD)))))) hQs hmix zAr.ok
theorem zAs.ok : zw (EE [(305, (yV.x.sig, true)), (291, (zH.x.sig, true)), (311, (zB.x.sig, true)), (289, (yY.x.sig, true)), (315, (zP.x.sig, true)), (293, (yI.x.sig, true))]) 73 zAs.x = true := by kernel_rfl
theorem zAs.sound (N : Nat) : SD 73 zAs.x.sig (zAs.fs N) := zM N (kC (n := 305) (by kernel_rfl) (yV.sound N) rfl (kC (n := 291) (by kernel_rfl) (zH.sound N) rfl (kC (n := 311) (by kernel_rfl) (zB.sound N) rfl (kC (n := 289) (by kernel_rfl) (yY.sound N) rfl (kC (n := 315) (by kernel_rfl) (zP.sound N) rfl (kC (n := 293) (by kernel_rfl) (yI.sound N) rfl (zD))))))) hQs hmix zAs.ok
theorem zQ.ok : zw (EE [(318, (zAs.x.sig, true)), (317, (zAr.x.sig, false))]) 43 zQ.x = true := by kernel_rfl
theorem zQ.sound (N : Nat) : SD 43 zQ.x.sig (zQ.fs N) := zM N (kC (n := 318) (by kernel_rfl) (zAs.sound N) rfl (kC (n := 317) (by kernel_rfl) (zAr.sound N) rfl (zD))) hQs hmix zQ.ok
theorem zAB.ok : zw (EE [(298, (zAT.x.sig, true)), (41, (zU.x.sig, true)), (297, (yJ.x.sig, true)), (319, (zQ.x.sig, false)), (1, (zR.x.sig, true)), (293, (yI.x.sig, true))]) 20 zAB.x = true := by kernel_rfl
theorem zAB.sound (N : Nat) : SD 20 zAB.x.sig (zAB.fs N) := zM N (kC (n := 298) (by kernel_rfl) (zAT.sound N) rfl (kC (n := 41) (by kernel_rfl) (zU.sound N) rfl (kC (n := 297) (by kernel_rfl) (yJ.sound N) rfl (kC (n := 319) (by kernel_rfl) (zQ.sound N) rfl (kC (n := 1) (by kernel_rfl) (zR.sound N) rfl (kC (n := 293) (by kernel_rfl) (yI.sound N) rfl (zD))))))) hQs hmix zAB.ok
theorem zAS.ok : zw (EE [(320, (zAB.x.sig, false))]) 6 zAS.x = true := by kernel_rfl
theorem zAS.sound (N : Nat) : SD 6 zAS.x.sig (zAS.fs N) := zM N (kC (n := 320) (by kernel_rfl) (zAB.sound N) rfl (zD)) hQs hmix zAS.ok
theorem zV.ok : zw (EE [(431, (zg.x.sig, true))]) 74 zV.x = true := by kernel_rfl
theorem zV.sound (N : Nat) : SD 74 zV.x.sig (zV.fs N) := zBH N (kC (n := 431) (by kernel_rfl) (zg.sound N) rfl (zD)) hQs hmix zV.ok
theorem zAU.ok : zw (EE [(442, (zV.x.sig, true))]) 44 zAU.x = true := by kernel_rfl
theorem zAU.sound (N : Nat) : SD 44 zAU.x.sig (zAU.fs N) := zBH N (kC (n := 442) (by kernel_rfl) (zV.sound N) rfl (zD)) hQs hmix zAU.ok
theorem zy.ok : zw (EE [(435, (yA.x.sig, true))]) 45 zy.x = true := by kernel_rfl
theorem zy.sound (N : Nat) : SD 45 zy.x.sig (zy.fs N) := zBH N (kC (n := 435) (by kernel_rfl) (yA.sound N) rfl (zD)) hQs hmix zy.ok
theorem zAV.ok : zw (EE [(438, (yK.x.sig, true)), (443, (zAU.x.sig, true)), (444, (zy.x.sig, true))]) 21 zAV.x = true := by kernel_rfl
theorem zAV.sound (N : Nat) : SD 21 zAV.x.sig (zAV.fs N) := zBH N (kC (n := 438) (by kernel_rfl) (yK.sound N) rfl (kC (n := 443) (by kernel_rfl) (zAU.sound N) rfl (kC (n := 444) (by kernel_rfl) (zy.sound N) rfl (zD)))) hQs hmix zAV.ok
theorem zAD.ok : zw (EE [(445, (zAV.x.sig, true)), (129, (z4.x.sig, true)), (440, (zAK.x.sig, true))]) 7 zAD.x = true := by kernel_rfl
theorem zAD.sound (N : Nat) : SD 7 zAD.x.sig (zAD.fs N) := zBH N (kC (n := 445) (by kernel_rfl) (zAV.sound N) rfl (kC (n := 129) (by kernel_rfl) (z4.sound N) rfl (kC (n := 440) (by kernel_rfl) (zAK.sound N) rfl (zD)))) hQs hmix zAD.ok
theorem yx.ok : zw (EE []) 146 yx.x = true := by kernel_rfl
theorem yx.sound (N : Nat) : SD 146 yx.x.sig (yx.fs N) := zM N (zD) hQs hmix yx.ok
theorem yn.ok : zw (EE []) 147 yn.x = true := by kernel_rfl
theorem yn.sound (N : Nat) : SD 147 yn.x.sig (yn.fs N) := zM N (zD) hQs hmix yn.ok
theorem yu.ok : zw (EE []) 148 yu.x = true := by kernel_rfl
theorem yu.sound (N : Nat) : SD 148 yu.x.sig (yu.fs N) := zM N (zD) hQs hmix yu.ok
theorem yg.ok : zw (EE [(153, (yx.x.sig, true)), (154, (yn.x.sig, true)), (155, (yu.x.sig, true))]) 121 yg.x = true := by kernel_rfl
theorem yg.sound (N : Nat) : SD 121 yg.x.sig (yg.fs N) := zM N (kC (n := 153) (by kernel_rfl) (yx.sound N) rfl (kC (n := 154) (by kernel_rfl) (yn.sound N) rfl (kC (n := 155) (by kernel_rfl) (yu.sound N) rfl (zD)))) hQs hmix yg.ok
theorem zF.ok : zw (EE [(156, (yg.x.sig, true))]) 111 zF.x = true := by kernel_rfl
theorem zF.sound (N : Nat) : SD 111 zF.x.sig (zF.fs N) := zM N (kC (n := 156) (by kernel_rfl) (yg.sound N) rfl (zD)) hQs hmix zF.ok
theorem zAx.ok : zw (EE []) 117 zAx.x = true := by kernel_rfl
theorem zAx.sound (N : Nat) : SD 117 zAx.x.sig (zAx.fs N) := zM N (zD) hQs hmix zAx.ok
theorem z5.ok : zw (EE [(156, (yg.x.sig, true)), (65, (zAx.x.sig, true))]) 112 z5.x = true := by kernel_rfl
theorem z5.sound (N : Nat) : SD 112 z5.x.sig (z5.fs N) := zM N (kC (n := 156) (by kernel_rfl) (yg.sound N) rfl (kC (n := 65) (by kernel_rfl) (zAx.sound N) rfl (zD))) hQs hmix z5.ok
theorem yW.ok : zw (EE []) 143 yW.x = true := by kernel_rfl
theorem yW.sound (N : Nat) : SD 143 yW.x.sig (yW.fs N) := zM N (zD) hQs hmix yW.ok
theorem zx.ok : zw (EE [(156, (yg.x.sig, true)), (165, (yW.x.sig, true))]) 113 zx.x = true := by kernel_rfl
theorem zx.sound (N : Nat) : SD 113 zx.x.sig (zx.fs N) := zM N (kC (n := 156) (by kernel_rfl) (yg.sound N) rfl (kC (n := 165) (by kernel_rfl) (yW.sound N) rfl (zD))) hQs hmix zx.ok
theorem zL.ok : zw (EE [(164, (z5.x.sig, true)), (163, (zF.x.sig, true)), (166, (zx.x.sig, true))]) 77 zL.x = true := by kernel_rfl
theorem zL.sound (N : Nat) : SD 77 zL.x.sig (zL.fs N) := zM N (kC (n := 164) (by kernel_rfl) (z5.sound N) rfl (kC (n := 163) (by kernel_rfl) (zF.sound N) rfl (kC (n := 166) (by kernel_rfl) (zx.sound N) rfl (zD)))) hQs hmix zL.ok
theorem zAM.ok : zw (EE []) 78 zAM.x = true := by kernel_rfl
theorem zAM.sound (N : Nat) : SD 78 zAM.x.sig (zAM.fs N) := zM N (zD) hQs hmix zAM.ok
theorem zv.ok : zw (EE []) 51 zv.x = true := by kernel_rfl
theorem zv.sound (N : Nat) : SD 51 zv.x.sig (zv.fs N) := zM N (zD) hQs hmix zv.ok
theorem zAR.ok : zw (EE []) 116 zAR.x = true := by kernel_rfl
theorem zAR.sound (N : Nat) : SD 116 zAR.x.sig (zAR.fs N) := zM N (zD) hQs hmix zAR.ok
theorem yX.ok : zw (EE [(68, (zAR.x.sig, true)), (65, (zAx.x.sig, true))]) 80 yX.x = true := by kernel_rfl
theorem yX.sound (N : Nat) : SD 80 yX.x.sig (yX.fs N) := zM N (kC (n := 68) (by kernel_rfl) (zAR.sound N) rfl (kC (n := 65) (by kernel_rfl) (zAx.sound N) rfl (zD))) hQs hmix yX.ok
theorem zh.ok : zw (EE [(69, (yX.x.sig, true))]) 50 zh.x = true := by kernel_rfl
theorem zh.sound (N : Nat) : SD 50 zh.x.sig (zh.fs N) := zM N (kC (n := 69) (by kernel_rfl) (yX.sound N) rfl (zD)) hQs hmix zh.ok
theorem yt.ok : zw (EE []) 48 yt.x = true := by kernel_rfl
theorem yt.sound (N : Nat) : SD 48 yt.x.sig (yt.fs N) := zM N (zD) hQs hmix yt.ok
theorem zAX.ok : zw (EE [(167, (zL.x.sig, true)), (172, (zAM.x.sig, true)), (173, (zv.x.sig, true)), (71, (yt.x.sig, true)), (70, (zh.x.sig, true))]) 47 zAX.x = true := by kernel_rfl
theorem zAX.sound (N : Nat) : SD 47 zAX.x.sig (zAX.fs N) := zM N (kC (n := 167) (by kernel_rfl) (zL.sound N) rfl (kC (n := 172) (by kernel_rfl) (zAM.sound N) rfl (kC (n := 173) (by kernel_rfl) (zv.sound N) rfl (kC (n := 71) (by kernel_rfl) (yt.sound N) rfl (kC (n := 70) (by kernel_rfl) (zh.sound N) rfl (zD)))))) hQs hmix zAX.ok
theorem zZ.ok : zw (EE []) 114 zZ.x = true := by kernel_rfl
theorem zZ.sound (N : Nat) : SD 114 zZ.x.sig (zZ.fs N) := zBH N (zD) hQs hmix zZ.ok
theorem zY.ok : zw (EE []) 115 zY.x = true := by kernel_rfl
theorem zY.sound (N : Nat) : SD 115 zY.x.sig (zY.fs N) := zBH N (zD) hQs hmix zY.ok
theorem yO.ok : zw (EE [(447, (zZ.x.sig, true)), (448, (zY.x.sig, true))]) 79 yO.x = true := by kernel_rfl
theorem yO.sound (N : Nat) : SD 79 yO.x.sig (yO.fs N) := zBH N (kC (n := 447) (by kernel_rfl) (zZ.sound N) rfl (kC (n := 448) (by kernel_rfl) (zY.sound N) rfl (zD))) hQs hmix yO.ok
theorem yj.ok : zw (EE [(449, (yO.x.sig, true))]) 49 yj.x = true := by kernel_rfl
theorem yj.sound (N : Nat) : SD 49 yj.x.sig (yj.fs N) := zBH N (kC (n := 449) (by kernel_rfl) (yO.sound N) rfl (zD)) hQs hmix yj.ok
theorem yd.ok : zw (EE []) 118 yd.x = true := by kernel_rfl
theorem yd.sound (N : Nat) : SD 118 yd.x.sig (yd.fs N) := zM N (zD) hQs hmix yd.ok
theorem zAL.ok : zw (EE []) 154 zAL.x = true := by kernel_rfl
theorem zAL.sound (N : Nat) : SD 154 zAL.x.sig (zAL.fs N) := zM N (zD) hQs hmix zAL.ok
theorem yc.ok : zw (EE []) 156 yc.x = true := by kernel_rfl
theorem yc.sound (N : Nat) : SD 156 yc.x.sig (yc.fs N) := zM N (zD) hQs hmix yc.ok
theorem z6.ok : zw (EE [(201, (ext_sort_Ints.sig, true)), (114, (zAL.x.sig, true)), (202, (yc.x.sig, true))]) 145 z6.x = true := by kernel_rfl
theorem z6.sound (N : Nat) : SD 145 z6.x.sig (z6.fs N) := zM N (kC (n := 201) (by kernel_rfl) (ext_sort_Ints.sound N) rfl (kC (n := 114) (by kernel_rfl) (zAL.sound N) rfl (kC (n := 202) (by kernel_rfl) (yc.sound N) rfl (zD)))) hQs hmix z6.ok
theorem zJ.ok : zw (EE [(164, (z5.x.sig, true)), (203, (z6.x.sig, true))]) 120 zJ.x = true := by kernel_rfl
theorem zJ.sound (N : Nat) : SD 120 zJ.x.sig (zJ.fs N) := zM N (kC (n := 164) (by kernel_rfl) (z5.sound N) rfl (kC (n := 203) (by kernel_rfl) (z6.sound N) rfl (zD))) hQs hmix zJ.ok
theorem yH.ok : zw (EE []) 153 yH.x = true := by kernel_rfl
theorem yH.sound (N : Nat) : SD 153 yH.x.sig (yH.fs N) := zM N (zD) hQs hmix yH.ok
theorem zAE.ok : zw (EE [(205, (yH.x.sig, true))]) 144 zAE.x = true := by kernel_rfl
theorem zAE.sound (N : Nat) : SD 144 zAE.x.sig (zAE.fs N) := zM N (kC (n := 205) (by kernel_rfl) (yH.sound N) rfl (zD)) hQs hmix zAE.ok
theorem zC.ok : zw (EE [(206, (zAE.x.sig, true))]) 119 zC.x = true := by kernel_rfl
theorem zC.sound (N : Nat) : SD 119 zC.x.sig (zC.fs N) := zBH N (kC (n := 206) (by kernel_rfl) (zAE.sound N) rfl (zD)) hQs hmix zC.ok
theorem zAc.ok : zw (EE [(179, (yd.x.sig, true)), (204, (zJ.x.sig, true)), (451, (zC.x.sig, true)), (449, (yO.x.sig, true))]) 81 zAc.x = true := by kernel_rfl
theorem zAc.sound (N : Nat) : SD 81 zAc.x.sig (zAc.fs N) := zBH N (kC (n := 179) (by kernel_rfl) (yd.sound N) rfl (kC (n := 204) (by kernel_rfl) (zJ.sound N) rfl (kC (n := 451) (by kernel_rfl) (zC.sound N) rfl (kC (n := 449) (by kernel_rfl) (yO.sound N) rfl (zD))))) hQs hmix zAc.ok
theorem zo.ok : zw (EE [(164, (z5.x.sig, true))]) 82 zo.x = true := by kernel_rfl
theorem zo.sound (N : Nat) : SD 82 zo.x.sig (zo.fs N) := zM N (kC (n := 164) (by kernel_rfl) (z5.sound N) rfl (zD)) hQs hmix zo.ok
theorem yB.ok : zw (EE [(65, (zAx.x.sig, true))]) 123 yB.x = true := by kernel_rfl
theorem yB.sound (N : Nat) : SD 123 yB.x.sig (yB.fs N) := zM N (kC (n := 65) (by kernel_rfl) (zAx.sound N) rfl (zD)) hQs hmix yB.ok
theorem zAy.ok : zw (EE [(163, (zF.x.sig, true)), (210, (yB.x.sig, true))]) 122 zAy.x = true := by kernel_rfl
theorem zAy.sound (N : Nat) : SD 122 zAy.x.sig (zAy.fs N) := zM N (kC (n := 163) (by kernel_rfl) (zF.sound N) rfl (kC (n := 210) (by kernel_rfl) (yB.sound N) rfl (zD))) hQs hmix zAy.ok
theorem zAg.ok : zw (EE [(211, (zAy.x.sig, true))]) 84 zAg.x = true := by kernel_rfl
theorem zAg.sound (N : Nat) : SD 84 zAg.x.sig (zAg.fs N) := zM N (kC (n := 211) (by kernel_rfl) (zAy.sound N) rfl (zD)) hQs hmix zAg.ok
theorem yh.ok : zw (EE [(156, (yg.x.sig, true))]) 83 yh.x = true := by kernel_rfl
theorem yh.sound (N : Nat) : SD 83 yh.x.sig (yh.fs N) := zM N (kC (n := 156) (by kernel_rfl) (yg.sound N) rfl (zD)) hQs hmix yh.ok
theorem zp.ok : zw (EE [(68, (zAR.x.sig, true)), (172, (zAM.x.sig, true)), (65, (zAx.x.sig, true))]) 85 zp.x = true := by kernel_rfl
theorem zp.sound (N : Nat) : SD 85 zp.x.sig (zp.fs N) := zM N (kC (n := 68) (by kernel_rfl) (zAR.sound N) rfl (kC (n := 172) (by kernel_rfl) (zAM.sound N) rfl (kC (n := 65) (by kernel_rfl) (zAx.sound N) rfl (zD)))) hQs hmix zp.ok
theorem zA9.ok : zw (EE [(157, (yh.x.sig, true))]) 124 zA9.x = true := by kernel_rfl
theorem zA9.sound (N : Nat) : SD 124 zA9.x.sig (zA9.fs N) := zM N (kC (n := 157) (by kernel_rfl) (yh.sound N) rfl (zD)) hQs hmix zA9.ok
theorem zBD.ok : zw (EE [(157, (yh.x.sig, true))]) 125 zBD.x = true := by kernel_rfl
theorem zBD.sound (N : Nat) : SD 125 zBD.x.sig (zBD.fs N) := zM N (kC (n := 157) (by kernel_rfl) (yh.sound N) rfl (zD)) hQs hmix zBD.ok
theorem zAF.ok : zw (EE []) 149 zAF.x = true := by kernel_rfl
theorem zAF.sound (N : Nat) : SD 149 zAF.x.sig (zAF.fs N) := zM N (zD) hQs hmix zAF.ok
theorem zAp.ok : zw (EE [(215, (zAF.x.sig, true))]) 126 zAp.x = true := by kernel_rfl
theorem zAp.sound (N : Nat) : SD 126 zAp.x.sig (zAp.fs N) := zBH N (kC (n := 215) (by kernel_rfl) (zAF.sound N) rfl (zD)) hQs hmix zAp.ok
theorem zb.ok : zw (EE [(203, (z6.x.sig, true)), (114, (zAL.x.sig, true))]) 150 zb.x = true := by kernel_rfl
theorem zb.sound (N : Nat) : SD 150 zb.x.sig (zb.fs N) := zM N (kC (n := 203) (by kernel_rfl) (z6.sound N) rfl (kC (n := 114) (by kernel_rfl) (zAL.sound N) rfl (zD))) hQs hmix zb.ok
theorem zI.ok : zw (EE [(164, (z5.x.sig, true)), (166, (zx.x.sig, true)), (204, (zJ.x.sig, true)), (165, (yW.x.sig, true)), (217, (zb.x.sig, true))]) 127 zI.x = true := by kernel_rfl
theorem zI.sound (N : Nat) : SD 127 zI.x.sig (zI.fs N) := zBH N (kC (n := 164) (by kernel_rfl) (z5.sound N) rfl (kC (n := 166) (by kernel_rfl) (zx.sound N) rfl (kC (n := 204) (by kernel_rfl) (zJ.sound N) rfl (kC (n := 165) (by kernel_rfl) (yW.sound N) rfl (kC (n := 217) (by kernel_rfl) (zb.sound N) rfl (zD)))))) hQs hmix zI.ok
theorem zAd.ok : zw (EE [(214, (zA9.x.sig, true)), (209, (zo.x.sig, true)), (454, (zI.x.sig, true)), (204, (zJ.x.sig, true)), (158, (zBD.x.sig, true)), (451, (zC.x.sig, true)), (449, (yO.x.sig, true)), (210, (yB.x.sig, true)), (453, (zAp.x.sig, false))]) 86 zAd.x = true := by kernel_rfl
theorem zAd.sound (N : Nat) : SD 86 zAd.x.sig (zAd.fs N) := zBH N (kC (n := 214) (by kernel_rfl) (zA9.sound N) rfl (kC (n := 209) (by kernel_rfl) (zo.sound N) rfl (kC (n := 454) (by kernel_rfl) (zI.sound N) rfl (kC (n := 204) (by kernel_rfl) (zJ.sound N) rfl (kC (n := 158) (by kernel_rfl) (zBD.sound N) rfl (kC (n := 451) (by kernel_rfl) (zC.sound N) rfl (kC (n := 449) (by kernel_rfl) (yO.sound N) rfl (kC (n := 210) (by kernel_rfl) (yB.sound N) rfl (kC (n := 453) (by kernel_rfl) (zAp.sound N) rfl (zD)))))))))) hQs hmix zAd.ok
theorem yL.ok : zw (EE [(212, (zAg.x.sig, true)), (213, (zp.x.sig, true)), (157, (yh.x.sig, true)), (209, (zo.x.sig, true)), (455, (zAd.x.sig, true)), (452, (zAc.x.sig, true))]) 52 yL.x = true := by kernel_rfl
theorem yL.sound (N : Nat) : SD 52 yL.x.sig (yL.fs N) := zBH N (kC (n := 212) (by kernel_rfl) (zAg.sound N) rfl (kC (n := 213) (by kernel_rfl) (zp.sound N) rfl (kC (n := 157) (by kernel_rfl) (yh.sound N) rfl (kC (n := 209) (by kernel_rfl) (zo.sound N) rfl (kC (n := 455) (by kernel_rfl) (zAd.sound N) rfl (kC (n := 452) (by kernel_rfl) (zAc.sound N) rfl (zD))))))) hQs hmix yL.ok
theorem yr.ok : zw (EE []) 53 yr.x = true := by kernel_rfl
theorem yr.sound (N : Nat) : SD 53 yr.x.sig (yr.fs N) := zBH N (zD) hQs hmix yr.ok
theorem zS.ok : zw (EE [(456, (yL.x.sig, false)), (174, (zAX.x.sig, true)), (450, (yj.x.sig, true)), (173, (zv.x.sig, true)), (71, (yt.x.sig, true)), (70, (zh.x.sig, true)), (457, (yr.x.sig, false))]) 24 zS.x = true := by kernel_rfl
theorem zS.sound (N : Nat) : SD 24 zS.x.sig (zS.fs N) := zBH N (kC (n := 456) (by kernel_rfl) (yL.sound N) rfl (kC (n := 174) (by kernel_rfl) (zAX.sound N) rfl (kC (n := 450) (by kernel_rfl) (yj.sound N) rfl (kC (n := 173) (by kernel_rfl) (zv.sound N) rfl (kC (n := 71) (by kernel_rfl) (yt.sound N) rfl (kC (n := 70) (by kernel_rfl) (zh.sound N) rfl (kC (n := 457) (by kernel_rfl) (yr.sound N) rfl (zD)))))))) hQs hmix zS.ok
theorem yz.ok : zw (EE [(458, (zS.x.sig, true))]) 8 yz.x = true := by kernel_rfl
theorem yz.sound (N : Nat) : SD 8 yz.x.sig (yz.fs N) := zBH N (kC (n := 458) (by kernel_rfl) (zS.sound N) rfl (zD)) hQs hmix yz.ok
theorem zAA.ok : zw (EE []) 130 zAA.x = true := by kernel_rfl
theorem zAA.sound (N : Nat) : SD 130 zAA.x.sig (zAA.fs N) := zM N (zD) hQs hmix zAA.ok
theorem zu.ok : zw (EE [(459, (zAA.x.sig, true))]) 128 zu.x = true := by kernel_rfl
theorem zu.sound (N : Nat) : SD 128 zu.x.sig (zu.fs N) := zM N (kC (n := 459) (by kernel_rfl) (zAA.sound N) rfl (zD)) hQs hmix zu.ok
theorem zn.ok : zw (EE [(460, (zu.x.sig, true))]) 87 zn.x = true := by kernel_rfl
theorem zn.sound (N : Nat) : SD 87 zn.x.sig (zn.fs N) := zM N (kC (n := 460) (by kernel_rfl) (zu.sound N) rfl (zD)) hQs hmix zn.ok
theorem zAm.ok : zw (EE [(461, (zn.x.sig, true))]) 54 zAm.x = true := by kernel_rfl
theorem zAm.sound (N : Nat) : SD 54 zAm.x.sig (zAm.fs N) := zM N (kC (n := 461) (by kernel_rfl) (zn.sound N) rfl (zD)) hQs hmix zAm.ok
theorem zA1.ok : zw (EE []) 129 zA1.x = true := by kernel_rfl
theorem zA1.sound (N : Nat) : SD 129 zA1.x.sig (zA1.fs N) := zM N (zD) hQs hmix zA1.ok
theorem yN.ok : zw (EE [(389, (zA1.x.sig, true))]) 88 yN.x = true := by kernel_rfl
theorem yN.sound (N : Nat) : SD 88 yN.x.sig (yN.fs N) := zM N (kC (n := 389) (by kernel_rfl) (zA1.sound N) rfl (zD)) hQs hmix yN.ok
theorem yF.ok : zw (EE [(390, (yN.x.sig, true))]) 55 yF.x = true := by kernel_rfl
theorem yF.sound (N : Nat) : SD 55 yF.x.sig (yF.fs N) := zM N (kC (n := 390) (by kernel_rfl) (yN.sound N) rfl (zD)) hQs hmix yF.ok
theorem zA8.ok : zw (EE [(459, (zAA.x.sig, true))]) 89 zA8.x = true := by kernel_rfl
theorem zA8.sound (N : Nat) : SD 89 zA8.x.sig (zA8.fs N) := zM N (kC (n := 459) (by kernel_rfl) (zAA.sound N) rfl (zD)) hQs hmix zA8.ok
theorem yS.ok : zw (EE [(464, (zA8.x.sig, true))]) 56 yS.x = true := by kernel_rfl
theorem yS.sound (N : Nat) : SD 56 yS.x.sig (yS.fs N) := zM N (kC (n := 464) (by kernel_rfl) (zA8.sound N) rfl (zD)) hQs hmix yS.ok
theorem zAn.ok : zw (EE [(465, (yS.x.sig, true)), (462, (zAm.x.sig, true)), (463, (yF.x.sig, true))]) 25 zAn.x = true := by kernel_rfl
theorem zAn.sound (N : Nat) : SD 25 zAn.x.sig (zAn.fs N) := zM N (kC (n := 465) (by kernel_rfl) (yS.sound N) rfl (kC (n := 462) (by kernel_rfl) (zAm.sound N) rfl (kC (n := 463) (by kernel_rfl) (yF.sound N) rfl (zD)))) hQs hmix zAn.ok
theorem zAl.ok : zw (EE []) 26 zAl.x = true := by kernel_rfl
theorem zAl.sound (N : Nat) : SD 26 zAl.x.sig (zAl.fs N) := zM N (zD) hQs hmix zAl.ok
theorem zAv.ok : zw (EE []) 57 zAv.x = true := by kernel_rfl
theorem zAv.sound (N : Nat) : SD 57 zAv.x.sig (zAv.fs N) := zM N (zD) hQs hmix zAv.ok
theorem yG.ok : zw (EE [(135, (zAv.x.sig, true))]) 27 yG.x = true := by kernel_rfl
theorem yG.sound (N : Nat) : SD 27 yG.x.sig (yG.fs N) := zM N (kC (n := 135) (by kernel_rfl) (zAv.sound N) rfl (zD)) hQs hmix yG.ok
theorem y6.ok : zw (EE [(466, (zAn.x.sig, true)), (136, (yG.x.sig, true)), (467, (zAl.x.sig, true))]) 9 y6.x = true := by kernel_rfl
theorem y6.sound (N : Nat) : SD 9 y6.x.sig (y6.fs N) := zM N (kC (n := 466) (by kernel_rfl) (zAn.sound N) rfl (kC (n := 136) (by kernel_rfl) (yG.sound N) rfl (kC (n := 467) (by kernel_rfl) (zAl.sound N) rfl (zD)))) hQs hmix y6.ok
theorem yb.ok : zw (EE []) 90 yb.x = true := by kernel_rfl
theorem yb.sound (N : Nat) : SD 90 yb.x.sig (yb.fs N) := zM N (zD) hQs hmix yb.ok
theorem zAf.ok : zw (EE [(239, (yb.x.sig, true))]) 58 zAf.x = true := by kernel_rfl
theorem zAf.sound (N : Nat) : SD 58 zAf.x.sig (zAf.fs N) := zM N (kC (n := 239) (by kernel_rfl) (yb.sound N) rfl (zD)) hQs hmix zAf.ok
theorem zA7.ok : zw (EE [(265, (zAf.x.sig, true))]) 28 zA7.x = true := by kernel_rfl
theorem zA7.sound (N : Nat) : SD 28 zA7.x.sig (zA7.fs N) := zM N (kC (n := 265) (by kernel_rfl) (zAf.sound N) rfl (zD)) hQs hmix zA7.ok
theorem yM.ok : zw (EE [(469, (zA7.x.sig, true))]) 10 yM.x = true := by kernel_rfl
theorem yM.sound (N : Nat) : SD 10 yM.x.sig (yM.fs N) := zM N (kC (n := 469) (by kernel_rfl) (zA7.sound N) rfl (zD)) hQs hmix yM.ok
theorem zX.ok : zw (EE []) 131 zX.x = true := by kernel_rfl
theorem zX.sound (N : Nat) : SD 131 zX.x.sig (zX.fs N) := zM N (zD) hQs hmix zX.ok
theorem zN.ok : zw (EE [(471, (zX.x.sig, false))]) 91 zN.x = true := by kernel_rfl
theorem zN.sound (N : Nat) : SD 91 zN.x.sig (zN.fs N) := zBH N (kC (n := 471) (by kernel_rfl) (zX.sound N) rfl (zD)) hQs hmix zN.ok
theorem y4.ok : zw (EE [(472, (zN.x.sig, true))]) 59 y4.x = true := by kernel_rfl
theorem y4.sound (N : Nat) : SD 59 y4.x.sig (y4.fs N) := zBH N (kC (n := 472) (by kernel_rfl) (zN.sound N) rfl (zD)) hQs hmix y4.ok
theorem z1.ok : zw (EE []) 92 z1.x = true := by kernel_rfl
theorem z1.sound (N : Nat) : SD 92 z1.x.sig (z1.fs N) := zM N (zD) hQs hmix z1.ok
theorem zW.ok : zw (EE [(391, (z1.x.sig, false))]) 60 zW.x = true := by kernel_rfl
theorem zW.sound (N : Nat) : SD 60 zW.x.sig (zW.fs N) := zBH N (kC (n := 391) (by kernel_rfl) (z1.sound N) rfl (zD)) hQs hmix zW.ok
theorem z3.ok : zw (EE []) 61 z3.x = true := by kernel_rfl
theorem z3.sound (N : Nat) : SD 61 z3.x.sig (z3.fs N) := zM N (zD) hQs hmix z3.ok
theorem y5.ok : zw (EE [(475, (z3.x.sig, false)), (473, (y4.x.sig, true)), (474, (zW.x.sig, true))]) 29 y5.x = true := by kernel_rfl
theorem y5.sound (N : Nat) : SD 29 y5.x.sig (y5.fs N) := zBH N (kC (n := 475) (by kernel_rfl) (z3.sound N) rfl (kC (n := 473) (by kernel_rfl) (y4.sound N) rfl (kC (n := 474) (by kernel_rfl) (zW.sound N) rfl (zD)))) hQs hmix y5.ok
theorem zm.ok : zw (EE []) 30 zm.x = true := by kernel_rfl
theorem zm.sound (N : Nat) : SD 30 zm.x.sig (zm.fs N) := zM N (zD) hQs hmix zm.ok
theorem yi.ok : zw (EE [(476, (y5.x.sig, false)), (141, (zm.x.sig, false))]) 11 yi.x = true := by kernel_rfl
theorem yi.sound (N : Nat) : SD 11 yi.x.sig (yi.fs N) := zBH N (kC (n := 476) (by kernel_rfl) (y5.sound N) rfl (kC (n := 141) (by kernel_rfl) (zm.sound N) rfl (zD))) hQs hmix yi.ok
theorem yE.ok : zw (EE []) 31 yE.x = true := by kernel_rfl
theorem yE.sound (N : Nat) : SD 31 yE.x.sig (yE.fs N) := zM N (zD) hQs hmix yE.ok
theorem zd.ok : zw (EE [(242, (yE.x.sig, false))]) 12 zd.x = true := by kernel_rfl
theorem zd.sound (N : Nat) : SD 12 zd.x.sig (zd.fs N) := zBH N (kC (n := 242) (by kernel_rfl) (yE.sound N) rfl (zD)) hQs hmix zd.ok
theorem zT.ok : zw (EE []) 132 zT.x = true := by kernel_rfl
theorem zT.sound (N : Nat) : SD 132 zT.x.sig (zT.fs N) := zM N (zD) hQs hmix zT.ok
theorem zO.ok : zw (EE [(479, (zT.x.sig, true))]) 93 zO.x = true := by kernel_rfl
theorem zO.sound (N : Nat) : SD 93 zO.x.sig (zO.fs N) := zM N (kC (n := 479) (by kernel_rfl) (zT.sound N) rfl (zD)) hQs hmix zO.ok
theorem zAO.ok : zw (EE [(480, (zO.x.sig, true))]) 62 zAO.x = true := by kernel_rfl
theorem zAO.sound (N : Nat) : SD 62 zAO.x.sig (zAO.fs N) := zM N (kC (n := 480) (by kernel_rfl) (zO.sound N) rfl (zD)) hQs hmix zAO.ok
theorem zr.ok : zw (EE []) 94 zr.x = true := by kernel_rfl
theorem zr.sound (N : Nat) : SD 94 zr.x.sig (zr.fs N) := zM N (zD) hQs hmix zr.ok
theorem ze.ok : zw (EE [(392, (zr.x.sig, true))]) 63 ze.x = true := by kernel_rfl
theorem ze.sound (N : Nat) : SD 63 ze.x.sig (ze.fs N) := zM N (kC (n := 392) (by kernel_rfl) (zr.sound N) rfl (zD)) hQs hmix ze.ok
theorem zt.ok : zw (EE []) 64 zt.x = true := by kernel_rfl
theorem zt.sound (N : Nat) : SD 64 zt.x.sig (zt.fs N) := zM N (zD) hQs hmix zt.ok
theorem zAP.ok : zw (EE [(483, (zt.x.sig, true)), (481, (zAO.x.sig, true)), (482, (ze.x.sig, true))]) 32 zAP.x = true := by kernel_rfl
theorem zAP.sound (N : Nat) : SD 32 zAP.x.sig (zAP.fs N) := zM N (kC (n := 483) (by kernel_rfl) (zt.sound N) rfl (kC (n := 481) (by kernel_rfl) (zAO.sound N) rfl (kC (n := 482) (by kernel_rfl) (ze.sound N) rfl (zD)))) hQs hmix zAP.ok
theorem zf.ok : zw (EE []) 33 zf.x = true := by kernel_rfl
theorem zf.sound (N : Nat) : SD 33 zf.x.sig (zf.fs N) := zM N (zD) hQs hmix zf.ok
theorem yo.ok : zw (EE [(484, (zAP.x.sig, true)), (145, (zf.x.sig, true))]) 13 yo.x = true := by kernel_rfl
theorem yo.sound (N : Nat) : SD 13 yo.x.sig (yo.fs N) := zM N (kC (n := 484) (by kernel_rfl) (zAP.sound N) rfl (kC (n := 145) (by kernel_rfl) (zf.sound N) rfl (zD))) hQs hmix yo.ok
theorem z8.ok : zw (EE []) 34 z8.x = true := by kernel_rfl
theorem z8.sound (N : Nat) : SD 34 z8.x.sig (z8.fs N) := zM N (zD) hQs hmix z8.ok
theorem zq.ok : zw (EE [(245, (z8.x.sig, true))]) 14 zq.x = true := by kernel_rfl
theorem zq.sound (N : Nat) : SD 14 zq.x.sig (zq.fs N) := zM N (kC (n := 245) (by kernel_rfl) (z8.sound N) rfl (zD)) hQs hmix zq.ok
theorem laws_FnExactWaitUntil.ok : zw (EE [(489, (yz.x.sig, true)), (468, (y6.x.sig, true)), (470, (yM.x.sig, true)), (485, (yo.x.sig, true)), (486, (zq.x.sig, true)), (477, (yi.x.sig, false)), (478, (zd.x.sig, false)), (429, (zAW.x.sig, true)), (441, (zAH.x.sig, true)), (446, (zAD.x.sig, true)), (488, (zAS.x.sig, false))]) 3 laws_FnExactWaitUntil.x = true := by kernel_rfl
theorem laws_FnExactWaitUntil.sound (N : Nat) : SD 3 laws_FnExactWaitUntil.x.sig (laws_FnExactWaitUntil.fs N) := zM N (kC (n := 489) (by kernel_rfl) (yz.sound N) rfl (kC (n := 468) (by kernel_rfl) (y6.sound N) rfl (kC (n := 470) (by kernel_rfl) (yM.sound N) rfl (kC (n := 485) (by kernel_rfl) (yo.sound N) rfl (kC (n := 486) (by kernel_rfl) (zq.sound N) rfl (kC (n := 477) (by kernel_rfl) (yi.sound N) rfl (kC (n := 478) (by kernel_rfl) (zd.sound N) rfl (kC (n := 429) (by kernel_rfl) (zAW.sound N) rfl (kC (n := 441) (by kernel_rfl) (zAH.sound N) rfl (kC (n := 446) (by kernel_rfl) (zAD.sound N) rfl (kC (n := 488) (by kernel_rfl) (zAS.sound N) rfl (zD)))))))))))) hQs hmix laws_FnExactWaitUntil.ok
end Go.Kb
