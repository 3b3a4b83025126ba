/- Each function of the law does what its abstract text does, over the program. -/
import Derived.Test.YticidpdbkjgebaaKc
import Derived.Test.YticidpdbkjgebaaPlainP0toP75
import Derived.Test.YticidpdbkjgebaaPlainF4toP31
import Derived.Test.YticidpdbkjgebaaPlainP94toF8
import Derived.Test.YticidpdbkjgebaaPlainF30
import Derived.Test.YticidpdbkjgebaaPlainF31toP108
import Derived.Test.YticidpdbkjgebaaPlainF32
import Derived.Test.YticidpdbkjgebaaRows
import Derived.Test.YticidpdbkjgebaaShelf
import Derived.Test.YticidpdbkjgebaaKd
import Derived.KernelRfl
namespace Go.Kb
def TM : List (Nat × Nat) := [(2, 3), (1, 5), (16, 9), (8, 29), (9, 31), (11, 38), (4, 50), (6, 58), (12, 60), (13, 62), (15, 100), (10, 102), (14, 125)]
def FM : List (Nat × Nat) := [(31, 4), (236, 43), (237, 18), (32, 50), (33, 28), (102, 48), (149, 62), (421, 41), (46, 42), (151, 17), (152, 5), (153, 63), (154, 64), (155, 65), (156, 44), (157, 19), (158, 6), (159, 23), (160, 8), (161, 20), (162, 21), (163, 45), (65, 66), (164, 46), (165, 67), (166, 47), (167, 22), (168, 7), (169, 26), (170, 10), (171, 24), (172, 49), (173, 32), (68, 68), (69, 51), (70, 31), (71, 29), (174, 25), (175, 9), (176, 27), (177, 11), (178, 30), (179, 35), (114, 73), (201, 74), (202, 75), (203, 70), (204, 56), (205, 61), (206, 38), (207, 55), (208, 36), (209, 52), (210, 57), (211, 69), (212, 53), (213, 54), (214, 58), (215, 71), (216, 59), (217, 72), (218, 60), (219, 37), (220, 33), (221, 34), (222, 12), (223, 13), (224, 14), (225, 15), (226, 39), (227, 40), (228, 16), (229, 3)]
def GB : Nat -> Prop := fun _ => False
def QW : World -> Prop := fun _ => True
theorem hQs : ∀ w w' : World, (∀ b, GB b -> w'.heap[b]? = w.heap[b]?) -> QW w -> QW w' := fun _ _ _ _ => trivial
theorem ext_sort_Ints.sound (N : Nat) : Sound Go.Proofs.Try.prog (natTbl TM) GB QW 74 ext_sort_Ints.sig (ext_sort_Ints.fs N) := sort_sound (fun blk off cap zs w h1 h2 h3 => Go.Proofs.Try.sort_Ints blk off cap zs w h1 h2 h3) (fun p cap w => Go.Proofs.Try.sort_Ints_none p cap w) N
theorem hmix : Go.Proofs.Try.prog.follows .mixedOrders = true := by kernel_rfl
noncomputable abbrev EE (l : List (Nat × (Sig × Bool))) : Env1 := mkE Go.Proofs.Try.prog GB QW TM FM l
abbrev SD (i : FuncId) (g : Sig) (f : FS) : Prop := Sound Go.Proofs.Try.prog (natTbl TM) GB QW i g f
theorem kC {n : Nat} {g : Sig} {fr : Bool} {f : FS} {l : List (Nat × (Sig × Bool))} {r : List (Nat × FS)} {fid : FuncId} (hid : natTbl FM n = fid) (hs : SD fid g f) (hf : (f.fresh && !f.keep) = fr) (hk : Known (EE l) (tbl r noFS)) : Known (EE ((n, (g, fr)) :: l)) (tbl ((n, f) :: r) noFS) := known_cons (fm := FM) hid hs hf hk
theorem zA0.ok : yw (EE []) 4 zA0.x = true := by kernel_rfl
theorem zA0.sound (N : Nat) : SD 4 zA0.x.sig (zA0.fs N) := z7 N (zi) hQs hmix zA0.ok
theorem yQ.ok : yw (EE []) 43 yQ.x = true := by kernel_rfl
theorem yQ.sound (N : Nat) : SD 43 yQ.x.sig (yQ.fs N) := z7 N (zi) hQs hmix yQ.ok
theorem yT.ok : yw (EE [(236, (yQ.x.sig, false))]) 18 yT.x = true := by kernel_rfl
theorem yT.sound (N : Nat) : SD 18 yT.x.sig (yT.fs N) := z7 N (kC (n := 236) (by kernel_rfl) (yQ.sound N) rfl (zi)) hQs hmix yT.ok
theorem y4.ok : yw (EE []) 50 y4.x = true := by kernel_rfl
theorem y4.sound (N : Nat) : SD 50 y4.x.sig (y4.fs N) := z7 N (zi) hQs hmix y4.ok
theorem zG.ok : yw (EE [(32, (y4.x.sig, false))]) 28 zG.x = true := by kernel_rfl
theorem zG.sound (N : Nat) : SD 28 zG.x.sig (zG.fs N) := z7 N (kC (n := 32) (by kernel_rfl) (y4.sound N) rfl (zi)) hQs hmix zG.ok
theorem yr.ok : yw (EE [(33, (zG.x.sig, false))]) 48 yr.x = true := by kernel_rfl
theorem yr.sound (N : Nat) : SD 48 yr.x.sig (yr.fs N) := z7 N (kC (n := 33) (by kernel_rfl) (zG.sound N) rfl (zi)) hQs hmix yr.ok
theorem zAG.ok : yw (EE [(33, (zG.x.sig, false)), (102, (yr.x.sig, false))]) 62 zAG.x = true := by kernel_rfl
theorem zAG.sound (N : Nat) : SD 62 zAG.x.sig (zAG.fs N) := z7 N (kC (n := 33) (by kernel_rfl) (zG.sound N) rfl (kC (n := 102) (by kernel_rfl) (yr.sound N) rfl (zi))) hQs hmix zAG.ok
theorem zH.ok : yw (EE [(33, (zG.x.sig, false)), (102, (yr.x.sig, false)), (149, (zAG.x.sig, false))]) 41 zH.x = true := by kernel_rfl
theorem zH.sound (N : Nat) : SD 41 zH.x.sig (zH.fs N) := sound_ofH N (kC (n := 33) (by kernel_rfl) (zG.sound N) rfl (kC (n := 102) (by kernel_rfl) (yr.sound N) rfl (kC (n := 149) (by kernel_rfl) (zAG.sound N) rfl (zi)))) hQs hmix zH.ok
theorem zq.ok : yw (EE [(33, (zG.x.sig, false))]) 42 zq.x = true := by kernel_rfl
theorem zq.sound (N : Nat) : SD 42 zq.x.sig (zq.fs N) := z7 N (kC (n := 33) (by kernel_rfl) (zG.sound N) rfl (zi)) hQs hmix zq.ok
theorem zp.ok : yw (EE [(33, (zG.x.sig, false)), (46, (zq.x.sig, false)), (421, (zH.x.sig, false))]) 17 zp.x = true := by kernel_rfl
theorem zp.sound (N : Nat) : SD 17 zp.x.sig (zp.fs N) := sound_ofH N (kC (n := 33) (by kernel_rfl) (zG.sound N) rfl (kC (n := 46) (by kernel_rfl) (zq.sound N) rfl (kC (n := 421) (by kernel_rfl) (zH.sound N) rfl (zi)))) hQs hmix zp.ok
theorem yS.ok : yw (EE [(151, (zp.x.sig, false)), (237, (yT.x.sig, false))]) 5 yS.x = true := by kernel_rfl
theorem yS.sound (N : Nat) : SD 5 yS.x.sig (yS.fs N) := sound_ofH N (kC (n := 151) (by kernel_rfl) (zp.sound N) rfl (kC (n := 237) (by kernel_rfl) (yT.sound N) rfl (zi))) hQs hmix yS.ok
theorem yR.ok : yw (EE []) 63 yR.x = true := by kernel_rfl
theorem yR.sound (N : Nat) : SD 63 yR.x.sig (yR.fs N) := z7 N (zi) hQs hmix yR.ok
theorem yG.ok : yw (EE []) 64 yG.x = true := by kernel_rfl
theorem yG.sound (N : Nat) : SD 64 yG.x.sig (yG.fs N) := z7 N (zi) hQs hmix yG.ok
theorem yK.ok : yw (EE []) 65 yK.x = true := by kernel_rfl
theorem yK.sound (N : Nat) : SD 65 yK.x.sig (yK.fs N) := z7 N (zi) hQs hmix yK.ok
theorem z8.ok : yw (EE [(153, (yR.x.sig, true)), (154, (yG.x.sig, true)), (155, (yK.x.sig, true))]) 44 z8.x = true := by kernel_rfl
theorem z8.sound (N : Nat) : SD 44 z8.x.sig (z8.fs N) := z7 N (kC (n := 153) (by kernel_rfl) (yR.sound N) rfl (kC (n := 154) (by kernel_rfl) (yG.sound N) rfl (kC (n := 155) (by kernel_rfl) (yK.sound N) rfl (zi)))) hQs hmix z8.ok
theorem yA.ok : yw (EE [(156, (z8.x.sig, true))]) 19 yA.x = true := by kernel_rfl
theorem yA.sound (N : Nat) : SD 19 yA.x.sig (yA.fs N) := z7 N (kC (n := 156) (by kernel_rfl) (z8.sound N) rfl (zi)) hQs hmix yA.ok
theorem zAF.ok : yw (EE [(157, (yA.x.sig, true))]) 6 zAF.x = true := by kernel_rfl
theorem zAF.sound (N : Nat) : SD 6 zAF.x.sig (zAF.fs N) := z7 N (kC (n := 157) (by kernel_rfl) (yA.sound N) rfl (zi)) hQs hmix zAF.ok
theorem z1.ok : yw (EE [(33, (zG.x.sig, false)), (102, (yr.x.sig, false)), (46, (zq.x.sig, false))]) 23 z1.x = true := by kernel_rfl
theorem z1.sound (N : Nat) : SD 23 z1.x.sig (z1.fs N) := z7 N (kC (n := 33) (by kernel_rfl) (zG.sound N) rfl (kC (n := 102) (by kernel_rfl) (yr.sound N) rfl (kC (n := 46) (by kernel_rfl) (zq.sound N) rfl (zi)))) hQs hmix z1.ok
theorem ym.ok : yw (EE [(237, (yT.x.sig, false)), (159, (z1.x.sig, false))]) 8 ym.x = true := by kernel_rfl
theorem ym.sound (N : Nat) : SD 8 ym.x.sig (ym.fs N) := z7 N (kC (n := 237) (by kernel_rfl) (yT.sound N) rfl (kC (n := 159) (by kernel_rfl) (z1.sound N) rfl (zi))) hQs hmix ym.ok
theorem zP.ok : yw (EE []) 20 zP.x = true := by kernel_rfl
theorem zP.sound (N : Nat) : SD 20 zP.x.sig (zP.fs N) := z7 N (zi) hQs hmix zP.ok
theorem zN.ok : yw (EE []) 21 zN.x = true := by kernel_rfl
theorem zN.sound (N : Nat) : SD 21 zN.x.sig (zN.fs N) := z7 N (zi) hQs hmix zN.ok
theorem zE.ok : yw (EE [(156, (z8.x.sig, true))]) 45 zE.x = true := by kernel_rfl
theorem zE.sound (N : Nat) : SD 45 zE.x.sig (zE.fs N) := z7 N (kC (n := 156) (by kernel_rfl) (z8.sound N) rfl (zi)) hQs hmix zE.ok
theorem zAD.ok : yw (EE []) 66 zAD.x = true := by kernel_rfl
theorem zAD.sound (N : Nat) : SD 66 zAD.x.sig (zAD.fs N) := z7 N (zi) hQs hmix zAD.ok
theorem zZ.ok : yw (EE [(156, (z8.x.sig, true)), (65, (zAD.x.sig, true))]) 46 zZ.x = true := by kernel_rfl
theorem zZ.sound (N : Nat) : SD 46 zZ.x.sig (zZ.fs N) := z7 N (kC (n := 156) (by kernel_rfl) (z8.sound N) rfl (kC (n := 65) (by kernel_rfl) (zAD.sound N) rfl (zi))) hQs hmix zZ.ok
theorem zx.ok : yw (EE []) 67 zx.x = true := by kernel_rfl
theorem zx.sound (N : Nat) : SD 67 zx.x.sig (zx.fs N) := z7 N (zi) hQs hmix zx.ok
theorem zY.ok : yw (EE [(156, (z8.x.sig, true)), (165, (zx.x.sig, true))]) 47 zY.x = true := by kernel_rfl
theorem zY.sound (N : Nat) : SD 47 zY.x.sig (zY.fs N) := z7 N (kC (n := 156) (by kernel_rfl) (z8.sound N) rfl (kC (n := 165) (by kernel_rfl) (zx.sound N) rfl (zi))) hQs hmix zY.ok
theorem zF.ok : yw (EE [(164, (zZ.x.sig, true)), (163, (zE.x.sig, true)), (166, (zY.x.sig, true))]) 22 zF.x = true := by kernel_rfl
theorem zF.sound (N : Nat) : SD 22 zF.x.sig (zF.fs N) := z7 N (kC (n := 164) (by kernel_rfl) (zZ.sound N) rfl (kC (n := 163) (by kernel_rfl) (zE.sound N) rfl (kC (n := 166) (by kernel_rfl) (zY.sound N) rfl (zi)))) hQs hmix zF.ok
theorem yo.ok : yw (EE [(167, (zF.x.sig, true)), (161, (zP.x.sig, true)), (162, (zN.x.sig, true))]) 7 yo.x = true := by kernel_rfl
theorem yo.sound (N : Nat) : SD 7 yo.x.sig (yo.fs N) := z7 N (kC (n := 167) (by kernel_rfl) (zF.sound N) rfl (kC (n := 161) (by kernel_rfl) (zP.sound N) rfl (kC (n := 162) (by kernel_rfl) (zN.sound N) rfl (zi)))) hQs hmix yo.ok
theorem yl.ok : yw (EE [(33, (zG.x.sig, false)), (46, (zq.x.sig, false))]) 26 yl.x = true := by kernel_rfl
theorem yl.sound (N : Nat) : SD 26 yl.x.sig (yl.fs N) := z7 N (kC (n := 33) (by kernel_rfl) (zG.sound N) rfl (kC (n := 46) (by kernel_rfl) (zq.sound N) rfl (zi))) hQs hmix yl.ok
theorem yW.ok : yw (EE [(169, (yl.x.sig, false)), (237, (yT.x.sig, false))]) 10 yW.x = true := by kernel_rfl
theorem yW.sound (N : Nat) : SD 10 yW.x.sig (yW.fs N) := z7 N (kC (n := 169) (by kernel_rfl) (yl.sound N) rfl (kC (n := 237) (by kernel_rfl) (yT.sound N) rfl (zi))) hQs hmix yW.ok
theorem zk.ok : yw (EE [(161, (zP.x.sig, true)), (162, (zN.x.sig, true))]) 24 zk.x = true := by kernel_rfl
theorem zk.sound (N : Nat) : SD 24 zk.x.sig (zk.fs N) := z7 N (kC (n := 161) (by kernel_rfl) (zP.sound N) rfl (kC (n := 162) (by kernel_rfl) (zN.sound N) rfl (zi))) hQs hmix zk.ok
theorem yh.ok : yw (EE []) 49 yh.x = true := by kernel_rfl
theorem yh.sound (N : Nat) : SD 49 yh.x.sig (yh.fs N) := z7 N (zi) hQs hmix yh.ok
theorem zX.ok : yw (EE []) 32 zX.x = true := by kernel_rfl
theorem zX.sound (N : Nat) : SD 32 zX.x.sig (zX.fs N) := z7 N (zi) hQs hmix zX.ok
theorem yk.ok : yw (EE []) 68 yk.x = true := by kernel_rfl
theorem yk.sound (N : Nat) : SD 68 yk.x.sig (yk.fs N) := z7 N (zi) hQs hmix yk.ok
theorem zy.ok : yw (EE [(68, (yk.x.sig, true)), (65, (zAD.x.sig, true))]) 51 zy.x = true := by kernel_rfl
theorem zy.sound (N : Nat) : SD 51 zy.x.sig (zy.fs N) := z7 N (kC (n := 68) (by kernel_rfl) (yk.sound N) rfl (kC (n := 65) (by kernel_rfl) (zAD.sound N) rfl (zi))) hQs hmix zy.ok
theorem zS.ok : yw (EE [(69, (zy.x.sig, true))]) 31 zS.x = true := by kernel_rfl
theorem zS.sound (N : Nat) : SD 31 zS.x.sig (zS.fs N) := z7 N (kC (n := 69) (by kernel_rfl) (zy.sound N) rfl (zi)) hQs hmix zS.ok
theorem yH.ok : yw (EE []) 29 yH.x = true := by kernel_rfl
theorem yH.sound (N : Nat) : SD 29 yH.x.sig (yH.fs N) := z7 N (zi) hQs hmix yH.ok
theorem yJ.ok : yw (EE [(167, (zF.x.sig, true)), (172, (yh.x.sig, true)), (173, (zX.x.sig, true)), (71, (yH.x.sig, true)), (70, (zS.x.sig, true))]) 25 yJ.x = true := by kernel_rfl
theorem yJ.sound (N : Nat) : SD 25 yJ.x.sig (yJ.fs N) := z7 N (kC (n := 167) (by kernel_rfl) (zF.sound N) rfl (kC (n := 172) (by kernel_rfl) (yh.sound N) rfl (kC (n := 173) (by kernel_rfl) (zX.sound N) rfl (kC (n := 71) (by kernel_rfl) (yH.sound N) rfl (kC (n := 70) (by kernel_rfl) (zS.sound N) rfl (zi)))))) hQs hmix yJ.ok
theorem ya.ok : yw (EE [(174, (yJ.x.sig, true)), (171, (zk.x.sig, true))]) 9 ya.x = true := by kernel_rfl
theorem ya.sound (N : Nat) : SD 9 ya.x.sig (ya.fs N) := z7 N (kC (n := 174) (by kernel_rfl) (yJ.sound N) rfl (kC (n := 171) (by kernel_rfl) (zk.sound N) rfl (zi))) hQs hmix ya.ok
theorem z3.ok : yw (EE [(33, (zG.x.sig, false)), (46, (zq.x.sig, false))]) 27 z3.x = true := by kernel_rfl
theorem z3.sound (N : Nat) : SD 27 z3.x.sig (z3.fs N) := z7 N (kC (n := 33) (by kernel_rfl) (zG.sound N) rfl (kC (n := 46) (by kernel_rfl) (zq.sound N) rfl (zi))) hQs hmix z3.ok
theorem yX.ok : yw (EE [(33, (zG.x.sig, false)), (237, (yT.x.sig, false)), (176, (z3.x.sig, false))]) 11 yX.x = true := by kernel_rfl
theorem yX.sound (N : Nat) : SD 11 yX.x.sig (yX.fs N) := z7 N (kC (n := 33) (by kernel_rfl) (zG.sound N) rfl (kC (n := 237) (by kernel_rfl) (yT.sound N) rfl (kC (n := 176) (by kernel_rfl) (z3.sound N) rfl (zi)))) hQs hmix yX.ok
theorem yE.ok : yw (EE [(171, (zk.x.sig, true))]) 30 yE.x = true := by kernel_rfl
theorem yE.sound (N : Nat) : SD 30 yE.x.sig (yE.fs N) := z7 N (kC (n := 171) (by kernel_rfl) (zk.sound N) rfl (zi)) hQs hmix yE.ok
theorem zm.ok : yw (EE []) 35 zm.x = true := by kernel_rfl
theorem zm.sound (N : Nat) : SD 35 zm.x.sig (zm.fs N) := z7 N (zi) hQs hmix zm.ok
theorem ye.ok : yw (EE []) 73 ye.x = true := by kernel_rfl
theorem ye.sound (N : Nat) : SD 73 ye.x.sig (ye.fs N) := z7 N (zi) hQs hmix ye.ok
theorem z5.ok : yw (EE []) 75 z5.x = true := by kernel_rfl
theorem z5.sound (N : Nat) : SD 75 z5.x.sig (z5.fs N) := z7 N (zi) hQs hmix z5.ok
theorem za.ok : yw (EE [(201, (ext_sort_Ints.sig, true)), (114, (ye.x.sig, true)), (202, (z5.x.sig, true))]) 70 za.x = true := by kernel_rfl
theorem za.sound (N : Nat) : SD 70 za.x.sig (za.fs N) := z7 N (kC (n := 201) (by kernel_rfl) (ext_sort_Ints.sound N) rfl (kC (n := 114) (by kernel_rfl) (ye.sound N) rfl (kC (n := 202) (by kernel_rfl) (z5.sound N) rfl (zi)))) hQs hmix za.ok
theorem zI.ok : yw (EE [(164, (zZ.x.sig, true)), (203, (za.x.sig, true))]) 56 zI.x = true := by kernel_rfl
theorem zI.sound (N : Nat) : SD 56 zI.x.sig (zI.fs N) := z7 N (kC (n := 164) (by kernel_rfl) (zZ.sound N) rfl (kC (n := 203) (by kernel_rfl) (za.sound N) rfl (zi))) hQs hmix zI.ok
theorem zg.ok : yw (EE []) 61 zg.x = true := by kernel_rfl
theorem zg.sound (N : Nat) : SD 61 zg.x.sig (zg.fs N) := z7 N (zi) hQs hmix zg.ok
theorem yF.ok : yw (EE [(205, (zg.x.sig, true))]) 38 yF.x = true := by kernel_rfl
theorem yF.sound (N : Nat) : SD 38 yF.x.sig (yF.fs N) := z7 N (kC (n := 205) (by kernel_rfl) (zg.sound N) rfl (zi)) hQs hmix yF.ok
theorem zC.ok : yw (EE [(206, (yF.x.sig, true))]) 55 zC.x = true := by kernel_rfl
theorem zC.sound (N : Nat) : SD 55 zC.x.sig (zC.fs N) := z7 N (kC (n := 206) (by kernel_rfl) (yF.sound N) rfl (zi)) hQs hmix zC.ok
theorem yp.ok : yw (EE [(179, (zm.x.sig, true)), (204, (zI.x.sig, true)), (207, (zC.x.sig, false)), (171, (zk.x.sig, true))]) 36 yp.x = true := by kernel_rfl
theorem yp.sound (N : Nat) : SD 36 yp.x.sig (yp.fs N) := z7 N (kC (n := 179) (by kernel_rfl) (zm.sound N) rfl (kC (n := 204) (by kernel_rfl) (zI.sound N) rfl (kC (n := 207) (by kernel_rfl) (zC.sound N) rfl (kC (n := 171) (by kernel_rfl) (zk.sound N) rfl (zi))))) hQs hmix yp.ok
theorem zU.ok : yw (EE [(164, (zZ.x.sig, true))]) 52 zU.x = true := by kernel_rfl
theorem zU.sound (N : Nat) : SD 52 zU.x.sig (zU.fs N) := z7 N (kC (n := 164) (by kernel_rfl) (zZ.sound N) rfl (zi)) hQs hmix zU.ok
theorem zd.ok : yw (EE [(65, (zAD.x.sig, true))]) 57 zd.x = true := by kernel_rfl
theorem zd.sound (N : Nat) : SD 57 zd.x.sig (zd.fs N) := z7 N (kC (n := 65) (by kernel_rfl) (zAD.sound N) rfl (zi)) hQs hmix zd.ok
theorem zAE.ok : yw (EE [(163, (zE.x.sig, true)), (210, (zd.x.sig, true))]) 69 zAE.x = true := by kernel_rfl
theorem zAE.sound (N : Nat) : SD 69 zAE.x.sig (zAE.fs N) := z7 N (kC (n := 163) (by kernel_rfl) (zE.sound N) rfl (kC (n := 210) (by kernel_rfl) (zd.sound N) rfl (zi))) hQs hmix zAE.ok
theorem yz.ok : yw (EE [(211, (zAE.x.sig, true))]) 53 yz.x = true := by kernel_rfl
theorem yz.sound (N : Nat) : SD 53 yz.x.sig (yz.fs N) := z7 N (kC (n := 211) (by kernel_rfl) (zAE.sound N) rfl (zi)) hQs hmix yz.ok
theorem zV.ok : yw (EE [(68, (yk.x.sig, true)), (172, (yh.x.sig, true)), (65, (zAD.x.sig, true))]) 54 zV.x = true := by kernel_rfl
theorem zV.sound (N : Nat) : SD 54 zV.x.sig (zV.fs N) := z7 N (kC (n := 68) (by kernel_rfl) (yk.sound N) rfl (kC (n := 172) (by kernel_rfl) (yh.sound N) rfl (kC (n := 65) (by kernel_rfl) (zAD.sound N) rfl (zi)))) hQs hmix zV.ok
theorem zAI.ok : yw (EE [(157, (yA.x.sig, true))]) 58 zAI.x = true := by kernel_rfl
theorem zAI.sound (N : Nat) : SD 58 zAI.x.sig (zAI.fs N) := z7 N (kC (n := 157) (by kernel_rfl) (yA.sound N) rfl (zi)) hQs hmix zAI.ok
theorem yd.ok : yw (EE []) 71 yd.x = true := by kernel_rfl
theorem yd.sound (N : Nat) : SD 71 yd.x.sig (yd.fs N) := z7 N (zi) hQs hmix yd.ok
theorem zAH.ok : yw (EE [(215, (yd.x.sig, true))]) 59 zAH.x = true := by kernel_rfl
theorem zAH.sound (N : Nat) : SD 59 zAH.x.sig (zAH.fs N) := z7 N (kC (n := 215) (by kernel_rfl) (yd.sound N) rfl (zi)) hQs hmix zAH.ok
theorem zR.ok : yw (EE [(203, (za.x.sig, true)), (114, (ye.x.sig, true))]) 72 zR.x = true := by kernel_rfl
theorem zR.sound (N : Nat) : SD 72 zR.x.sig (zR.fs N) := z7 N (kC (n := 203) (by kernel_rfl) (za.sound N) rfl (kC (n := 114) (by kernel_rfl) (ye.sound N) rfl (zi))) hQs hmix zR.ok
theorem zJ.ok : yw (EE [(164, (zZ.x.sig, true)), (166, (zY.x.sig, true)), (204, (zI.x.sig, true)), (165, (zx.x.sig, true)), (217, (zR.x.sig, true))]) 60 zJ.x = true := by kernel_rfl
theorem zJ.sound (N : Nat) : SD 60 zJ.x.sig (zJ.fs N) := z7 N (kC (n := 164) (by kernel_rfl) (zZ.sound N) rfl (kC (n := 166) (by kernel_rfl) (zY.sound N) rfl (kC (n := 204) (by kernel_rfl) (zI.sound N) rfl (kC (n := 165) (by kernel_rfl) (zx.sound N) rfl (kC (n := 217) (by kernel_rfl) (zR.sound N) rfl (zi)))))) hQs hmix zJ.ok
theorem yu.ok : yw (EE [(214, (zAI.x.sig, true)), (209, (zU.x.sig, true)), (218, (zJ.x.sig, true)), (204, (zI.x.sig, true)), (158, (zAF.x.sig, true)), (207, (zC.x.sig, false)), (171, (zk.x.sig, true)), (210, (zd.x.sig, true)), (216, (zAH.x.sig, false))]) 37 yu.x = true := by kernel_rfl
theorem yu.sound (N : Nat) : SD 37 yu.x.sig (yu.fs N) := z7 N (kC (n := 214) (by kernel_rfl) (zAI.sound N) rfl (kC (n := 209) (by kernel_rfl) (zU.sound N) rfl (kC (n := 218) (by kernel_rfl) (zJ.sound N) rfl (kC (n := 204) (by kernel_rfl) (zI.sound N) rfl (kC (n := 158) (by kernel_rfl) (zAF.sound N) rfl (kC (n := 207) (by kernel_rfl) (zC.sound N) rfl (kC (n := 171) (by kernel_rfl) (zk.sound N) rfl (kC (n := 210) (by kernel_rfl) (zd.sound N) rfl (kC (n := 216) (by kernel_rfl) (zAH.sound N) rfl (zi)))))))))) hQs hmix yu.ok
theorem zv.ok : yw (EE [(212, (yz.x.sig, true)), (213, (zV.x.sig, true)), (157, (yA.x.sig, true)), (209, (zU.x.sig, true)), (219, (yu.x.sig, false)), (208, (yp.x.sig, false))]) 33 zv.x = true := by kernel_rfl
theorem zv.sound (N : Nat) : SD 33 zv.x.sig (zv.fs N) := z7 N (kC (n := 212) (by kernel_rfl) (yz.sound N) rfl (kC (n := 213) (by kernel_rfl) (zV.sound N) rfl (kC (n := 157) (by kernel_rfl) (yA.sound N) rfl (kC (n := 209) (by kernel_rfl) (zU.sound N) rfl (kC (n := 219) (by kernel_rfl) (yu.sound N) rfl (kC (n := 208) (by kernel_rfl) (yp.sound N) rfl (zi))))))) hQs hmix zv.ok
theorem yi.ok : yw (EE []) 34 yi.x = true := by kernel_rfl
theorem yi.sound (N : Nat) : SD 34 yi.x.sig (yi.fs N) := z7 N (zi) hQs hmix yi.ok
theorem zQ.ok : yw (EE [(220, (zv.x.sig, false)), (174, (yJ.x.sig, true)), (178, (yE.x.sig, true)), (173, (zX.x.sig, true)), (71, (yH.x.sig, true)), (70, (zS.x.sig, true)), (221, (yi.x.sig, false))]) 12 zQ.x = true := by kernel_rfl
theorem zQ.sound (N : Nat) : SD 12 zQ.x.sig (zQ.fs N) := z7 N (kC (n := 220) (by kernel_rfl) (zv.sound N) rfl (kC (n := 174) (by kernel_rfl) (yJ.sound N) rfl (kC (n := 178) (by kernel_rfl) (yE.sound N) rfl (kC (n := 173) (by kernel_rfl) (zX.sound N) rfl (kC (n := 71) (by kernel_rfl) (yH.sound N) rfl (kC (n := 70) (by kernel_rfl) (zS.sound N) rfl (kC (n := 221) (by kernel_rfl) (yi.sound N) rfl (zi)))))))) hQs hmix zQ.ok
theorem y3.ok : yw (EE [(179, (zm.x.sig, true)), (167, (zF.x.sig, true)), (208, (yp.x.sig, false))]) 13 y3.x = true := by kernel_rfl
theorem y3.sound (N : Nat) : SD 13 y3.x.sig (y3.fs N) := z7 N (kC (n := 179) (by kernel_rfl) (zm.sound N) rfl (kC (n := 167) (by kernel_rfl) (zF.sound N) rfl (kC (n := 208) (by kernel_rfl) (yp.sound N) rfl (zi)))) hQs hmix y3.ok
theorem zAK.ok : yw (EE [(179, (zm.x.sig, true)), (167, (zF.x.sig, true)), (219, (yu.x.sig, false))]) 14 zAK.x = true := by kernel_rfl
theorem zAK.sound (N : Nat) : SD 14 zAK.x.sig (zAK.fs N) := z7 N (kC (n := 179) (by kernel_rfl) (zm.sound N) rfl (kC (n := 167) (by kernel_rfl) (zF.sound N) rfl (kC (n := 219) (by kernel_rfl) (yu.sound N) rfl (zi)))) hQs hmix zAK.ok
theorem zh.ok : yw (EE [(206, (yF.x.sig, true))]) 15 zh.x = true := by kernel_rfl
theorem zh.sound (N : Nat) : SD 15 zh.x.sig (zh.fs N) := z7 N (kC (n := 206) (by kernel_rfl) (yF.sound N) rfl (zi)) hQs hmix zh.ok
theorem zK.ok : yw (EE []) 39 zK.x = true := by kernel_rfl
theorem zK.sound (N : Nat) : SD 39 zK.x.sig (zK.fs N) := z7 N (zi) hQs hmix zK.ok
theorem zf.ok : yw (EE []) 40 zf.x = true := by kernel_rfl
theorem zf.sound (N : Nat) : SD 40 zf.x.sig (zf.fs N) := z7 N (zi) hQs hmix zf.ok
theorem yY.ok : yw (EE [(227, (zf.x.sig, true)), (226, (zK.x.sig, true))]) 16 yY.x = true := by kernel_rfl
theorem yY.sound (N : Nat) : SD 16 yY.x.sig (yY.fs N) := z7 N (kC (n := 227) (by kernel_rfl) (zf.sound N) rfl (kC (n := 226) (by kernel_rfl) (zK.sound N) rfl (zi))) hQs hmix yY.ok
theorem laws_FnPlain.ok : yw (EE [(175, (ya.x.sig, true)), (168, (yo.x.sig, true)), (222, (zQ.x.sig, false)), (224, (zAK.x.sig, false)), (223, (y3.x.sig, false)), (225, (zh.x.sig, true)), (158, (zAF.x.sig, true)), (31, (zA0.x.sig, true)), (228, (yY.x.sig, true)), (177, (yX.x.sig, false)), (152, (yS.x.sig, false)), (160, (ym.x.sig, false)), (170, (yW.x.sig, true))]) 3 laws_FnPlain.x = true := by kernel_rfl
theorem laws_FnPlain.sound (N : Nat) : SD 3 laws_FnPlain.x.sig (laws_FnPlain.fs N) := z7 N (kC (n := 175) (by kernel_rfl) (ya.sound N) rfl (kC (n := 168) (by kernel_rfl) (yo.sound N) rfl (kC (n := 222) (by kernel_rfl) (zQ.sound N) rfl (kC (n := 224) (by kernel_rfl) (zAK.sound N) rfl (kC (n := 223) (by kernel_rfl) (y3.sound N) rfl (kC (n := 225) (by kernel_rfl) (zh.sound N) rfl (kC (n := 158) (by kernel_rfl) (zAF.sound N) rfl (kC (n := 31) (by kernel_rfl) (zA0.sound N) rfl (kC (n := 228) (by kernel_rfl) (yY.sound N) rfl (kC (n := 177) (by kernel_rfl) (yX.sound N) rfl (kC (n := 152) (by kernel_rfl) (yS.sound N) rfl (kC (n := 160) (by kernel_rfl) (ym.sound N) rfl (kC (n := 170) (by kernel_rfl) (yW.sound N) rfl (zi)))))))))))))) hQs hmix laws_FnPlain.ok
end Go.Kb
