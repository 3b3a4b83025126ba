/- PlayEvents answers as the reference does, in memory of its own. -/
import Derived.Test.YticidpdbkjgebaaGreatExactPlayEventsP125toP126
namespace Go.Kb
set_option maxRecDepth 100000
theorem zCM.call {D E : List HRow} {hs gs : List Hnd} {A : List SH} {d : Dcd} {V : List Snt} (h : zCM (hhide D).length E hs gs A d V) (p : hhide D <+: E) : zCM D.length (yw D E) hs gs A d V := by
 obtain ⟨a, m, b, A1, A2, V1, V2, l1, l2, l3, l4, o1, o2, eA, eV, s1, s2⟩ := h
 rw [hide_len] at l1 s1
 obtain ⟨_, q2, _⟩ := hide_more p
 refine ⟨a, m, b, A1, A2, V1, V2, l1, l2, l3, by omega, o1.shown p l1, o2.shown p (by omega), eA, eV, s1.shown p (nR _), ?_⟩
 rw [q2]
 exact s2.shown p (by omega)
theorem QO.call {D : List HRow} {V : Dcd × List Snt × Bool} {r : Option ((HDcd × List SH × Bool) × List HRow)} (h : QO (hhide D) V r) :
  ∃ hs gs A E, r = some (((((V.1.1.1.1, hs), (gs, V.1.1.2.2)), V.1.2), (A, V.2.2)), E) /\ D <+: yw D E /\ zCM D.length (yw D E) hs gs A V.1 V.2.1 := by
 obtain ⟨hs, gs, A, E, e, p, o⟩ := h
 exact ⟨hs, gs, A, E, e, (hide_more p).1, o.call p⟩
theorem zCM.sents {lo : Nat} {D : List HRow} {hs gs : List Hnd} {A : List SH} {d : Dcd} {V : List Snt} (h : zCM lo D hs gs A d V) : OwnS D lo D.length A V := by
 obtain ⟨a, m, b, A1, A2, V1, V2, l1, l2, l3, l4, o1, o2, eA, eV, s1, s2⟩ := h
 rw [eA, eV]
 exact s1.append (s2.mono (by omega) (nR _)) l1 (by omega)
theorem zCM.acts {lo : Nat} {D : List HRow} {hs gs : List Hnd} {A : List SH} {d : Dcd} {V : List Snt} (h : zCM lo D hs gs A d V) : (List.all hs (Ty.unok D (.hnd tA)) && List.all gs (Ty.unok D (.hnd tS))) = true /\ (List.map (Ty.unden D (.hnd tA)) hs : List (List (Int × Int × Int × Int))) = d.1.1.2 /\ (List.map (Ty.unden D (.hnd tS)) gs : List (List (Int × Int × Int))) = d.1.2.1 := by
 obtain ⟨a, m, b, A1, A2, V1, V2, l1, l2, l3, l4, o1, o2, _⟩ := h
 exact ⟨by rw [o1.unok, o2.unok]; rfl, o1.unA, o2.unS⟩
theorem zCM.later {lo : Nat} {D D' : List HRow} {hs gs : List Hnd} {A : List SH} {d : Dcd} {V : List Snt} (h : zCM lo D hs gs A d V) (hf : Fr 0 lo D D') : zCM lo D' hs gs A d V := by
 obtain ⟨a, m, b, A1, A2, V1, V2, l1, l2, l3, l4, o1, o2, eA, eV, s1, s2⟩ := h
 refine ⟨a, m, b, A1, A2, V1, V2, l1, l2, l3, by rw [hf.1]; exact l4, o1.apart hf (Or.inr l1), o2.apart hf (Or.inr (by omega)), eA, eV, s1.apart hf (Or.inr (nR _)), ?_⟩
 rw [hf.1]
 exact s2.apart hf (Or.inr (by omega))
theorem ply_small (d : Dcd) (l : List Ev) (en : Int) : smallD (ply d l en).1 /\ (ply d l en).2.1.length <= 1088 /\ ∀ s ∈ (ply d l en).2.1, s.2.2.length <= 56 := by
 by_cases hp : plyB d l en = true
 ·have hP := (plyB_iff d l en).1 hp
  have u := hP.upTo
  rw [ply_ok hP]
  exact ⟨u.sm, u.len, u.rep⟩
 ·have hp : plyB d l en = false := by rw [Bool.eq_false_iff]; exact hp
  unfold ply
  rw [hp]
  refine ⟨⟨⟨⟨?_, ?_⟩, ⟨?_, ?_⟩, ?_⟩, ?_⟩, ?_, ?_⟩ <;> simp [zeroD, zeroE]
theorem bneSB (b : Bool) : (b != b) = false := by cases b <;> rfl
theorem FnExactPlayEvents_true (d : Dcd) (l : List Ev) (en : Int) (h : wellD d) (hl : l.length <= maxLen) : laws_FnExactPlayEvents.F 4000000 (d, (l, en)) = some true := by
 generalize hNN : (4000000 : Nat) = N
 have hN : 3999999 < N := by omega
 rw [laws_FnExactPlayEvents.F_eq]
 obtain ⟨r, e, e1, e2, e3⟩ := szD N (by omega) d h
 rw [e, bindV]
 by_cases c1 : r < 0
 ·rw [dT c1, condT]
 obtain ⟨r2, f, f1, f2, f3⟩ := szEventS_eq N l r hl (by omega) e2
 rw [dF c1, condF, f, bindV]
 by_cases c2 : r2 < 0
 ·rw [dT c2, condT]
 rw [dF c2, condF]
 obtain ⟨hE, hq⟩ := e3 (by omega)
 have hl2 := f3 (by omega)
 have tD := toD N (by omega) d hE hq
 have tL := toEventS_eq N l (by omega) (by unfold maxN; omega)
 have eL := eqEventS_eq N l l (by omega) (by unfold maxN; omega)
 rw [dT rfl] at eL
 have sp := play_spec N (by omega) d ⟨hE, hq⟩ l hl2 en
 have ph := playh_eq N (by omega) d ⟨hE, hq⟩ l hl2 en
 obtain ⟨⟨vE, vq⟩, vl, vr⟩ := ply_small d l en
 generalize ply d l en = V at sp ph vE vq vl vr
 have eD := eqD N (by omega) d hE hq
 have eV := eqD N (by omega) V.1 vE vq
 have eS := eqSents N (by omega) V.2.1 (by omega) (fun s hs => by have := vr s hs; omega)
 obtain ⟨hs, gs, E1, t1, o1⟩ := toDh N (by omega) d hE hq (hhide [])
 obtain ⟨p1, m, m1, m2, oh, og⟩ := o1.call
 rw [tD, bindV, tL, bindV, sp, bindV, t1, bindV, bindV]
 dsimp only
 generalize yw [] E1 = D1 at p1 m2 oh og
 rw [oh.unok, og.unok, Bool.and_self, condT, oh.unA, og.unS]
 simp only [pEta]
 obtain ⟨hs2, gs2, A, E2, t2, p2, po⟩ := (ph (hhide D1)).call
 rw [t2, bindV]
 dsimp only
 generalize yw D1 E2 = D2 at p2 po
 obtain ⟨u1, u2, u3⟩ := po.acts
 rw [u1, condT, u2, u3]
 simp only [pEta]
 rw [eV, bindV, notT, condF, po.sents.unok, condT, po.sents.un, eS, bindV, notT, condF, bneSB, condF, bindV]
 have oh2 := oh.more p2
 have og2 := og.more p2
 rw [oh2.unok, og2.unok, Bool.and_self, condT, oh2.unA, og2.unS]
 simp only [pEta]
 rw [eD, bindV, notT, condF, bindV, eL, bindV, notT, condF]
 -- the arguments are marked
 obtain ⟨k1, hl1, q1, vs1, ws1, D3, a1, a2, a3, a4, _⟩ := markD N (by omega) d hE hq m1 m2 oh2 og2
 obtain ⟨k2, l2', b1, b2, b3, _⟩ := marksE_eq N l k1 (by omega) (by unfold maxN; omega) a2 (by omega)
 rw [a1, bindV]
 dsimp only
 rw [b1, bindV]
 dsimp only
 rw [dF (show ¬ k2 < 0 by omega), condF]
 have po3 := po.later a4
 obtain ⟨u4, u5, u6⟩ := po3.acts
 rw [u4, condT, u5, u6]
 simp only [pEta]
 rw [eV, bindV, notT, condF, po3.sents.unok, condT, po3.sents.un, eS, bindV, notT, condF, condF]
 -- the results are marked
 obtain ⟨a, mm, b, A1, A2, V1, V2, n1, n2, n3, n4, x1, x2, eA, eVV, s1, s2⟩ := po3
 obtain ⟨k3, hl3, q3, vs3, ws3, D4, c3, c4, c5, c6, c7, c8, c9⟩ := markD N (by omega) V.1 vE vq n2 n3 x1 x2
 have s3 := s1.apart c6 (Or.inl (nR _))
 have s4 := s2.apart c6 (Or.inr (nR _))
 obtain ⟨k4, B1, B2, W1, W2, D5, g1, g2, g3, g4, g5, g6⟩ := markS N (by omega) (show a <= b by omega) k3 (by rw [<- eVV]; exact fun s hs => by have := vr s hs; omega) (by rw [<- eVV]; omega) c4 c5 s3 s4
 rw [c3, bindV]
 dsimp only
 rw [eA, g1, bindV]
 dsimp only
 have x3 : Own (u := tA) 8 D5 a mm hs2 vs3 := c7.same fun k h1 h2 => g2.2 k (by omega) (by omega)
 have x4 : Own (u := tS) 10 D5 mm b gs2 ws3 := c8.same fun k h1 h2 => g2.2 k (by omega) (by omega)
 have d5 : D5.length = D3.length := g2.1.trans c6.1
 have s5 := g3.append (g4.mono (show a <= b by omega) (nR _)) n1 (by omega)
 rw [x3.unok, x4.unok, Bool.and_self, condT, x3.unA, x4.unS, c9, bindV, dF (show ¬ k3 < 0 by omega), condF, s5.unok, condT, s5.un, g6, bindV, dF (show ¬ k4 < 0 by omega), condF, bneSelf, condF, bindV, bindV]
 -- once more
 obtain ⟨hs6, gs6, A6, E6, t6, p6, po6⟩ := (ph (hhide D5)).call
 rw [t6, bindV]
 dsimp only
 generalize yw D5 E6 = D6 at p6 po6
 obtain ⟨u7, u8, u9⟩ := po6.acts
 rw [u7, condT, u8, u9]
 simp only [pEta]
 rw [eV, bindV, notT, condF, po6.sents.unok, condT, po6.sents.un, eS, bindV, notT, condF, bneSB, condF]
 have x5 := x3.more p6
 have x6 := x4.more p6
 have s6 := s5.more p6
 rw [x5.unok, x6.unok, Bool.and_self, condT, x5.unA, x6.unS, c9, bindV, dF (show ¬ k3 < 0 by omega), condF, s6.unok, condT, s6.un, g6, bindV, dF (show ¬ k4 < 0 by omega), condF, bneSelf, condF]
end Go.Kb
