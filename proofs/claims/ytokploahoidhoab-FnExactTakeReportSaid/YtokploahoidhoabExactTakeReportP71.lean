/- Pipes: marking them; taking a report; the exact row of TakeReport. -/
import Derived.Test.YtokploahoidhoabExactTakeReportP70
namespace Go.Kb
set_option maxRecDepth 100000

theorem markPipe_eq (N : Nat) (hN : 1048576 < N) {a : RH} {A : List RH} {v : Pp} {lo hi : Nat} {D : List HRow} (o : OwnR D lo hi (a :: A) (v.1 :: v.2)) (h : smallP v) :
    ∃ k A' v' D', laws_markPipe.H N ((a, A), 1) D = some ((k, A'), D') ∧ 0 ≤ k ∧ k ≤ 1152921504606846976 ∧ Fr lo hi D D' ∧ OwnR D' lo hi (a :: A') (v'.1 :: v'.2) ∧ laws_heldPipe.F N (v', 1) = some k := by
  have hal := h.2.1
  have h1 : v.1.2.length ≤ 1048576 := h.1
  obtain ⟨o1, o2⟩ := o
  have od := o2
  rw [List.map_cons, List.map_cons] at o1 od
  obtain ⟨of1, of2⟩ := List.cons.inj o1
  obtain ⟨g1, g2⟩ := od.headGone
  obtain ⟨c1, r1, m1, m2, m3, m4, m5⟩ := marksI_eq N v.1.2 1 (by omega) (by unfold maxN; omega) (by omega) (by omega)
  obtain ⟨c', A', V', D', e1, e2, e3, e3b, e4, e5, e6, e7, e8⟩ := markRS_L1 N hN lo hi N 0 c1 A v.2 (hgone D a.2) h.2 (by omega) (by omega) (by omega) (by omega) ⟨of2, g1⟩
  obtain ⟨e3f, e3o⟩ := e3
  rw [e3b] at e3o
  obtain ⟨p1, p2⟩ := Own.headPut (u := .int .i64) (v' := r1) od e3o (by rw [e2.1, g2.1]) m5
  have full : hfull D 2 (.int .i64) a.2 = true := od.full (i := 0) (by simp)
  have cut : hcut D (.int .i64) a.2 = v.1.2 := od.cut (i := 0) (by simp)
  refine ⟨c', A', ((v.1.1, r1), V'), hput D' a.2 2 (.int .i64) r1, ?_, by omega, by omega, (g2.trans e2).trans p2, ⟨?_, ?_⟩, ?_⟩
  · rw [laws_markPipe.H_eq]
    dsimp only
    rw [full, condT, cut, laws_markReport.F_eq]
    dsimp only
    rw [m1, bindV]
    simp only [bindV]
    rw [laws_markReportS.H_eq, show (0 : Int) = ((0 : Nat) : Int) from rfl, e1, bindV]
  · rw [List.map_cons, List.map_cons, of1, e3f]
  · rw [List.map_cons, List.map_cons, e3b]; exact p1
  · rw [laws_heldPipe.F_eq, laws_heldReport.F_eq]
    dsimp only
    rw [m4, bindV, decide_eq_false (by omega), condF, bindV, decide_eq_false (by omega), condF, laws_heldReportS.F_eq, show laws_heldReportS.L1 N N V' c1 0 = _ from e8, bindV, decide_eq_false (by omega), condF]

theorem eqPipe_self (N : Nat) (hN : 1048576 < N) (p : Pp) (h : smallP p) : laws_eqPipe.F N (p, p) = some true := by
  rw [laws_eqPipe.F_eq, eqReport_eq N hN _ _ h.1, bindV, decide_eq_true rfl, notT, condF, eqReportS_eq N hN _ _ h.2, bindV, decide_eq_true rfl, notT, condF]

theorem PpOutB.no {β : Type} {D D' : List HRow} {b : β} (h : D <+: D') : PpOutB (some (((((0 : Int), (none : Hnd)), ([] : List RH)), b), D')) D (zeroP, b) := ⟨_, [], D', rfl, h, ownR_zero⟩

theorem TakeI (N : Nat) (hN : 1048576 < N) (p : Pp) (h : smallP p) (D : List HRow) : PpOutB (impl_TakeReporth.H N p D) D (takeB p) := by
  rw [impl_TakeReporth.H_eq, IsPipe_eq N hN p h.1 h.2, bindV]
  unfold takeB
  cases hk : ipB p
  · rw [notF, condT, condF]; exact PpOutB.no (List.prefix_refl _)
  rw [notT, condF, condT, beqI]
  obtain ⟨q, w⟩ := p
  cases w with
  | nil => rw [decide_eq_true (by rfl), condT]; exact PpOutB.no (List.prefix_refl _)
  | cons x w =>
    obtain ⟨a, A, E, e, pre, o⟩ := (copyPh_eq N hN (q, x :: w) h (hhide D)).call
    rw [decide_eq_false (by simp; omega), condF, e, bindV]
    dsimp only
    generalize hmerge D E = M at *
    have hl := o.len
    simp only [List.length_cons] at hl
    rw [inRange_of (by omega) (by omega), condT, decide_eq_true (by omega), decide_eq_true (show (1 : Int) ≤ (A.length : Int) by omega), Bool.and_self, condT]
    have ot := o.tail
    refine ⟨A.getD 0 (0, none), A.drop 1, M, rfl, pre, ?_⟩
    have hd : A.getD 0 (0, none) :: A.drop 1 = A := by
      cases A with
      | nil => simp at hl
      | cons y A => rfl
    rw [hd]
    exact ot
theorem takeB_small (p : Pp) (h : smallP p) : smallP (takeB p).1 := by
  have hz : smallP zeroP := ⟨by show 0 ≤ _; omega, by show 0 ≤ _; omega, fun x hx => by cases hx⟩
  unfold takeB
  cases ipB p
  · exact hz
  obtain ⟨q, w⟩ := p
  cases w with
  | nil => exact hz
  | cons x w => exact ⟨h.2.2 x (by simp), by have := h.2.1; simp only [List.length_cons] at this; show w.length ≤ _; omega, fun y hy => h.2.2 y (List.mem_cons_of_mem _ hy)⟩

theorem ExactTake (N : Nat) (hN : 1048576 < N) (p : Pp) (hp : smallP p) (V : Pp × Bool) (hV : smallP V.1)
    (T : List HRow → Option ((RH × List RH) × List HRow)) (S : Pp → Option (Pp × Bool)) (G : Pp → List HRow → Option (((RH × List RH) × Bool) × List HRow))
    (hT : ∀ D, PpOut (T D) D p) (hS : S p = some V) (hG : ∀ D, PpOutB (G p D) D V) :
    (bindO (T (hhide ([] : List HRow))) fun r2 =>
      bif (hok (hmerge ([] : List HRow) r2.2) (.int .i64) r2.1.1.2) && (List.all r2.1.2 (Ty.unok (hmerge ([] : List HRow) r2.2) (.pair (.int .i64) (.hnd (.int .i64))))) then
      bindO (S ((r2.1.1.1, hcut (hmerge ([] : List HRow) r2.2) (.int .i64) r2.1.1.2), List.map (Ty.unden (hmerge ([] : List HRow) r2.2) (.pair (.int .i64) (.hnd (.int .i64)))) r2.1.2)) fun r3 =>
      bindO (T (hhide (hmerge ([] : List HRow) r2.2))) fun r4 =>
      bif (hok (hmerge (hmerge ([] : List HRow) r2.2) r4.2) (.int .i64) r4.1.1.2) && (List.all r4.1.2 (Ty.unok (hmerge (hmerge ([] : List HRow) r2.2) r4.2) (.pair (.int .i64) (.hnd (.int .i64))))) then
      bindO (G ((r4.1.1.1, hcut (hmerge (hmerge ([] : List HRow) r2.2) r4.2) (.int .i64) r4.1.1.2), List.map (Ty.unden (hmerge (hmerge ([] : List HRow) r2.2) r4.2) (.pair (.int .i64) (.hnd (.int .i64)))) r4.1.2) (hhide (hmerge (hmerge ([] : List HRow) r2.2) r4.2))) fun r5 =>
      bif (hok (hmerge (hmerge (hmerge ([] : List HRow) r2.2) r4.2) r5.2) (.int .i64) r5.1.1.1.2) && (List.all r5.1.1.2 (Ty.unok (hmerge (hmerge (hmerge ([] : List HRow) r2.2) r4.2) r5.2) (.pair (.int .i64) (.hnd (.int .i64))))) then
      bindO (laws_eqPipe.F N (((r5.1.1.1.1, hcut (hmerge (hmerge (hmerge ([] : List HRow) r2.2) r4.2) r5.2) (.int .i64) r5.1.1.1.2), List.map (Ty.unden (hmerge (hmerge (hmerge ([] : List HRow) r2.2) r4.2) r5.2) (.pair (.int .i64) (.hnd (.int .i64)))) r5.1.1.2), r3.1)) fun r6 =>
      bif !r6 then
        some false
      else
        bif r5.1.2 != r3.2 then
          some false
        else
          bindO (T (hhide (hmerge (hmerge (hmerge ([] : List HRow) r2.2) r4.2) r5.2))) fun r7 =>
          bif (hok (hmerge (hmerge (hmerge (hmerge ([] : List HRow) r2.2) r4.2) r5.2) r7.2) (.int .i64) r4.1.1.2) && ((List.all r4.1.2 (Ty.unok (hmerge (hmerge (hmerge (hmerge ([] : List HRow) r2.2) r4.2) r5.2) r7.2) (.pair (.int .i64) (.hnd (.int .i64))))) && ((hok (hmerge (hmerge (hmerge (hmerge ([] : List HRow) r2.2) r4.2) r5.2) r7.2) (.int .i64) r7.1.1.2) && (List.all r7.1.2 (Ty.unok (hmerge (hmerge (hmerge (hmerge ([] : List HRow) r2.2) r4.2) r5.2) r7.2) (.pair (.int .i64) (.hnd (.int .i64))))))) then
          bindO (laws_eqPipe.F N (((r4.1.1.1, hcut (hmerge (hmerge (hmerge (hmerge ([] : List HRow) r2.2) r4.2) r5.2) r7.2) (.int .i64) r4.1.1.2), List.map (Ty.unden (hmerge (hmerge (hmerge (hmerge ([] : List HRow) r2.2) r4.2) r5.2) r7.2) (.pair (.int .i64) (.hnd (.int .i64)))) r4.1.2), ((r7.1.1.1, hcut (hmerge (hmerge (hmerge (hmerge ([] : List HRow) r2.2) r4.2) r5.2) r7.2) (.int .i64) r7.1.1.2), List.map (Ty.unden (hmerge (hmerge (hmerge (hmerge ([] : List HRow) r2.2) r4.2) r5.2) r7.2) (.pair (.int .i64) (.hnd (.int .i64)))) r7.1.2))) fun r8 =>
          bif !r8 then
            some false
          else
            bindO (laws_markPipe.H N (r4.1, (1 : Int)) (hmerge (hmerge (hmerge (hmerge ([] : List HRow) r2.2) r4.2) r5.2) r7.2)) fun r9 =>
            bif decide (r9.1.1 < (0 : Int)) then
              some false
            else
              bif (hok r9.2 (.int .i64) r5.1.1.1.2) && (List.all r5.1.1.2 (Ty.unok r9.2 (.pair (.int .i64) (.hnd (.int .i64))))) then
              bindO (laws_eqPipe.F N (((r5.1.1.1.1, hcut r9.2 (.int .i64) r5.1.1.1.2), List.map (Ty.unden r9.2 (.pair (.int .i64) (.hnd (.int .i64)))) r5.1.1.2), r3.1)) fun r10 =>
              bif !r10 then
                some false
              else
                bif r5.1.2 != r3.2 then
                  some false
                else
                  bindO (laws_markPipe.H N (r5.1.1, (1 : Int)) r9.2) fun r11 =>
                  bif (hok r11.2 (.int .i64) r5.1.1.1.2) && (List.all r11.1.2 (Ty.unok r11.2 (.pair (.int .i64) (.hnd (.int .i64))))) then
                  bindO (laws_heldPipe.F N (((r5.1.1.1.1, hcut r11.2 (.int .i64) r5.1.1.1.2), List.map (Ty.unden r11.2 (.pair (.int .i64) (.hnd (.int .i64)))) r11.1.2), (1 : Int))) fun r12 =>
                  bif decide (r12 < (0 : Int)) then
                    some false
                  else
                    bif r12 != r11.1.1 then
                      some false
                    else
                      bindO (T (hhide r11.2)) fun r13 =>
                      bif (hok (hmerge r11.2 r13.2) (.int .i64) r13.1.1.2) && (List.all r13.1.2 (Ty.unok (hmerge r11.2 r13.2) (.pair (.int .i64) (.hnd (.int .i64))))) then
                      bindO (G ((r13.1.1.1, hcut (hmerge r11.2 r13.2) (.int .i64) r13.1.1.2), List.map (Ty.unden (hmerge r11.2 r13.2) (.pair (.int .i64) (.hnd (.int .i64)))) r13.1.2) (hhide (hmerge r11.2 r13.2))) fun r14 =>
                      bif (hok (hmerge (hmerge r11.2 r13.2) r14.2) (.int .i64) r14.1.1.1.2) && (List.all r14.1.1.2 (Ty.unok (hmerge (hmerge r11.2 r13.2) r14.2) (.pair (.int .i64) (.hnd (.int .i64))))) then
                      bindO (laws_eqPipe.F N (((r14.1.1.1.1, hcut (hmerge (hmerge r11.2 r13.2) r14.2) (.int .i64) r14.1.1.1.2), List.map (Ty.unden (hmerge (hmerge r11.2 r13.2) r14.2) (.pair (.int .i64) (.hnd (.int .i64)))) r14.1.1.2), r3.1)) fun r15 =>
                      bif !r15 then
                        some false
                      else
                        bif r14.1.2 != r3.2 then
                          some false
                        else
                          bif (hok (hmerge (hmerge r11.2 r13.2) r14.2) (.int .i64) r5.1.1.1.2) && (List.all r11.1.2 (Ty.unok (hmerge (hmerge r11.2 r13.2) r14.2) (.pair (.int .i64) (.hnd (.int .i64))))) then
                          bindO (laws_heldPipe.F N (((r5.1.1.1.1, hcut (hmerge (hmerge r11.2 r13.2) r14.2) (.int .i64) r5.1.1.1.2), List.map (Ty.unden (hmerge (hmerge r11.2 r13.2) r14.2) (.pair (.int .i64) (.hnd (.int .i64)))) r11.1.2), (1 : Int))) fun r16 =>
                          bif decide (r16 < (0 : Int)) then
                            some false
                          else
                            bif r16 != r11.1.1 then
                              some false
                            else
                              some true
                          else none
                      else none
                      else none
                  else none
              else none
          else none
      else none
      else none
      else none) = some true := by
  have bb : (V.2 != V.2) = false := by cases V.2 <;> rfl
  obtain ⟨a2, A2, D2, e2, p2, o2⟩ := (hT (hhide [])).call
  rw [e2, bindV]
  dsimp only
  generalize hmerge [] D2 = M2 at *
  rw [o2.hdok, o2.tail.unok, Bool.and_self, condT, o2.hdcut, o2.hd1, o2.tail.un, show ((p.1.1, p.1.2), p.2) = p from rfl, hS, bindV]
  obtain ⟨a4, A4, D4, e4, p4, o4⟩ := (hT (hhide M2)).call
  rw [e4, bindV]
  dsimp only
  generalize hmerge M2 D4 = M4 at *
  rw [o4.hdok, o4.tail.unok, Bool.and_self, condT, o4.hdcut, o4.hd1, o4.tail.un, show ((p.1.1, p.1.2), p.2) = p from rfl]
  obtain ⟨a5, A5, D5, e5, p5, o5⟩ := (hG (hhide M4)).call
  rw [e5, bindV]
  dsimp only
  generalize hmerge M4 D5 = M5 at *
  rw [o5.hdok, o5.tail.unok, Bool.and_self, condT, o5.hdcut, o5.hd1, o5.tail.un, show ((V.1.1.1, V.1.1.2), V.1.2) = V.1 from rfl, eqPipe_self N hN V.1 hV, bindV, notT, condF, bb, condF]
  obtain ⟨a7, A7, D7, e7, p7, o7⟩ := (hT (hhide M5)).call
  rw [e7, bindV]
  dsimp only
  generalize hmerge M5 D7 = M7 at *
  have b4 := (o4.more p5).more p7
  have b5 := o5.more p7
  rw [b4.hdok, b4.tail.unok, o7.hdok, o7.tail.unok, Bool.and_self, Bool.and_self, Bool.and_self, condT, b4.hdcut, b4.tail.un, o7.hdcut, o7.hd1, o7.tail.un, show ((p.1.1, p.1.2), p.2) = p from rfl, eqPipe_self N hN p hp, bindV, notT, condF]
  obtain ⟨k1, A9, v9, D9, m1, m2, m2b, m3, m4, m5⟩ := markPipe_eq N hN b4 hp
  rw [m1, bindV, decide_eq_false (by show ¬ k1 < 0; omega), condF]
  dsimp only
  have l4 := p4.length_le
  have l5 := p5.length_le
  have d5 := b5.apart m3 (Or.inr (Nat.le_refl _))
  rw [d5.hdok, d5.tail.unok, Bool.and_self, condT, d5.hdcut, d5.tail.un, show ((V.1.1.1, V.1.1.2), V.1.2) = V.1 from rfl, eqPipe_self N hN V.1 hV, bindV, notT, condF, condF]
  obtain ⟨k2, A11, v11, D11, n1, n2, n2b, n3, n4, n5⟩ := markPipe_eq N hN d5 hV
  have e1v : v11.1.1 = V.1.1.1 := by rw [← n4.hd1, d5.hd1]
  have v11e : ((V.1.1.1, v11.1.2), v11.2) = v11 := by rw [← e1v]
  rw [n1, bindV]
  dsimp only
  rw [n4.hdok, n4.tail.unok, Bool.and_self, condT, n4.hdcut, n4.tail.un, v11e, n5, bindV, decide_eq_false (by omega), condF, bneI, decide_eq_true rfl, notT, condF]
  obtain ⟨a13, A13, D13, e13, p13, o13⟩ := (hT (hhide D11)).call
  rw [e13, bindV]
  dsimp only
  generalize hmerge D11 D13 = M13 at *
  rw [o13.hdok, o13.tail.unok, Bool.and_self, condT, o13.hdcut, o13.hd1, o13.tail.un, show ((p.1.1, p.1.2), p.2) = p from rfl]
  obtain ⟨a14, A14, D14, e14, p14, o14⟩ := (hG (hhide M13)).call
  rw [e14, bindV]
  dsimp only
  generalize hmerge M13 D14 = M14 at *
  have g5 := (n4.more p13).more p14
  rw [o14.hdok, o14.tail.unok, Bool.and_self, condT, o14.hdcut, o14.hd1, o14.tail.un, show ((V.1.1.1, V.1.1.2), V.1.2) = V.1 from rfl, eqPipe_self N hN V.1 hV, bindV, notT, condF, bb, condF,
    g5.hdok, g5.tail.unok, Bool.and_self, condT, g5.hdcut, g5.tail.un, v11e, n5, bindV, decide_eq_false (by omega), condF, bneI, decide_eq_true rfl, notT, condF]

def wellP (p : Pp) : Prop := p.1.2.length ≤ maxLen ∧ p.2.length ≤ maxLen ∧ ∀ x ∈ p.2, x.2.length ≤ maxLen
theorem szPipe_eq (N : Nat) (hN : 1048576 < N) (p : Pp) (h : wellP p) : ∃ r, laws_szPipe.F N (p, 1048576) = some r ∧ -1 ≤ r ∧ r ≤ 1048576 ∧ (0 ≤ r → smallP p) := by
  rw [laws_szPipe.F_eq]
  obtain ⟨r, e, r0, r1, r2⟩ := szReport_eq N p.1 1048576 h.1 (by omega) (by omega)
  rw [e, bindV]
  by_cases hr : r < 0
  · rw [decide_eq_true hr, condT]; exact ⟨_, rfl, by omega, by omega, fun h => by omega⟩
  rw [decide_eq_false hr, condF]
  obtain ⟨q, e', q0, q1, q2⟩ := szReportS_eq N hN p.2 r h.2 (by omega) r1
  rw [e', bindV]
  by_cases hq : q < 0
  · rw [decide_eq_true hq, condT]; exact ⟨_, rfl, by omega, by omega, fun h => by omega⟩
  rw [decide_eq_false hq, condF]
  exact ⟨_, rfl, by omega, by omega, fun h => ⟨r2 (by omega), q2 h⟩⟩

theorem FnExactTakeReport_true (p : Pp) (h : wellP p) : laws_FnExactTakeReport.F 2000000 p = some true := by
  rw [laws_FnExactTakeReport.F_eq]
  obtain ⟨r, e, r0, r1, hr⟩ := szPipe_eq 2000000 (by omega) p h
  rw [e, bindV]
  by_cases h0 : r < 0
  · rw [decide_eq_true h0, condT]
  have hs := hr (by omega)
  rw [decide_eq_false h0, condF]
  exact ExactTake 2000000 (by omega) p hs (takeB p) (takeB_small p hs) (laws_toPipeh.H 2000000 p) (fun q => spec_TakeReport.F 2000000 q) (fun q D => impl_TakeReporth.H 2000000 q D)
    (toPipeh_eq 2000000 (by omega) p hs) (TakeS 2000000 (by omega) p hs) (TakeI 2000000 (by omega) p hs)
end Go.Kb
