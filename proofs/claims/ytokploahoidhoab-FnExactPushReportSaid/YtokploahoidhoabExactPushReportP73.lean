/- The exact row of PushReport. -/
import Derived.Test.YtokploahoidhoabExactPushReportP72
namespace Go.Kb
set_option maxRecDepth 100000

theorem ExactPush (N : Nat) (hN : 1048576 < N) (p : Pp) (hp : smallP p) (q : Rpt) (hq : smallR q) (V : Pp × Bool) (hV : smallP V.1)
    (T : List HRow → Option ((RH × List RH) × List HRow)) (S : Pp × Rpt → Option (Pp × Bool)) (G : Pp × Rpt → List HRow → Option (((RH × List RH) × Bool) × List HRow))
    (hT : ∀ D, PpOut (T D) D p) (hS : S (p, q) = some V) (hG : ∀ D, PpOutB (G (p, q) D) D V) :
    (bindO (T (hhide ([] : List HRow))) fun r3 =>
        bindO (laws_toReport.F N q) fun r4 =>
        bif (hok (hmerge ([] : List HRow) r3.2) (.int .i64) r3.1.1.2) && (List.all r3.1.2 (Ty.unok (hmerge ([] : List HRow) r3.2) (.pair (.int .i64) (.hnd (.int .i64))))) then
        bindO (S (((r3.1.1.1, hcut (hmerge ([] : List HRow) r3.2) (.int .i64) r3.1.1.2), List.map (Ty.unden (hmerge ([] : List HRow) r3.2) (.pair (.int .i64) (.hnd (.int .i64)))) r3.1.2), r4)) fun r5 =>
        bindO (T (hhide (hmerge ([] : List HRow) r3.2))) fun r6 =>
        bindO (laws_toReport.F N q) fun r7 =>
        bif (hok (hmerge (hmerge ([] : List HRow) r3.2) r6.2) (.int .i64) r6.1.1.2) && (List.all r6.1.2 (Ty.unok (hmerge (hmerge ([] : List HRow) r3.2) r6.2) (.pair (.int .i64) (.hnd (.int .i64))))) then
        bindO (G (((r6.1.1.1, hcut (hmerge (hmerge ([] : List HRow) r3.2) r6.2) (.int .i64) r6.1.1.2), List.map (Ty.unden (hmerge (hmerge ([] : List HRow) r3.2) r6.2) (.pair (.int .i64) (.hnd (.int .i64)))) r6.1.2), r7) (hhide (hmerge (hmerge ([] : List HRow) r3.2) r6.2))) fun r8 =>
        bif (hok (hmerge (hmerge (hmerge ([] : List HRow) r3.2) r6.2) r8.2) (.int .i64) r8.1.1.1.2) && (List.all r8.1.1.2 (Ty.unok (hmerge (hmerge (hmerge ([] : List HRow) r3.2) r6.2) r8.2) (.pair (.int .i64) (.hnd (.int .i64))))) then
        bindO (laws_eqPipe.F N (((r8.1.1.1.1, hcut (hmerge (hmerge (hmerge ([] : List HRow) r3.2) r6.2) r8.2) (.int .i64) r8.1.1.1.2), List.map (Ty.unden (hmerge (hmerge (hmerge ([] : List HRow) r3.2) r6.2) r8.2) (.pair (.int .i64) (.hnd (.int .i64)))) r8.1.1.2), r5.1)) fun r9 =>
        bif !r9 then
          some false
        else
          bif r8.1.2 != r5.2 then
            some false
          else
            bindO (T (hhide (hmerge (hmerge (hmerge ([] : List HRow) r3.2) r6.2) r8.2))) fun r10 =>
            bif (hok (hmerge (hmerge (hmerge (hmerge ([] : List HRow) r3.2) r6.2) r8.2) r10.2) (.int .i64) r6.1.1.2) && ((List.all r6.1.2 (Ty.unok (hmerge (hmerge (hmerge (hmerge ([] : List HRow) r3.2) r6.2) r8.2) r10.2) (.pair (.int .i64) (.hnd (.int .i64))))) && ((hok (hmerge (hmerge (hmerge (hmerge ([] : List HRow) r3.2) r6.2) r8.2) r10.2) (.int .i64) r10.1.1.2) && (List.all r10.1.2 (Ty.unok (hmerge (hmerge (hmerge (hmerge ([] : List HRow) r3.2) r6.2) r8.2) r10.2) (.pair (.int .i64) (.hnd (.int .i64))))))) then
            bindO (laws_eqPipe.F N (((r6.1.1.1, hcut (hmerge (hmerge (hmerge (hmerge ([] : List HRow) r3.2) r6.2) r8.2) r10.2) (.int .i64) r6.1.1.2), List.map (Ty.unden (hmerge (hmerge (hmerge (hmerge ([] : List HRow) r3.2) r6.2) r8.2) r10.2) (.pair (.int .i64) (.hnd (.int .i64)))) r6.1.2), ((r10.1.1.1, hcut (hmerge (hmerge (hmerge (hmerge ([] : List HRow) r3.2) r6.2) r8.2) r10.2) (.int .i64) r10.1.1.2), List.map (Ty.unden (hmerge (hmerge (hmerge (hmerge ([] : List HRow) r3.2) r6.2) r8.2) r10.2) (.pair (.int .i64) (.hnd (.int .i64)))) r10.1.2))) fun r11 =>
            bif !r11 then
              some false
            else
              bindO (laws_toReport.F N q) fun r12 =>
              bindO (laws_eqReport.F N (r7, r12)) fun r13 =>
              bif !r13 then
                some false
              else
                bindO (laws_markPipe.H N (r6.1, (1 : Int)) (hmerge (hmerge (hmerge (hmerge ([] : List HRow) r3.2) r6.2) r8.2) r10.2)) fun r14 =>
                bindO (laws_markReport.F N (r7, r14.1.1)) fun r15 =>
                bif decide (r15.1 < (0 : Int)) then
                  some false
                else
                  bif (hok r14.2 (.int .i64) r8.1.1.1.2) && (List.all r8.1.1.2 (Ty.unok r14.2 (.pair (.int .i64) (.hnd (.int .i64))))) then
                  bindO (laws_eqPipe.F N (((r8.1.1.1.1, hcut r14.2 (.int .i64) r8.1.1.1.2), List.map (Ty.unden r14.2 (.pair (.int .i64) (.hnd (.int .i64)))) r8.1.1.2), r5.1)) fun r16 =>
                  bif !r16 then
                    some false
                  else
                    bif r8.1.2 != r5.2 then
                      some false
                    else
                      bindO (laws_markPipe.H N (r8.1.1, (1 : Int)) r14.2) fun r17 =>
                      bif (hok r17.2 (.int .i64) r8.1.1.1.2) && (List.all r17.1.2 (Ty.unok r17.2 (.pair (.int .i64) (.hnd (.int .i64))))) then
                      bindO (laws_heldPipe.F N (((r8.1.1.1.1, hcut r17.2 (.int .i64) r8.1.1.1.2), List.map (Ty.unden r17.2 (.pair (.int .i64) (.hnd (.int .i64)))) r17.1.2), (1 : Int))) fun r18 =>
                      bif decide (r18 < (0 : Int)) then
                        some false
                      else
                        bif r18 != r17.1.1 then
                          some false
                        else
                          bindO (T (hhide r17.2)) fun r19 =>
                          bindO (laws_toReport.F N q) fun r20 =>
                          bif (hok (hmerge r17.2 r19.2) (.int .i64) r19.1.1.2) && (List.all r19.1.2 (Ty.unok (hmerge r17.2 r19.2) (.pair (.int .i64) (.hnd (.int .i64))))) then
                          bindO (G (((r19.1.1.1, hcut (hmerge r17.2 r19.2) (.int .i64) r19.1.1.2), List.map (Ty.unden (hmerge r17.2 r19.2) (.pair (.int .i64) (.hnd (.int .i64)))) r19.1.2), r20) (hhide (hmerge r17.2 r19.2))) fun r21 =>
                          bif (hok (hmerge (hmerge r17.2 r19.2) r21.2) (.int .i64) r21.1.1.1.2) && (List.all r21.1.1.2 (Ty.unok (hmerge (hmerge r17.2 r19.2) r21.2) (.pair (.int .i64) (.hnd (.int .i64))))) then
                          bindO (laws_eqPipe.F N (((r21.1.1.1.1, hcut (hmerge (hmerge r17.2 r19.2) r21.2) (.int .i64) r21.1.1.1.2), List.map (Ty.unden (hmerge (hmerge r17.2 r19.2) r21.2) (.pair (.int .i64) (.hnd (.int .i64)))) r21.1.1.2), r5.1)) fun r22 =>
                          bif !r22 then
                            some false
                          else
                            bif r21.1.2 != r5.2 then
                              some false
                            else
                              bif (hok (hmerge (hmerge r17.2 r19.2) r21.2) (.int .i64) r8.1.1.1.2) && (List.all r17.1.2 (Ty.unok (hmerge (hmerge r17.2 r19.2) r21.2) (.pair (.int .i64) (.hnd (.int .i64))))) then
                              bindO (laws_heldPipe.F N (((r8.1.1.1.1, hcut (hmerge (hmerge r17.2 r19.2) r21.2) (.int .i64) r8.1.1.1.2), List.map (Ty.unden (hmerge (hmerge r17.2 r19.2) r21.2) (.pair (.int .i64) (.hnd (.int .i64)))) r17.1.2), (1 : Int))) fun r23 =>
                              bif decide (r23 < (0 : Int)) then
                                some false
                              else
                                bif r23 != r17.1.1 then
                                  some false
                                else
                                  some true
                              else none
                          else none
                          else none
                      else none
                  else none
            else none
        else none
        else none
        else none) = some true := by
  have bb : (V.2 != V.2) = false := by cases V.2 <;> rfl
  have tr := toReport_eq N hN q hq
  obtain ⟨a2, A2, D2, e2, p2, o2⟩ := (hT (hhide [])).call
  rw [e2, bindV]
  dsimp only
  generalize hmerge [] D2 = M2 at *
  rw [tr, bindV, o2.hdok, o2.tail.unok, Bool.and_self, condT, o2.hdcut, o2.hd1, o2.tail.un, show ((p.1.1, p.1.2), p.2) = p from rfl, hS, bindV]
  obtain ⟨a4, A4, D4, e4, p4, o4⟩ := (hT (hhide M2)).call
  rw [e4, bindV]
  dsimp only
  generalize hmerge M2 D4 = M4 at *
  rw [bindV, o4.hdok, o4.tail.unok, Bool.and_self, condT, o4.hdcut, o4.hd1, o4.tail.un, show ((p.1.1, p.1.2), p.2) = p from rfl]
  obtain ⟨a5, A5, D5, e5, p5, o5⟩ := (hG (hhide M4)).call
  rw [e5, bindV]
  dsimp only
  generalize hmerge M4 D5 = M5 at *
  rw [o5.hdok, o5.tail.unok, Bool.and_self, condT, o5.hdcut, o5.hd1, o5.tail.un, show ((V.1.1.1, V.1.1.2), V.1.2) = V.1 from rfl, eqPipe_self N hN V.1 hV, bindV, notT, condF, bb, condF]
  obtain ⟨a7, A7, D7, e7, p7, o7⟩ := (hT (hhide M5)).call
  rw [e7, bindV]
  dsimp only
  generalize hmerge M5 D7 = M7 at *
  have b4 := (o4.more p5).more p7
  have b5 := o5.more p7
  rw [b4.hdok, b4.tail.unok, o7.hdok, o7.tail.unok, Bool.and_self, Bool.and_self, Bool.and_self, condT, b4.hdcut, b4.tail.un, o7.hdcut, o7.hd1, o7.tail.un, show ((p.1.1, p.1.2), p.2) = p from rfl, eqPipe_self N hN p hp, bindV, notT, condF,
    bindV, eqReport_eq N hN q q hq, bindV, decide_eq_true rfl, notT, condF]
  obtain ⟨k1, A9, v9, D9, m1, m2, m2b, m3, m4, m5⟩ := markPipe_eq N hN b4 hp
  rw [m1, bindV]
  dsimp only
  obtain ⟨k3, o3, u1, u2, u3⟩ := marksRep N hN q k1 hq m2 (by omega)
  rw [u1, bindV, decide_eq_false (by show ¬ k3 < 0; omega), condF]
  have l4 := p4.length_le
  have l5 := p5.length_le
  have d5 := b5.apart m3 (Or.inr (Nat.le_refl _))
  rw [d5.hdok, d5.tail.unok, Bool.and_self, condT, d5.hdcut, d5.tail.un, show ((V.1.1.1, V.1.1.2), V.1.2) = V.1 from rfl, eqPipe_self N hN V.1 hV, bindV, notT, condF, condF]
  obtain ⟨k2, A11, v11, D11, n1, n2, n2b, n3, n4, n5⟩ := markPipe_eq N hN d5 hV
  have e1v : v11.1.1 = V.1.1.1 := by rw [← n4.hd1, d5.hd1]
  have v11e : ((V.1.1.1, v11.1.2), v11.2) = v11 := by rw [← e1v]
  rw [n1, bindV]
  dsimp only
  rw [n4.hdok, n4.tail.unok, Bool.and_self, condT, n4.hdcut, n4.tail.un, v11e, n5, bindV, decide_eq_false (by omega), condF, bneI, decide_eq_true rfl, notT, condF]
  obtain ⟨a13, A13, D13, e13, p13, o13⟩ := (hT (hhide D11)).call
  rw [e13, bindV]
  dsimp only
  generalize hmerge D11 D13 = M13 at *
  rw [bindV, o13.hdok, o13.tail.unok, Bool.and_self, condT, o13.hdcut, o13.hd1, o13.tail.un, show ((p.1.1, p.1.2), p.2) = p from rfl]
  obtain ⟨a14, A14, D14, e14, p14, o14⟩ := (hG (hhide M13)).call
  rw [e14, bindV]
  dsimp only
  generalize hmerge M13 D14 = M14 at *
  have g5 := (n4.more p13).more p14
  rw [o14.hdok, o14.tail.unok, Bool.and_self, condT, o14.hdcut, o14.hd1, o14.tail.un, show ((V.1.1.1, V.1.1.2), V.1.2) = V.1 from rfl, eqPipe_self N hN V.1 hV, bindV, notT, condF, bb, condF,
    g5.hdok, g5.tail.unok, Bool.and_self, condT, g5.hdcut, g5.tail.un, v11e, n5, bindV, decide_eq_false (by omega), condF, bneI, decide_eq_true rfl, notT, condF]

theorem FnExactPushReport_true (p : Pp) (q : Rpt) (h : wellP p) (hq : q.2.length ≤ maxLen) : laws_FnExactPushReport.F 2000000 (p, q) = some true := by
  rw [laws_FnExactPushReport.F_eq]
  obtain ⟨r, e, r0, r1, hr⟩ := szPipe_eq 2000000 (by omega) p h
  rw [e, bindV]
  by_cases h0 : r < 0
  · rw [decide_eq_true h0, condT]
  have hs := hr (by omega)
  rw [decide_eq_false h0, condF]
  obtain ⟨r', e', q0, q1, hr'⟩ := szReport_eq 2000000 q r hq (by omega) r1
  rw [e', bindV]
  by_cases h1 : r' < 0
  · rw [decide_eq_true h1, condT]
  have hs' := hr' (by omega)
  rw [decide_eq_false h1, condF]
  exact ExactPush 2000000 (by omega) p hs q hs' (pushB p q) (pushB_small p q hs hs') (laws_toPipeh.H 2000000 p) (fun x => spec_PushReport.F 2000000 x) (fun x D => impl_PushReporth.H 2000000 x D)
    (toPipeh_eq 2000000 (by omega) p hs) (PushS 2000000 (by omega) p q hs hs') (PushI 2000000 (by omega) p q hs hs')
end Go.Kb
