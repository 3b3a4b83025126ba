/- Letting reports wait, one after the other; the exact row of PushAll. -/
import Derived.Test.YtokploahoidhoabExactPushAllP73
namespace Go.Kb
set_option maxRecDepth 100000

def pushL (x : Pp) (i : Nat) : List Rpt → Pp × Int
  | [] => (x, (i : Int))
  | r :: t => bif (pushB x r).2 then pushL (pushB x r).1 (i + 1) t else (x, (i : Int))
theorem pushL_cons (x : Pp) (i : Nat) (r : Rpt) (t : List Rpt) : pushL x i (r :: t) = bif (pushB x r).2 then pushL (pushB x r).1 (i + 1) t else (x, (i : Int)) := rfl
theorem pushL_small : ∀ (t : List Rpt) (x : Pp) (i : Nat), smallP x → (∀ r ∈ t, smallR r) → smallP (pushL x i t).1
  | [], _, _, h, _ => h
  | r :: t, x, i, h, hr => by
    rw [pushL_cons]
    cases (pushB x r).2
    · exact h
    · exact pushL_small t _ (i + 1) (pushB_small x r h (hr r List.mem_cons_self)) (fun y hy => hr y (List.mem_cons_of_mem _ hy))

theorem AllS_L1 (N : Nat) (hN : 1048576 < N) (l : List Rpt) (hl : smallRS l) : ∀ (n i : Nat) (x : Pp), smallP x → i ≤ l.length → l.length < n + i →
    spec_PushAll.L1 N n l (i : Int) x.1.1 x.1.2 x.2 = some (pushL x i (l.drop i)) := by
  intro n
  induction n with
  | zero => intro i x hx h1 h2; omega
  | succ n ih =>
    intro i x hx h1 h2
    have hl1 := hl.1
    have cp : spec_l13Copy.F N ((x.1.1, x.1.2), x.2) = some x := copyP_eqS N hN x hx.1 hx.2
    rw [spec_PushAll.L1_eq, cp]
    by_cases hi : i < l.length
    · have hr := hl.2 _ (nth_mem (0, []) l i hi)
      have e : spec_PushReport.F N (((x.1.1, x.1.2), x.2), l.getD i (0, [])) = some (pushB x (l.getD i (0, []))) := PushS N hN x _ hx hr
      rw [decide_eq_true (Int.ofNat_lt.mpr hi), condT, inRange_nat, decide_eq_true hi, condT, nth_nat, e, bindV, drop_cons (0, []) l i hi, pushL_cons, wrap_succ (by omega)]
      cases hb : (pushB x (l.getD i (0, []))).2
      · rw [notF, condT, condF, bindV]
      · rw [notT, condF, condT]
        exact ih (i + 1) _ (pushB_small x _ hx hr) (by omega) (by omega)
    · rw [decide_eq_false (by omega), condF, bindV, List.drop_eq_nil_of_le (by omega)]
      have : i = l.length := by omega
      subst this
      rfl
theorem AllS (N : Nat) (hN : 1048576 < N) (p : Pp) (l : List Rpt) (hp : smallP p) (hl : smallRS l) : spec_PushAll.F N (p, l) = some (pushL p 0 l) := by
  have hl1 := hl.1
  rw [spec_PushAll.F_eq]
  have := AllS_L1 N hN l hl N 0 p hp (by omega) (by omega)
  rw [show ((0 : Nat) : Int) = 0 from rfl, List.drop_zero] at this
  exact this

theorem AllI_L1 (N : Nat) (hN : 1048576 < N) (l : List Rpt) (hl : smallRS l) : ∀ (n i : Nat) (x : Pp) (a : RH) (A : List RH) (D0 D : List HRow) (lo : Nat), smallP x → i ≤ l.length → l.length < n + i → D0 <+: D → D0.length ≤ lo → lo ≤ D.length →
    OwnR D lo D.length (a :: A) (x.1 :: x.2) → PpOutB (impl_PushAll.L1 N n l l (l.length : Int) (i : Int) a.1 a.2 A D) D0 (pushL x i (l.drop i)) := by
  intro n
  induction n with
  | zero => intro i x a A D0 D lo hx h1 h2; omega
  | succ n ih =>
    intro i x a A D0 D lo hx h1 h2 hp hlo hlD ow
    have hl1 := hl.1
    rw [impl_PushAll.L1_eq]
    by_cases hi : i < l.length
    · have hr := hl.2 _ (nth_mem (0, []) l i hi)
      rw [decide_eq_true (Int.ofNat_lt.mpr hi), condT, inRange_nat, decide_eq_true hi, condT, ow.hdok, ow.tail.unok, Bool.and_self, condT, ow.hdcut, ow.hd1, ow.tail.un, nth_nat, show ((x.1.1, x.1.2), x.2) = x from rfl, drop_cons (0, []) l i hi, pushL_cons, wrap_succ (by omega)]
      obtain ⟨b, B, E, e, pre, o2⟩ := (PushI N hN x (l.getD i (0, [])) hx hr (hhide D)).call
      rw [e, bindV]
      dsimp only
      generalize hmerge D E = M at *
      cases hb : (pushB x (l.getD i (0, []))).2
      · rw [notF, condT, condF, ← ow.hd1]
        exact ⟨a, A, M, rfl, hp.trans pre, (ow.more pre).mono hlo pre.length_le⟩
      · rw [notT, condF, condT]
        exact ih (i + 1) (pushB x (l.getD i (0, []))).1 b B D0 M D.length (pushB_small x _ hx hr) (by omega) (by omega) (hp.trans pre) hp.length_le pre.length_le o2
    · rw [decide_eq_false (by omega), condF, List.drop_eq_nil_of_le (by omega)]
      have : i = l.length := by omega
      subst this
      exact ⟨a, A, D, rfl, hp, ow.mono hlo (Nat.le_refl _)⟩
theorem AllI (N : Nat) (hN : 1048576 < N) (p : Pp) (l : List Rpt) (hp : smallP p) (hl : smallRS l) (D : List HRow) : PpOutB (impl_PushAll.H N (p, l) D) D (pushL p 0 l) := by
  have hl1 := hl.1
  rw [impl_PushAll.H_eq]
  obtain ⟨a, A, E, e, pre, o⟩ := (copyPh_eq N hN p hp (hhide D)).call
  rw [e, bindV]
  dsimp only
  generalize hmerge D E = M at *
  exact AllI_L1 N hN l hl N 0 p a A D M D.length hp (by omega) (by omega) pre (Nat.le_refl _) pre.length_le o

theorem ExactAll (N : Nat) (hN : 1048576 < N) (p : Pp) (hp : smallP p) (q : List Rpt) (hq : smallRS q) (V : Pp × Int) (hV : smallP V.1)
    (T : List HRow → Option ((RH × List RH) × List HRow)) (U : List HRow → Option (List RH × List HRow)) (S : Pp × List Rpt → Option (Pp × Int)) (G : Pp × List Rpt → List HRow → Option (((RH × List RH) × Int) × List HRow))
    (hT : ∀ D, PpOut (T D) D p) (hU : ∀ D, ∃ A D', U (hhide D) = some (A, D') ∧ D <+: hmerge D D' ∧ OwnR (hmerge D D') D.length (hmerge D D').length A q) (hS : S (p, q) = some V) (hG : ∀ D, PpOutB (G (p, q) D) D V) :
    (bindO (T (hhide ([] : List HRow))) fun r3 =>
        bindO (U (hhide (hmerge ([] : List HRow) r3.2))) fun r4 =>
        bif (hok (hmerge (hmerge ([] : List HRow) r3.2) r4.2) (.int .i64) r3.1.1.2) && ((List.all r3.1.2 (Ty.unok (hmerge (hmerge ([] : List HRow) r3.2) r4.2) (.pair (.int .i64) (.hnd (.int .i64))))) && (List.all r4.1 (Ty.unok (hmerge (hmerge ([] : List HRow) r3.2) r4.2) (.pair (.int .i64) (.hnd (.int .i64)))))) then
        bindO (S (((r3.1.1.1, hcut (hmerge (hmerge ([] : List HRow) r3.2) r4.2) (.int .i64) r3.1.1.2), List.map (Ty.unden (hmerge (hmerge ([] : List HRow) r3.2) r4.2) (.pair (.int .i64) (.hnd (.int .i64)))) r3.1.2), List.map (Ty.unden (hmerge (hmerge ([] : List HRow) r3.2) r4.2) (.pair (.int .i64) (.hnd (.int .i64)))) r4.1)) fun r5 =>
        bindO (T (hhide (hmerge (hmerge ([] : List HRow) r3.2) r4.2))) fun r6 =>
        bindO (U (hhide (hmerge (hmerge (hmerge ([] : List HRow) r3.2) r4.2) r6.2))) fun r7 =>
        bif (hok (hmerge (hmerge (hmerge (hmerge ([] : List HRow) r3.2) r4.2) r6.2) r7.2) (.int .i64) r6.1.1.2) && ((List.all r6.1.2 (Ty.unok (hmerge (hmerge (hmerge (hmerge ([] : List HRow) r3.2) r4.2) r6.2) r7.2) (.pair (.int .i64) (.hnd (.int .i64))))) && (List.all r7.1 (Ty.unok (hmerge (hmerge (hmerge (hmerge ([] : List HRow) r3.2) r4.2) r6.2) r7.2) (.pair (.int .i64) (.hnd (.int .i64)))))) then
        bindO (G (((r6.1.1.1, hcut (hmerge (hmerge (hmerge (hmerge ([] : List HRow) r3.2) r4.2) r6.2) r7.2) (.int .i64) r6.1.1.2), List.map (Ty.unden (hmerge (hmerge (hmerge (hmerge ([] : List HRow) r3.2) r4.2) r6.2) r7.2) (.pair (.int .i64) (.hnd (.int .i64)))) r6.1.2), List.map (Ty.unden (hmerge (hmerge (hmerge (hmerge ([] : List HRow) r3.2) r4.2) r6.2) r7.2) (.pair (.int .i64) (.hnd (.int .i64)))) r7.1) (hhide (hmerge (hmerge (hmerge (hmerge ([] : List HRow) r3.2) r4.2) r6.2) r7.2))) fun r8 =>
        bif (hok (hmerge (hmerge (hmerge (hmerge (hmerge ([] : List HRow) r3.2) r4.2) r6.2) r7.2) r8.2) (.int .i64) r8.1.1.1.2) && (List.all r8.1.1.2 (Ty.unok (hmerge (hmerge (hmerge (hmerge (hmerge ([] : List HRow) r3.2) r4.2) r6.2) r7.2) r8.2) (.pair (.int .i64) (.hnd (.int .i64))))) then
        bindO (laws_eqPipe.F N (((r8.1.1.1.1, hcut (hmerge (hmerge (hmerge (hmerge (hmerge ([] : List HRow) r3.2) r4.2) r6.2) r7.2) r8.2) (.int .i64) r8.1.1.1.2), List.map (Ty.unden (hmerge (hmerge (hmerge (hmerge (hmerge ([] : List HRow) r3.2) r4.2) r6.2) r7.2) r8.2) (.pair (.int .i64) (.hnd (.int .i64)))) r8.1.1.2), r5.1)) fun r9 =>
        bif !r9 then
          some false
        else
          bif r8.1.2 != r5.2 then
            some false
          else
            bindO (T (hhide (hmerge (hmerge (hmerge (hmerge (hmerge ([] : List HRow) r3.2) r4.2) r6.2) r7.2) r8.2))) fun r10 =>
            bif (hok (hmerge (hmerge (hmerge (hmerge (hmerge (hmerge ([] : List HRow) r3.2) r4.2) r6.2) r7.2) r8.2) r10.2) (.int .i64) r6.1.1.2) && ((List.all r6.1.2 (Ty.unok (hmerge (hmerge (hmerge (hmerge (hmerge (hmerge ([] : List HRow) r3.2) r4.2) r6.2) r7.2) r8.2) r10.2) (.pair (.int .i64) (.hnd (.int .i64))))) && ((hok (hmerge (hmerge (hmerge (hmerge (hmerge (hmerge ([] : List HRow) r3.2) r4.2) r6.2) r7.2) r8.2) r10.2) (.int .i64) r10.1.1.2) && (List.all r10.1.2 (Ty.unok (hmerge (hmerge (hmerge (hmerge (hmerge (hmerge ([] : List HRow) r3.2) r4.2) r6.2) r7.2) r8.2) r10.2) (.pair (.int .i64) (.hnd (.int .i64))))))) then
            bindO (laws_eqPipe.F N (((r6.1.1.1, hcut (hmerge (hmerge (hmerge (hmerge (hmerge (hmerge ([] : List HRow) r3.2) r4.2) r6.2) r7.2) r8.2) r10.2) (.int .i64) r6.1.1.2), List.map (Ty.unden (hmerge (hmerge (hmerge (hmerge (hmerge (hmerge ([] : List HRow) r3.2) r4.2) r6.2) r7.2) r8.2) r10.2) (.pair (.int .i64) (.hnd (.int .i64)))) r6.1.2), ((r10.1.1.1, hcut (hmerge (hmerge (hmerge (hmerge (hmerge (hmerge ([] : List HRow) r3.2) r4.2) r6.2) r7.2) r8.2) r10.2) (.int .i64) r10.1.1.2), List.map (Ty.unden (hmerge (hmerge (hmerge (hmerge (hmerge (hmerge ([] : List HRow) r3.2) r4.2) r6.2) r7.2) r8.2) r10.2) (.pair (.int .i64) (.hnd (.int .i64)))) r10.1.2))) fun r11 =>
            bif !r11 then
              some false
            else
              bindO (U (hhide (hmerge (hmerge (hmerge (hmerge (hmerge (hmerge ([] : List HRow) r3.2) r4.2) r6.2) r7.2) r8.2) r10.2))) fun r12 =>
              bif (List.all r7.1 (Ty.unok (hmerge (hmerge (hmerge (hmerge (hmerge (hmerge (hmerge ([] : List HRow) r3.2) r4.2) r6.2) r7.2) r8.2) r10.2) r12.2) (.pair (.int .i64) (.hnd (.int .i64))))) && (List.all r12.1 (Ty.unok (hmerge (hmerge (hmerge (hmerge (hmerge (hmerge (hmerge ([] : List HRow) r3.2) r4.2) r6.2) r7.2) r8.2) r10.2) r12.2) (.pair (.int .i64) (.hnd (.int .i64))))) then
              bindO (laws_eqReportS.F N (List.map (Ty.unden (hmerge (hmerge (hmerge (hmerge (hmerge (hmerge (hmerge ([] : List HRow) r3.2) r4.2) r6.2) r7.2) r8.2) r10.2) r12.2) (.pair (.int .i64) (.hnd (.int .i64)))) r7.1, List.map (Ty.unden (hmerge (hmerge (hmerge (hmerge (hmerge (hmerge (hmerge ([] : List HRow) r3.2) r4.2) r6.2) r7.2) r8.2) r10.2) r12.2) (.pair (.int .i64) (.hnd (.int .i64)))) r12.1)) fun r13 =>
              bif !r13 then
                some false
              else
                bindO (laws_markPipe.H N (r6.1, (1 : Int)) (hmerge (hmerge (hmerge (hmerge (hmerge (hmerge (hmerge ([] : List HRow) r3.2) r4.2) r6.2) r7.2) r8.2) r10.2) r12.2)) fun r14 =>
                bindO (laws_markReportS.H N (r7.1, r14.1.1) r14.2) fun r15 =>
                bif decide (r15.1.1 < (0 : Int)) then
                  some false
                else
                  bif (hok r15.2 (.int .i64) r8.1.1.1.2) && (List.all r8.1.1.2 (Ty.unok r15.2 (.pair (.int .i64) (.hnd (.int .i64))))) then
                  bindO (laws_eqPipe.F N (((r8.1.1.1.1, hcut r15.2 (.int .i64) r8.1.1.1.2), List.map (Ty.unden r15.2 (.pair (.int .i64) (.hnd (.int .i64)))) r8.1.1.2), r5.1)) fun r16 =>
                  bif !r16 then
                    some false
                  else
                    bif r8.1.2 != r5.2 then
                      some false
                    else
                      bindO (laws_markPipe.H N (r8.1.1, (1 : Int)) r15.2) fun r17 =>
                      bif (hok r17.2 (.int .i64) r8.1.1.1.2) && (List.all r17.1.2 (Ty.unok r17.2 (.pair (.int .i64) (.hnd (.int .i64))))) then
                      bindO (laws_heldPipe.F N (((r8.1.1.1.1, hcut r17.2 (.int .i64) r8.1.1.1.2), List.map (Ty.unden r17.2 (.pair (.int .i64) (.hnd (.int .i64)))) r17.1.2), (1 : Int))) fun r18 =>
                      bif decide (r18 < (0 : Int)) then
                        some false
                      else
                        bif r18 != r17.1.1 then
                          some false
                        else
                          bindO (T (hhide r17.2)) fun r19 =>
                          bindO (U (hhide (hmerge r17.2 r19.2))) fun r20 =>
                          bif (hok (hmerge (hmerge r17.2 r19.2) r20.2) (.int .i64) r19.1.1.2) && ((List.all r19.1.2 (Ty.unok (hmerge (hmerge r17.2 r19.2) r20.2) (.pair (.int .i64) (.hnd (.int .i64))))) && (List.all r20.1 (Ty.unok (hmerge (hmerge r17.2 r19.2) r20.2) (.pair (.int .i64) (.hnd (.int .i64)))))) then
                          bindO (G (((r19.1.1.1, hcut (hmerge (hmerge r17.2 r19.2) r20.2) (.int .i64) r19.1.1.2), List.map (Ty.unden (hmerge (hmerge r17.2 r19.2) r20.2) (.pair (.int .i64) (.hnd (.int .i64)))) r19.1.2), List.map (Ty.unden (hmerge (hmerge r17.2 r19.2) r20.2) (.pair (.int .i64) (.hnd (.int .i64)))) r20.1) (hhide (hmerge (hmerge r17.2 r19.2) r20.2))) fun r21 =>
                          bif (hok (hmerge (hmerge (hmerge r17.2 r19.2) r20.2) r21.2) (.int .i64) r21.1.1.1.2) && (List.all r21.1.1.2 (Ty.unok (hmerge (hmerge (hmerge r17.2 r19.2) r20.2) r21.2) (.pair (.int .i64) (.hnd (.int .i64))))) then
                          bindO (laws_eqPipe.F N (((r21.1.1.1.1, hcut (hmerge (hmerge (hmerge r17.2 r19.2) r20.2) r21.2) (.int .i64) r21.1.1.1.2), List.map (Ty.unden (hmerge (hmerge (hmerge r17.2 r19.2) r20.2) r21.2) (.pair (.int .i64) (.hnd (.int .i64)))) r21.1.1.2), r5.1)) fun r22 =>
                          bif !r22 then
                            some false
                          else
                            bif r21.1.2 != r5.2 then
                              some false
                            else
                              bif (hok (hmerge (hmerge (hmerge r17.2 r19.2) r20.2) r21.2) (.int .i64) r8.1.1.1.2) && (List.all r17.1.2 (Ty.unok (hmerge (hmerge (hmerge r17.2 r19.2) r20.2) r21.2) (.pair (.int .i64) (.hnd (.int .i64))))) then
                              bindO (laws_heldPipe.F N (((r8.1.1.1.1, hcut (hmerge (hmerge (hmerge r17.2 r19.2) r20.2) r21.2) (.int .i64) r8.1.1.1.2), List.map (Ty.unden (hmerge (hmerge (hmerge r17.2 r19.2) r20.2) r21.2) (.pair (.int .i64) (.hnd (.int .i64)))) r17.1.2), (1 : Int))) fun r23 =>
                              bif decide (r23 < (0 : Int)) then
                                some false
                              else
                                bif r23 != r17.1.1 then
                                  some false
                                else
                                  some true
                              else none
                          else none
                          else none
                      else none
                  else none
              else none
            else none
        else none
        else none
        else none) = some true := by
  have bb : (V.2 != V.2) = false := by rw [bneI, decide_eq_true rfl]; rfl
  have hpp : ((p.1.1, p.1.2), p.2) = p := rfl
  have hvv : ((V.1.1.1, V.1.1.2), V.1.2) = V.1 := rfl
  obtain ⟨a2, A2, D2, e2, p2, o2⟩ := (hT (hhide [])).call
  rw [e2, bindV]
  dsimp only
  generalize hmerge [] D2 = M2 at *
  obtain ⟨A3, D3, e3, p3, o3⟩ := hU M2
  rw [e3, bindV]
  dsimp only
  generalize hmerge M2 D3 = M3 at *
  have x2 := o2.more p3
  rw [x2.hdok, x2.tail.unok, o3.unok, Bool.and_self, Bool.and_self, condT, x2.hdcut, x2.hd1, x2.tail.un, o3.un, hpp, hS, bindV]
  obtain ⟨a4, A4, D4, e4, p4, o4⟩ := (hT (hhide M3)).call
  rw [e4, bindV]
  dsimp only
  generalize hmerge M3 D4 = M4 at *
  obtain ⟨A6, D6, e6, p6, o6⟩ := hU M4
  rw [e6, bindV]
  dsimp only
  generalize hmerge M4 D6 = M6 at *
  have x4 := o4.more p6
  rw [x4.hdok, x4.tail.unok, o6.unok, Bool.and_self, Bool.and_self, condT, x4.hdcut, x4.hd1, x4.tail.un, o6.un, hpp]
  obtain ⟨a5, A5, D5, e5, p5, o5⟩ := (hG (hhide M6)).call
  rw [e5, bindV]
  dsimp only
  generalize hmerge M6 D5 = M5 at *
  rw [o5.hdok, o5.tail.unok, Bool.and_self, condT, o5.hdcut, o5.hd1, o5.tail.un, hvv, eqPipe_self N hN V.1 hV, bindV, notT, condF, bb, condF]
  obtain ⟨a7, A7, D7, e7, p7, o7⟩ := (hT (hhide M5)).call
  rw [e7, bindV]
  dsimp only
  generalize hmerge M5 D7 = M7 at *
  have b4 := (x4.more p5).more p7
  have b5 := o5.more p7
  have b6 := (o6.more p5).more p7
  rw [b4.hdok, b4.tail.unok, o7.hdok, o7.tail.unok, Bool.and_self, Bool.and_self, Bool.and_self, condT, b4.hdcut, b4.tail.un, o7.hdcut, o7.hd1, o7.tail.un, hpp, eqPipe_self N hN p hp, bindV, notT, condF]
  obtain ⟨A8, D8, e8, p8, o8⟩ := hU M7
  rw [e8, bindV]
  dsimp only
  generalize hmerge M7 D8 = M8 at *
  have c4 := b4.more p8
  have c5 := b5.more p8
  have c6 := b6.more p8
  rw [c6.unok, o8.unok, Bool.and_self, condT, c6.un, o8.un, eqReportS_eq N hN q q hq, bindV, decide_eq_true rfl, notT, condF]
  obtain ⟨k1, A9, v9, D9, m1, m2, m2b, m3, m4, m5⟩ := markPipe_eq N hN c4 hp
  rw [m1, bindV]
  dsimp only
  have l4 := p4.length_le
  have l6 := p6.length_le
  have l5 := p5.length_le
  have d5 := c5.apart m3 (Or.inr l6)
  have d6 := c6.apart m3 (Or.inr (Nat.le_refl _))
  have hq1 := hq.1
  obtain ⟨k3, A10, V10, D10, u1, u2, u3, u4, u5, u6, u7, u8, u9⟩ := markRS_L1 N hN M4.length M6.length N 0 k1 A6 q D9 hq (by omega) (by omega) m2 (by omega) d6
  rw [laws_markReportS.H_eq, show (0 : Int) = ((0 : Nat) : Int) from rfl, u1, bindV, show ((0 : Nat) : Int) = 0 from rfl, decide_eq_false (by show ¬ k3 < 0; omega), condF]
  dsimp only
  have f5 := d5.apart u2 (Or.inr (Nat.le_refl _))
  rw [f5.hdok, f5.tail.unok, Bool.and_self, condT, f5.hdcut, f5.tail.un, hvv, eqPipe_self N hN V.1 hV, bindV, notT, condF, condF]
  obtain ⟨k2, A11, v11, D11, n1, n2, n2b, n3, n4, n5⟩ := markPipe_eq N hN f5 hV
  have e1v : v11.1.1 = V.1.1.1 := by rw [← n4.hd1, f5.hd1]
  have v11e : ((V.1.1.1, v11.1.2), v11.2) = v11 := by rw [← e1v]
  rw [n1, bindV]
  dsimp only
  rw [n4.hdok, n4.tail.unok, Bool.and_self, condT, n4.hdcut, n4.tail.un, v11e, n5, bindV, decide_eq_false (by omega), condF, bneI, decide_eq_true rfl, notT, condF]
  obtain ⟨a13, A13, D13, e13, p13, o13⟩ := (hT (hhide D11)).call
  rw [e13, bindV]
  dsimp only
  generalize hmerge D11 D13 = M13 at *
  obtain ⟨A15, D15, e15, p15, o15⟩ := hU M13
  rw [e15, bindV]
  dsimp only
  generalize hmerge M13 D15 = M15 at *
  have x13 := o13.more p15
  rw [x13.hdok, x13.tail.unok, o15.unok, Bool.and_self, Bool.and_self, condT, x13.hdcut, x13.hd1, x13.tail.un, o15.un, hpp]
  obtain ⟨a14, A14, D14, e14, p14, o14⟩ := (hG (hhide M15)).call
  rw [e14, bindV]
  dsimp only
  generalize hmerge M15 D14 = M14 at *
  have g5 := ((n4.more p13).more p15).more p14
  rw [o14.hdok, o14.tail.unok, Bool.and_self, condT, o14.hdcut, o14.hd1, o14.tail.un, hvv, eqPipe_self N hN V.1 hV, bindV, notT, condF, bb, condF,
    g5.hdok, g5.tail.unok, Bool.and_self, condT, g5.hdcut, g5.tail.un, v11e, n5, bindV, decide_eq_false (by omega), condF, bneI, decide_eq_true rfl, notT, condF]

theorem FnExactPushAll_true (p : Pp) (q : List Rpt) (h : wellP p) (hq : q.length ≤ maxLen ∧ ∀ x ∈ q, x.2.length ≤ maxLen) : laws_FnExactPushAll.F 2000000 (p, q) = some true := by
  rw [laws_FnExactPushAll.F_eq]
  obtain ⟨r, e, r0, r1, hr⟩ := szPipe_eq 2000000 (by omega) p h
  rw [e, bindV]
  by_cases h0 : r < 0
  · rw [decide_eq_true h0, condT]
  have hs := hr (by omega)
  rw [decide_eq_false h0, condF]
  obtain ⟨r', e', q0, q1, hr'⟩ := szReportS_eq 2000000 (by omega) q r hq (by omega) r1
  rw [e', bindV]
  by_cases h1 : r' < 0
  · rw [decide_eq_true h1, condT]
  have hs' := hr' (by omega)
  rw [decide_eq_false h1, condF]
  exact ExactAll 2000000 (by omega) p hs q hs' (pushL p 0 q) (pushL_small q p 0 hs hs'.2) (laws_toPipeh.H 2000000 p) (laws_toReportSh.H 2000000 q) (fun x => spec_PushAll.F 2000000 x) (fun x D => impl_PushAll.H 2000000 x D)
    (toPipeh_eq 2000000 (by omega) p hs) (toReportSh_call 2000000 (by omega) q hs') (AllS 2000000 (by omega) p q hs hs') (AllI 2000000 (by omega) p q hs hs')
end Go.Kb
