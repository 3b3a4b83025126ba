/- The law of an exact function that gives back a flash and a yes or no. -/
import Derived.Test.YtokploahoidhoaaExactWriteSettingP62
namespace Go.Kb
set_option maxRecDepth 100000

theorem Own.un2 {D : List HRow} {lo hi : Nat} {hs : List Hnd} {vs : List (List Int)} (h : Own (u := .int .i64) 2 D lo hi hs vs) : (List.map (Ty.unden D (.hnd (.int .i64))) hs : List (List Int)) = vs := h.unden
theorem ExactFl (N : Nat) (hN : 1048576 < N) (f : Fl) (hf : smallF f) (V : Fl × Bool) (hV : smallF V.1)
    (T : List HRow → Option (((List Hnd) × List Int) × List HRow)) (S G : Fl → List HRow → Option ((((List Hnd) × List Int) × Bool) × List HRow))
    (hT : ∀ D, FlOut (T D) D f) (hS : ∀ D, FlOutB (S f D) D V) (hG : ∀ D, FlOutB (G f D) D V) :
    (bindO (T (hhide ([] : List HRow))) fun r2 =>
      bif List.all r2.1.1 (Ty.unok (hmerge ([] : List HRow) r2.2) (.hnd (.int .i64))) then
      bindO (S (List.map (Ty.unden (hmerge ([] : List HRow) r2.2) (.hnd (.int .i64))) r2.1.1, r2.1.2) (hhide (hmerge ([] : List HRow) r2.2))) fun r4 =>
      bindO (T (hhide (hmerge (hmerge ([] : List HRow) r2.2) r4.2))) fun r5 =>
      bif List.all r5.1.1 (Ty.unok (hmerge (hmerge (hmerge ([] : List HRow) r2.2) r4.2) r5.2) (.hnd (.int .i64))) then
      bindO (G (List.map (Ty.unden (hmerge (hmerge (hmerge ([] : List HRow) r2.2) r4.2) r5.2) (.hnd (.int .i64))) r5.1.1, r5.1.2) (hhide (hmerge (hmerge (hmerge ([] : List HRow) r2.2) r4.2) r5.2))) fun r7 =>
      bif (List.all r7.1.1.1 (Ty.unok (hmerge (hmerge (hmerge (hmerge ([] : List HRow) r2.2) r4.2) r5.2) r7.2) (.hnd (.int .i64)))) && (List.all r4.1.1.1 (Ty.unok (hmerge (hmerge (hmerge (hmerge ([] : List HRow) r2.2) r4.2) r5.2) r7.2) (.hnd (.int .i64)))) then
      bindO (laws_eqFlash.F N ((List.map (Ty.unden (hmerge (hmerge (hmerge (hmerge ([] : List HRow) r2.2) r4.2) r5.2) r7.2) (.hnd (.int .i64))) r7.1.1.1, r7.1.1.2), (List.map (Ty.unden (hmerge (hmerge (hmerge (hmerge ([] : List HRow) r2.2) r4.2) r5.2) r7.2) (.hnd (.int .i64))) r4.1.1.1, r4.1.1.2))) fun r8 =>
      bif !r8 then
        some false
      else
        bif r7.1.2 != r4.1.2 then
          some false
        else
          bindO (T (hhide (hmerge (hmerge (hmerge (hmerge ([] : List HRow) r2.2) r4.2) r5.2) r7.2))) fun r9 =>
          bif (List.all r5.1.1 (Ty.unok (hmerge (hmerge (hmerge (hmerge (hmerge ([] : List HRow) r2.2) r4.2) r5.2) r7.2) r9.2) (.hnd (.int .i64)))) && (List.all r9.1.1 (Ty.unok (hmerge (hmerge (hmerge (hmerge (hmerge ([] : List HRow) r2.2) r4.2) r5.2) r7.2) r9.2) (.hnd (.int .i64)))) then
          bindO (laws_eqFlash.F N ((List.map (Ty.unden (hmerge (hmerge (hmerge (hmerge (hmerge ([] : List HRow) r2.2) r4.2) r5.2) r7.2) r9.2) (.hnd (.int .i64))) r5.1.1, r5.1.2), (List.map (Ty.unden (hmerge (hmerge (hmerge (hmerge (hmerge ([] : List HRow) r2.2) r4.2) r5.2) r7.2) r9.2) (.hnd (.int .i64))) r9.1.1, r9.1.2))) fun r10 =>
          bif !r10 then
            some false
          else
            bindO (laws_markFlash.H N (r5.1, (1 : Int)) (hmerge (hmerge (hmerge (hmerge (hmerge ([] : List HRow) r2.2) r4.2) r5.2) r7.2) r9.2)) fun r11 =>
            bif decide (r11.1.1 < (0 : Int)) then
              some false
            else
              bif (List.all r7.1.1.1 (Ty.unok r11.2 (.hnd (.int .i64)))) && (List.all r4.1.1.1 (Ty.unok r11.2 (.hnd (.int .i64)))) then
              bindO (laws_eqFlash.F N ((List.map (Ty.unden r11.2 (.hnd (.int .i64))) r7.1.1.1, r7.1.1.2), (List.map (Ty.unden r11.2 (.hnd (.int .i64))) r4.1.1.1, r4.1.1.2))) fun r12 =>
              bif !r12 then
                some false
              else
                bif r7.1.2 != r4.1.2 then
                  some false
                else
                  bindO (laws_markFlash.H N (r7.1.1, (1 : Int)) r11.2) fun r13 =>
                  bif List.all r7.1.1.1 (Ty.unok r13.2 (.hnd (.int .i64))) then
                  bindO (laws_heldFlash.F N ((List.map (Ty.unden r13.2 (.hnd (.int .i64))) r7.1.1.1, r13.1.2), (1 : Int))) fun r14 =>
                  bif decide (r14 < (0 : Int)) then
                    some false
                  else
                    bif r14 != r13.1.1 then
                      some false
                    else
                      bindO (T (hhide r13.2)) fun r15 =>
                      bif List.all r15.1.1 (Ty.unok (hmerge r13.2 r15.2) (.hnd (.int .i64))) then
                      bindO (G (List.map (Ty.unden (hmerge r13.2 r15.2) (.hnd (.int .i64))) r15.1.1, r15.1.2) (hhide (hmerge r13.2 r15.2))) fun r17 =>
                      bif (List.all r17.1.1.1 (Ty.unok (hmerge (hmerge r13.2 r15.2) r17.2) (.hnd (.int .i64)))) && (List.all r4.1.1.1 (Ty.unok (hmerge (hmerge r13.2 r15.2) r17.2) (.hnd (.int .i64)))) then
                      bindO (laws_eqFlash.F N ((List.map (Ty.unden (hmerge (hmerge r13.2 r15.2) r17.2) (.hnd (.int .i64))) r17.1.1.1, r17.1.1.2), (List.map (Ty.unden (hmerge (hmerge r13.2 r15.2) r17.2) (.hnd (.int .i64))) r4.1.1.1, r4.1.1.2))) fun r18 =>
                      bif !r18 then
                        some false
                      else
                        bif r17.1.2 != r4.1.2 then
                          some false
                        else
                          bif List.all r7.1.1.1 (Ty.unok (hmerge (hmerge r13.2 r15.2) r17.2) (.hnd (.int .i64))) then
                          bindO (laws_heldFlash.F N ((List.map (Ty.unden (hmerge (hmerge r13.2 r15.2) r17.2) (.hnd (.int .i64))) r7.1.1.1, r13.1.2), (1 : Int))) fun r19 =>
                          bif decide (r19 < (0 : Int)) then
                            some false
                          else
                            bif r19 != r13.1.1 then
                              some false
                            else
                              some true
                          else none
                      else none
                      else none
                  else none
              else none
          else none
      else none
      else none
      else none) = some true := by
  have bb : (V.2 != V.2) = false := by cases V.2 <;> rfl
  obtain ⟨h2, D2, e2, p2, o2⟩ := (hT (hhide [])).call
  rw [e2, bindV]
  dsimp only
  generalize hmerge [] D2 = M2 at *
  rw [o2.unok, condT, o2.un2]
  obtain ⟨h4, D4, e4, p4, o4⟩ := (hS (hhide M2)).call
  rw [e4, bindV]
  dsimp only
  generalize hmerge M2 D4 = M4 at *
  obtain ⟨h5, D5, e5, p5, o5⟩ := (hT (hhide M4)).call
  rw [e5, bindV]
  dsimp only
  generalize hmerge M4 D5 = M5 at *
  rw [o5.unok, condT, o5.un2]
  obtain ⟨h7, D7, e7, p7, o7⟩ := (hG (hhide M5)).call
  rw [e7, bindV]
  dsimp only
  generalize hmerge M5 D7 = M7 at *
  have a4 := (o4.more p5).more p7
  have a5 := o5.more p7
  rw [o7.unok, a4.unok, Bool.and_self, condT, o7.un2, a4.un2, eqFlash_self N hN V.1 hV, bindV, notT, condF, bb, condF]
  obtain ⟨h9, D9, e9, p9, o9⟩ := (hT (hhide M7)).call
  rw [e9, bindV]
  dsimp only
  generalize hmerge M7 D9 = M9 at *
  have b4 := a4.more p9
  have b5 := a5.more p9
  have b7 := o7.more p9
  rw [b5.unok, o9.unok, Bool.and_self, condT, b5.un2, o9.un2, eqFlash_self N hN f hf, bindV, notT, condF]
  obtain ⟨k1, c1, v1, D11, m1, m2, m3, m4, m5⟩ := markFlash_eq N hN b5 (c := f.2) hf
  rw [m1, bindV, decide_eq_false (by show ¬ k1 < 0; omega), condF]
  dsimp only
  have l45 := p4.length_le
  have l5 := p5.length_le
  have l7 := p7.length_le
  have d4 := b4.apart m3 (Or.inl (Nat.le_refl _))
  have d7 := b7.apart m3 (Or.inr (Nat.le_refl _))
  rw [d7.unok, d4.unok, Bool.and_self, condT, d7.un2, d4.un2, eqFlash_self N hN V.1 hV, bindV, notT, condF, condF]
  obtain ⟨k2, c2, v2, D13, n1, n2, n3, n4, n5⟩ := markFlash_eq N hN d7 (c := V.1.2) hV
  rw [n1, bindV]
  dsimp only
  have f4 := d4.apart n3 (Or.inl l5)
  rw [n4.unok, condT, n4.un2, n5, bindV, decide_eq_false (by omega), condF, bneI, decide_eq_true rfl, notT, condF]
  obtain ⟨h15, D15, e15, p15, o15⟩ := (hT (hhide D13)).call
  rw [e15, bindV]
  dsimp only
  generalize hmerge D13 D15 = M15 at *
  rw [o15.unok, condT, o15.un2]
  obtain ⟨h17, D17, e17, p17, o17⟩ := (hG (hhide M15)).call
  rw [e17, bindV]
  dsimp only
  generalize hmerge M15 D17 = M17 at *
  have g4 := (f4.more p15).more p17
  have g7 := (n4.more p15).more p17
  rw [o17.unok, g4.unok, Bool.and_self, condT, o17.un2, g4.un2, eqFlash_self N hN V.1 hV, bindV, notT, condF, bb, condF, g7.unok, condT, g7.un2, n5, bindV, decide_eq_false (by omega), condF, bneI, decide_eq_true rfl, notT, condF]
end Go.Kb
