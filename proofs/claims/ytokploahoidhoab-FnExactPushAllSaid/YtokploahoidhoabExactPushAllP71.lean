/- Pipes: marking them; taking a report; the exact row of TakeReport. -/
import Derived.Test.YtokploahoidhoabExactPushAllP70
namespace Go.Kb
set_option maxRecDepth 100000

theorem markPipe_eq (N : Nat) (hN : 1048576 < N) {a : RH} {A : List RH} {v : Pp} {lo hi : Nat} {D : List HRow} (o : OwnR D lo hi (a :: A) (v.1 :: v.2)) (h : smallP v) :
    ∃ k A' v' D', laws_markPipe.H N ((a, A), 1) D = some ((k, A'), D') ∧ 0 ≤ k ∧ k ≤ 1152921504606846976 ∧ Fr lo hi D D' ∧ OwnR D' lo hi (a :: A') (v'.1 :: v'.2) ∧ laws_heldPipe.F N (v', 1) = some k := by
  have hal := h.2.1
  have h1 : v.1.2.length ≤ 1048576 := h.1
  obtain ⟨o1, o2⟩ := o
  have od := o2
  rw [List.map_cons, List.map_cons] at o1 od
  obtain ⟨of1, of2⟩ := List.cons.inj o1
  obtain ⟨g1, g2⟩ := od.headGone
  obtain ⟨c1, r1, m1, m2, m3, m4, m5⟩ := marksI_eq N v.1.2 1 (by omega) (by unfold maxN; omega) (by omega) (by omega)
  obtain ⟨c', A', V', D', e1, e2, e3, e3b, e4, e5, e6, e7, e8⟩ := markRS_L1 N hN lo hi N 0 c1 A v.2 (hgone D a.2) h.2 (by omega) (by omega) (by omega) (by omega) ⟨of2, g1⟩
  obtain ⟨e3f, e3o⟩ := e3
  rw [e3b] at e3o
  obtain ⟨p1, p2⟩ := Own.headPut (u := .int .i64) (v' := r1) od e3o (by rw [e2.1, g2.1]) m5
  have full : hfull D 2 (.int .i64) a.2 = true := od.full (i := 0) (by simp)
  have cut : hcut D (.int .i64) a.2 = v.1.2 := od.cut (i := 0) (by simp)
  refine ⟨c', A', ((v.1.1, r1), V'), hput D' a.2 2 (.int .i64) r1, ?_, by omega, by omega, (g2.trans e2).trans p2, ⟨?_, ?_⟩, ?_⟩
  · rw [laws_markPipe.H_eq]
    dsimp only
    rw [full, condT, cut, laws_markReport.F_eq]
    dsimp only
    rw [m1, bindV]
    simp only [bindV]
    rw [laws_markReportS.H_eq, show (0 : Int) = ((0 : Nat) : Int) from rfl, e1, bindV]
  · rw [List.map_cons, List.map_cons, of1, e3f]
  · rw [List.map_cons, List.map_cons, e3b]; exact p1
  · rw [laws_heldPipe.F_eq, laws_heldReport.F_eq]
    dsimp only
    rw [m4, bindV, decide_eq_false (by omega), condF, bindV, decide_eq_false (by omega), condF, laws_heldReportS.F_eq, show laws_heldReportS.L1 N N V' c1 0 = _ from e8, bindV, decide_eq_false (by omega), condF]

theorem eqPipe_self (N : Nat) (hN : 1048576 < N) (p : Pp) (h : smallP p) : laws_eqPipe.F N (p, p) = some true := by
  rw [laws_eqPipe.F_eq, eqReport_eq N hN _ _ h.1, bindV, decide_eq_true rfl, notT, condF, eqReportS_eq N hN _ _ h.2, bindV, decide_eq_true rfl, notT, condF]

theorem PpOutB.no {β : Type} {D D' : List HRow} {b : β} (h : D <+: D') : PpOutB (some (((((0 : Int), (none : Hnd)), ([] : List RH)), b), D')) D (zeroP, b) := ⟨_, [], D', rfl, h, ownR_zero⟩

def wellP (p : Pp) : Prop := p.1.2.length ≤ maxLen ∧ p.2.length ≤ maxLen ∧ ∀ x ∈ p.2, x.2.length ≤ maxLen
theorem szPipe_eq (N : Nat) (hN : 1048576 < N) (p : Pp) (h : wellP p) : ∃ r, laws_szPipe.F N (p, 1048576) = some r ∧ -1 ≤ r ∧ r ≤ 1048576 ∧ (0 ≤ r → smallP p) := by
  rw [laws_szPipe.F_eq]
  obtain ⟨r, e, r0, r1, r2⟩ := szReport_eq N p.1 1048576 h.1 (by omega) (by omega)
  rw [e, bindV]
  by_cases hr : r < 0
  · rw [decide_eq_true hr, condT]; exact ⟨_, rfl, by omega, by omega, fun h => by omega⟩
  rw [decide_eq_false hr, condF]
  obtain ⟨q, e', q0, q1, q2⟩ := szReportS_eq N hN p.2 r h.2 (by omega) r1
  rw [e', bindV]
  by_cases hq : q < 0
  · rw [decide_eq_true hq, condT]; exact ⟨_, rfl, by omega, by omega, fun h => by omega⟩
  rw [decide_eq_false hq, condF]
  exact ⟨_, rfl, by omega, by omega, fun h => ⟨r2 (by omega), q2 h⟩⟩

end Go.Kb
