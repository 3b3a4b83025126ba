/- A step, and all steps, keep the state right. -/
import Derived.Test.YtnoifcpgionjkaaCombinedP33
namespace Go.Kb

structure stepPost (s s' : Sc) (l : List Cb) (now : Int) (h : Nat) (o : List Ev) : Prop where
  st : ∃ (h' : Nat) (t' : Int), okS l s' h' ∧ fol 24 h' t' s'.q ∧ 0 ≤ t' ∧ hA h' s'.q = hA h s.q
  ck : s.ck ≤ s'.ck ∧ s'.ck ≤ now
  out : outS s s' o

theorem step_ok {l : List Cb} (hl : okL l) {term now : Int} (hn : now ≤ 1000000) {s : Sc} {h : Nat} (hs : okS l s h) {t : Int} (ht : 0 ≤ t) (hq : fol 24 h t s.q) (hqn : ∀ e ∈ s.q, e.1 ≤ now) (hck : s.ck ≤ now)
    {o : List Ev} {s' : Sc} (hst : stepC l term now s = some (o, s')) : stepPost s s' l now h o := by
  obtain ⟨q, ck, dn, ac⟩ := s
  obtain ⟨⟨d, hd1, hd2, hd3⟩, hnd⟩ := hs
  simp only [] at hd1 hd3 hnd hq hqn hck
  subst hd1
  cases q with
  | nil => simp [stepC] at hst
  | cons e r =>
    have hsw := fol_sw (e :: r) h t ht hq
    have hall := hq
    obtain ⟨h1, h2, k, h3, h4, h5, h6⟩ := hq
    have hen := hqn e (by simp)
    have hhl := AOk_lt hd2 hd3
    have hpos := act_pos hl hd3
    have hpos0 : ∀ a ∈ ac, 0 ≤ a.1 := fun a ha => by have := hpos a ha; omega
    have hob : oHs ⟨e :: r, ck, (d : Int), ac⟩ = oH d ac := by simp only [oHs, Int.toNat_natCast]
    have hk0 := any_out hl hd3 h3
    obtain ⟨m1, m2, m3⟩ := maxI_ge ck e.1
    simp only [stepC] at hst
    cases hd : e.2.2 with
    | false =>
      rw [hd] at hst h5
      simp only [Bool.not_false, cond_true, h4] at hst
      have hkh : h.testBit k = true := by cases hh : h.testBit k with | true => rfl | false => rw [hh] at h5; cases h5
      rw [xor_clr hkh] at h6
      have hu := up_ok hl h3 (maxI ck e.1) hd2 hd3 hnd
      have hAe : hA h (e :: r) = hA (clr h k) r := by simp only [hA, List.foldl_cons, h4, Int.toNat_natCast, xor_clr hkh]
      cases hg : upGo (k : Int) (maxI ck e.1) ac with
      | none =>
        rw [hg] at hst hu
        simp only [Option.some.injEq, Prod.mk.injEq] at hst
        obtain ⟨rfl, rfl⟩ := hst
        simp only [] at hu
        have hdk : d.testBit k = true := by rw [← hu]; exact hkh
        have hcd := clrI (h := d) (k := k) (by omega) (by omega)
        have hbit : (oH d ac).testBit k = true := by rw [oH_bit ac d k hpos0, hdk]; rfl
        have hend : oH d ac ^^^ 2 ^ k = oH (clr d k) ac := by
          rw [xor_clr hbit]
          apply Nat.eq_of_testBit_eq; intro i
          rw [clr_bit, oH_bit ac d i hpos0, oH_bit ac (clr d k) i hpos0, clr_bit]
          by_cases hi : k = i
          · subst hi; rw [hk0]; simp
          · simp [hi]
        obtain ⟨o1, o2⟩ := one_out (b := false) m1 (show maxI ck e.1 ≤ 1000000 by omega) (show k < 32 by omega) (by rw [hbit]; rfl) hend
        refine ⟨⟨clr h k, e.1, ⟨⟨clr d k, hcd, Nat.lt_of_le_of_lt (clr_le d k) hd2, AOk_clr hd3 hdk⟩, hnd⟩, h6, by omega, hAe.symm⟩, ⟨m1, by simp only []; omega⟩, ?_⟩
        refine ⟨by rw [hob]; exact o1, ?_, fun x hx => by simp at hx; rw [hx]; simp⟩
        rw [hob, o2]
        simp only [oHs, hcd, Int.toNat_natCast]
      | some p =>
        obtain ⟨o1, ac1⟩ := p
        rw [hg] at hst hu
        simp only [Option.some.injEq, Prod.mk.injEq] at hst
        obtain ⟨rfl, rfl⟩ := hst
        obtain ⟨u1, u2, u3, u4⟩ := hu
        have hpos1 : ∀ a ∈ ac1, 0 ≤ a.1 := by
          intro a ha
          have : a.1 ∈ ac.map (·.1) := u3.subset (List.mem_map.2 ⟨a, ha, rfl⟩)
          obtain ⟨b, hb, hba⟩ := List.mem_map.1 this
          rw [← hba]; exact hpos0 b hb
        refine ⟨⟨clr h k, e.1, ⟨⟨d, rfl, hd2, u2⟩, u3.nodup hnd⟩, h6, by omega, hAe.symm⟩, ⟨m1, by simp only []; omega⟩, ?_⟩
        rcases u4 with ⟨rfl, g⟩ | ⟨p, p1, p2, rfl, p3, p4⟩
        · refine ⟨trivial, ?_, fun x hx => by cases hx⟩
          simp only [hA, List.foldl_nil, oHs, Int.toNat_natCast]
          apply Nat.eq_of_testBit_eq; intro i
          rw [oH_bit ac d i hpos0, oH_bit ac1 d i hpos1, g i]
        · have hbit : (oH d ac).testBit p = true := by rw [oH_bit ac d p hpos0, p3, Bool.or_true]
          have hend : oH d ac ^^^ 2 ^ p = oH d ac1 := by
            rw [xor_clr hbit]
            apply Nat.eq_of_testBit_eq; intro i
            rw [clr_bit, oH_bit ac d i hpos0, oH_bit ac1 d i hpos1, p4 i]
            by_cases hi : p = i
            · subst hi
              rw [bit24 hd2 p1]; simp
            · simp [hi]
          obtain ⟨q1, q2⟩ := one_out (b := false) m1 (show maxI ck e.1 ≤ 1000000 by omega) (show p < 32 by omega) (by rw [hbit]; rfl) hend
          refine ⟨by rw [hob]; exact q1, ?_, fun x hx => by simp at hx; rw [hx]; simp⟩
          rw [hob, q2]
          simp only [oHs, Int.toNat_natCast]
    | true =>
      rw [hd] at hst h5
      have hkh : h.testBit k = false := by cases hh : h.testBit k with | false => rfl | true => rw [hh] at h5; cases h5
      simp only [Bool.not_true, cond_false] at hst
      have hdk : d.testBit k = false := by cases hh : d.testBit k with | false => rfl | true => rw [AOk_sub hd3 k hh] at hkh; cases hkh
      -- what has been decided
      have hm : (mtc l term now (e :: r)).1 = 0 ∨ ((mtc l term now (e :: r)).1 = 1 ∧ (mtc l term now (e :: r)).2.2 = -1 ∧ (mtc l term now (e :: r)).2.1 ≤ now) ∨
          (0 ≤ (mtc l term now (e :: r)).2.2 ∧ (mtc l term now (e :: r)).2.1 ≤ now ∧ ∃ j, j ≤ r.length ∧ (mtc l term now (e :: r)).1 = 1 + (j : Int) ∧ (∀ x ∈ r.take j, x.2.2 = true) ∧ (whl l (setN (2 ^ k) (r.take j) : Int)).1 = (mtc l term now (e :: r)).2.2) := by
        have hse := hsw e (by simp)
        have hbk : bitK e.2.1 = ((2 ^ k : Nat) : Int) := by rw [h4]; exact bitK_nat (by omega)
        have g := mgo_spec l now (IntKind.wrap .i64 (e.1 + term)) r (2 ^ k) 1 (pow_lt24 h3) fun x hx => ⟨hsw x (List.mem_cons_of_mem e hx), hqn x (List.mem_cons_of_mem e hx)⟩
        simp only [mtc, hse, hd, Bool.not_true, cond_false, hbk]
        cases win l ((2 ^ k : Nat) : Int) with
        | false => simp only [Bool.not_false, cond_true]; right; left; exact ⟨trivial, trivial, hen⟩
        | true =>
          simp only [Bool.not_true, cond_false]
          rcases g with g | g | g
          · exact .inl g.1
          · exact .inr (.inl g)
          · exact .inr (.inr g)
      generalize mtc l term now (e :: r) = R at hst hm
      obtain ⟨n, at_, x⟩ := R
      simp only [] at hst hm
      obtain ⟨a1, a2, a3⟩ := maxI_ge (maxI ck e.1) at_
      rcases hm with hm | ⟨hm1, hm2, hm3⟩ | ⟨hm1, hm2, j, hm3, hm4, hm5, hm6⟩
      · subst hm
        rw [show ((0 : Int) == 0) = true from rfl, cond_true] at hst; cases hst
      · subst hm1; subst hm2
        rw [show ((1 : Int) == 0) = false from rfl, cond_false, show decide ((-1 : Int) < 0) = true from rfl, cond_true] at hst
        simp only [Option.some.injEq, Prod.mk.injEq] at hst
        obtain ⟨rfl, rfl⟩ := hst
        rw [xor_or hkh] at h6
        have hod := orI (h := d) (k := k) (by omega) (by omega)
        rw [← h4] at hod
        have hAe : hA h (e :: r) = hA (h ||| 2 ^ k) r := by simp only [hA, List.foldl_cons, h4, Int.toNat_natCast, xor_or hkh]
        have hbit : (oH d ac).testBit k = false := by rw [oH_bit ac d k hpos0, hdk, hk0]; rfl
        have hend : oH d ac ^^^ 2 ^ k = oH (d ||| 2 ^ k) ac := by
          rw [xor_or hbit]
          apply Nat.eq_of_testBit_eq; intro i
          rw [or_bit, oH_bit ac d i hpos0, oH_bit ac (d ||| 2 ^ k) i hpos0, or_bit]
          cases d.testBit i <;> cases decide (k = i) <;> simp
        obtain ⟨o1, o2⟩ := one_out (b := true) (show ck ≤ maxI (maxI ck e.1) at_ by omega) (show maxI (maxI ck e.1) at_ ≤ 1000000 by omega) (show k < 32 by omega) (by rw [hbit]; rfl) hend
        refine ⟨⟨h ||| 2 ^ k, e.1, ⟨⟨d ||| 2 ^ k, hod, or_lt24 hd2 (pow_lt24 h3), AOk_or hd3 hkh⟩, hnd⟩, h6, by omega, hAe.symm⟩, ⟨by simp only []; omega, by simp only []; omega⟩, ?_⟩
        refine ⟨by rw [hob, h4]; exact o1, ?_, fun x hx => by simp at hx; rw [hx]; simp⟩
        rw [hob, h4, o2]
        rw [h4] at hod
        simp only [oHs, h4, hod, Int.toNat_natCast]
      · have hn1 : (n == 0) = false := by rw [beqI]; exact decide_eq_false (by omega)
        have hx1 : decide (x < 0) = false := decide_eq_false (by omega)
        rw [hn1, cond_false, hx1, cond_false] at hst
        simp only [Option.some.injEq, Prod.mk.injEq] at hst
        obtain ⟨rfl, rfl⟩ := hst
        have htk : n.toNat = j + 1 := by omega
        have hsplit : (e :: r).take (j + 1) ++ (e :: r).drop (j + 1) = e :: r := List.take_append_drop _ _
        rw [← hsplit, fol_append] at hall
        obtain ⟨f1, f2⟩ := hall
        have hdn : ∀ y ∈ (e :: r).take (j + 1), y.2.2 = true := by
          intro y hy
          rw [List.take_succ_cons] at hy
          rcases List.mem_cons.1 hy with rfl | hy
          · exact hd
          · exact hm5 y hy
        obtain ⟨f3, f4⟩ := fol_downs _ h t f1 hdn
        have hS : setN 0 ((e :: r).take (j + 1)) = setN (2 ^ k) (r.take j) := by
          rw [List.take_succ_cons]
          show setN (0 ||| 2 ^ e.2.1.toNat) _ = _
          rw [h4, Int.toNat_natCast, Nat.zero_or]
        rw [hS] at f3 f4
        obtain ⟨c, c1, c2, c3⟩ := whl_mem l _ x hm1 hm6
        obtain ⟨cm, c4, c5, c6, c7, c8⟩ := hl.2.1 c c1
        have hSl := setN_lt (r.take j) (2 ^ k) (pow_lt24 h3) (fun y hy => hsw y (List.mem_cons_of_mem e (List.mem_of_mem_take hy)))
        have hkey : keysOf l x = (setN (2 ^ k) (r.take j) : Int) := by rw [← c3, keysOf_mem hl.2.2 c c1, c2]
        generalize setN (2 ^ k) (r.take j) = S at *
        have hS0 : S ≠ 0 := by omega
        have hmem : ((S : Int), x) ∈ l := by
          have : c = ((S : Int), x) := by rw [← c2, ← c3]
          rw [← this]; exact c1
        have hnew : x ∉ ac.map (·.1) := by
          intro hx
          obtain ⟨a, ha, hax⟩ := List.mem_map.1 hx
          obtain ⟨m, K, b1, b2, b3, b4, b5, b6⟩ := AOk_mem hd3 a ha
          have hax : a.1 = x := hax
          have hK : (K : Int) = (S : Int) := by
            have e1 := keysOf_mem hl.2.2 _ b4
            have e2 := keysOf_mem hl.2.2 _ hmem
            simp only [] at e1 e2
            rw [hax] at e1
            rw [← e1, e2]
          have hK : K = S := by omega
          subst hK
          obtain ⟨i, hi⟩ := Nat.exists_testBit_of_ne_zero b2
          have := f4 i (b5 i hi)
          rw [b6 i hi] at this; cases this
        obtain ⟨p, hp⟩ := Int.eq_ofNat_of_zero_le hm1
        have hp : x = (p : Int) := hp
        subst hp
        have hnone : (ac.any fun a => a.2.2 && decide (a.1 = (p : Int))) = false := by
          rw [List.any_eq_false]
          intro a ha hc
          simp only [Bool.and_eq_true, decide_eq_true_eq] at hc
          exact hnew (List.mem_map.2 ⟨a, ha, hc.2⟩)
        have hp24 : 24 ≤ p ∧ p ≤ 31 := by omega
        have hbit : (oH d ac).testBit p = false := by rw [oH_bit ac d p hpos0, hnone, bit24 hd2 hp24.1]; rfl
        have hend : oH d ac ^^^ 2 ^ p = oH d (ac ++ [((p : Int), ((S : Int), true))]) := by
          rw [xor_or hbit]
          simp only [oH, List.foldl_append, List.foldl_cons, List.foldl_nil, cond_true, Int.toNat_natCast]
        obtain ⟨o1, o2⟩ := one_out (b := true) (show ck ≤ maxI (maxI ck e.1) at_ by omega) (show maxI (maxI ck e.1) at_ ≤ 1000000 by omega) (show p < 32 by omega) (by rw [hbit]; rfl) hend
        rw [htk, hkey]
        refine ⟨⟨h ||| S, lT t ((e :: r).take (j + 1)), ⟨⟨d, rfl, hd2, AOk_add hS0 hSl hmem hd3 f4⟩, ?_⟩, by rw [← f3]; exact f2, ?_, ?_⟩, ⟨by simp only []; omega, by simp only []; omega⟩, ?_⟩
        · simp only [List.map_append, List.map_cons, List.map_nil]
          rw [List.nodup_append]
          exact ⟨hnd, by simp, by intro a ha b hb; simp at hb; rw [hb]; intro hab; exact hnew (hab ▸ ha)⟩
        · have := lT_ge 24 _ _ _ f1; omega
        · rw [← f3, ← hA_append, hsplit]
        · refine ⟨by rw [hob]; exact o1, ?_, fun y hy => by simp at hy; rw [hy]; simp⟩
          rw [hob, o2]
          simp only [oHs, Int.toNat_natCast]
end Go.Kb
