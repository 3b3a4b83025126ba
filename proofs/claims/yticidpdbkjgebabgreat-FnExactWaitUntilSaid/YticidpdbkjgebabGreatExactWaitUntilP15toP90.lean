/- How many bits a mask has: the library's way and the reference's. -/
import Derived.Test.YticidpdbkjgebabGreatExactWaitUntilP8toP75
import Derived.Test.YticidpdbkjgebabGreatExactWaitUntilF4
import Derived.Test.YticidpdbkjgebabGreatExactWaitUntilP0toF3
import Derived.KernelRfl
namespace Go.Kb
theorem shr_nat (k : IntKind) (a j : Nat) (hj : j <= k.bits) : zBy k (a : Int) (j : Int) = ((a >>> j : Nat) : Int) := by
 simp only [zBy, Int.toNat_natCast, Nat.min_eq_left hj]
 rw [Int.fdiv_eq_ediv_of_nonneg _ (by exact Int.le_of_lt (Int.pow_pos (by omega)))]
 rw [Nat.shiftRight_eq_div_pow]
 simp
theorem andI (a b : Nat) (ha : a < 9223372036854775808) (hb : b < 9223372036854775808) : zBo .i64 (a : Int) (b : Int) = ((a &&& b : Nat) : Int) := by
 have hx : a &&& b <= b := Nat.and_le_right
 have e : ∀ n : Nat, n < 9223372036854775808 -> (BitVec.ofInt 64 (n : Int)).toNat = n := by
  intro n hn
  rw [BitVec.ofInt_natCast, BitVec.toNat_ofNat]; exact Nat.mod_eq_of_lt (by omega)
 show IntKind.i64.wrap ((BitVec.ofInt 64 (a : Int) &&& BitVec.ofInt 64 (b : Int)).toNat : Int) = _
 rw [BitVec.toNat_and, e a ha, e b hb, zBE (by omega) (by omega)]
def n1 (x : Nat) : Nat := ((x >>> 1) &&& 6148914691236517205) + (x &&& 6148914691236517205)
def n2 (x : Nat) : Nat := ((x >>> 2) &&& 3689348814741910323) + (x &&& 3689348814741910323)
def n3 (x : Nat) : Nat := ((x >>> 4) + x) &&& 1085102592571150095
def n4 (x : Nat) : Nat := x + (x >>> 8)
theorem shr_le (x k : Nat) : x >>> k <= x := by rw [Nat.shiftRight_eq_div_pow]; exact Nat.div_le_self _ _
def cntN : Nat -> Nat -> Nat
 | 0, _ => 0
 | m + 1, x => x % 2 + cntN m (x / 2)
def t1 (b : Nat) : Nat := ((b / 2) &&& 85) + (b &&& 85)
def t2 (b : Nat) : Nat := ((b / 4) &&& 51) + (b &&& 51)
def t3 (b : Nat) : Nat := (b / 16 + b) &&& 15
theorem f1 : ∀ b, b < 256 -> ∀ e, e < 2 -> (b / 2 + 128 * e) &&& 85 = (b / 2) &&& 85 := by decide +kernel
theorem f2 : ∀ b, b < 256 -> ∀ e, e < 4 -> (b / 4 + 64 * e) &&& 51 = (b / 4) &&& 51 := by decide +kernel
theorem f3 : ∀ b, b < 256 -> t2 (t1 b) % 16 <= 4 /\ t2 (t1 b) <= 68 := by decide +kernel
theorem f4 : ∀ b, b < 256 -> ∀ e, e < 5 -> (t2 (t1 b) / 16 + 16 * e + t2 (t1 b)) &&& 15 = t3 (t2 (t1 b)) := by decide +kernel
theorem f6 : ∀ b, b < 256 -> cntN 8 b <= 8 := by decide +kernel
end Go.Kb
namespace Go.Kb
abbrev Cb := Int × Int
end Go.Kb
namespace Go.Kb
theorem getD_set {α : Type} (o : List α) (k : Nat) (v d : α) (h : k < o.length) : (o.set k v).getD k d = v := by
 rw [List.getD_eq_getElem?_getD, List.getElem?_set_self h]; rfl
theorem getD_set_ne {α : Type} (o : List α) (j k : Nat) (v d : α) (h : j ≠ k) : (o.set k v).getD j d = o.getD j d := by
 rw [List.getD_eq_getElem?_getD, List.getD_eq_getElem?_getD, List.getElem?_set_ne (by omega)]
abbrev Cm := List Cb × Int × List (Int × Int × Bool) × Int × Int × Int × List (Int × Int × Bool)
def idle (l : List Cb) (t : Int) : Cm := (l, t, [], 0, 0, 0, [])
end Go.Kb
namespace Go.Kb
end Go.Kb
namespace Go.Kb
abbrev T1_5 : Ty := .pair (.int .i64) (.pair (.int .i64) (.bool))
def zAe.x : XFunc := xF 12 0 [.val false 1, .val false 1] (no 2) [.tmp 4 false 1] [.imm] true (.pair (.list T1_5) (.int .i64)) (.int .i64) <| .seq (rG [op 4 .move [cI 0]]) (.seq (rG [mv 5 1, mv 6 0, o1 7 .len 6, o2 8 (.bin .sub) 5 7, mv 1 8]) (.seq (.seq (rG [mv 9 1, op 10 (.bin .lss) [.slot 9, cI 0]]) (.cond (.slot 10) (.seq (rG [op 4 .move [cI (-1)]]) (.ret)) (.skip))) (.seq (rG [mv 11 1, mv 4 11]) (.ret))))
def zAe.env (_ : Nat) : Env := envOf (tbl [] noFS)
def zAe.F (N : Nat) (x : (List (Int × Int × Bool)) × Int) : Option Int := XFunc.run zAe.x (zAe.env N) N x
def zAe.fs (N : Nat) : FS := fS zAe.x true (zAe.F N)
theorem zAe.F_eq (N : Nat) (a : List (Int × Int × Bool)) (left : Int) : zAe.F N (a, left) =
bif decide ((IntKind.wrap .i64 (left - (List.length a : Int))) < 0) then
some (-1 : Int)
else
some (IntKind.wrap .i64 (left - (List.length a : Int))) := by kernel_rfl
def zAt.x : XFunc := xF 14 3 [.val true 3] (no 3) [.var 2 true 3] (iF 3) true (.pair (.int .i64) (.pair (.int .i64) (.bool))) (.pair (.int .i64) (.pair (.int .i64) (.bool))) <| .seq (rG [ow 1 (.box 0) [.slot 0] [0] [0], ow 2 (.alloc 1 [cZ, cZ, .bool false]) [] [1] [1]]) (.seq (rG [ow 3 (.alloc 2 [cZ, cZ, .bool false]) [] [2] [2]]) (.seq (rG [fA 4 0 1, lN 5 4 0, fA 6 0 3, sT 1 6 5 2]) (.seq (rG [fA 7 1 1, lN 8 7 0, fA 9 1 3, sT 1 9 8 2]) (.seq (rG [fA 10 2 1, lN 11 10 0, fA 12 2 3, sT 1 12 11 2]) (.seq (rG [lU 13 3 3 2, sT 3 2 13 1]) (.ret))))))
def zAt.env (_ : Nat) : Env := envOf (tbl [] noFS)
def zAt.F (N : Nat) (x : Int × Int × Bool) : Option (Int × Int × Bool) := XFunc.run zAt.x (zAt.env N) N x
def zAt.fs (N : Nat) : FS := fS zAt.x true (zAt.F N)
theorem zAt.F_eq (N : Nat) (a : Int × Int × Bool) : zAt.F N a =
some a := by kernel_rfl
def z4.c1 : XCode := .seq (.seq (rG [mv 8 4, mv 9 0, o1 10 .len 9, o2 11 (.bin .lss) 8 10]) (cX 11 0)) (.seq (.block 1 (rG [mv 14 3, mv 15 4, mv 16 0, mv 17 4, o2 18 (.indexAddr T1_5) 16 17, o1 19 (.load true 3) 18, o1 20 (.call ⟨128, [.val true 3], no 3, [.val true 3], ims 3, true⟩) 19, ow 21 (.indexAddr T1_5) (sl [14, 15]) [0] [], sT 3 21 20 0])) (rG [mv 12 4, op 13 (.bin .add) [.slot 12, cI 1], mv 4 13]))
def z4.c2 : XCode := .seq (rG [mv 22 3, mv 2 22]) (.ret)
def z4.x : XFunc := xF 23 1 [.val false 1] [none] [.tmp 2 false 1] [.own 4] true (.list T1_5) (.list T1_5) <| .seq (rG [op 2 .move [.const (.one (.nil))]]) (.seq (rG [mv 5 0, o1 6 .len 5, ow 7 (.makeSlice 0 4 T1_5) (sl [6, 6]) [0] [0], mv 3 7]) (.seq (.seq (rG [op 4 .move [cI 0]]) (.block 0 (.loop [.keep [0, 3, 4], .norm] (z4.c1)))) (z4.c2)))
def z4.env (N : Nat) : Env := envOf (tbl [(128, zAt.fs N)] noFS)
def z4.F (N : Nat) (x : List (Int × Int × Bool)) : Option (List (Int × Int × Bool)) := XFunc.run z4.x (z4.env N) N x
def z4.fs (N : Nat) : FS := fS z4.x true (z4.F N)
def z4.k2 (N : Nat) : Ex -> S -> Option (List (Int × Int × Bool)) := seqK (fun s => XCode.runK (z4.env N) N (z4.c2) s (XFunc.endK z4.x)) (XFunc.endK z4.x)
def z4.k1 (N : Nat) : Ex -> S -> Option (List (Int × Int × Bool)) := y7 0 (z4.k2 N)
def z4.L1 (N : Nat) (n1 : Nat) (a : List (Int × Int × Bool)) (i : Int) (o0 : List (Int × Int × Bool)) : Option (List (Int × Int × Bool)) := loopK [.keep [0, 3, 4], .norm] (rK (z4.env N) N z4.c1) n1
 { t := jK 23 [(0, .one (.sl false T1_5 a)), (3, .one (.ref 0 0 .all)), (4, .one (.int .i64 i))], h := [.row 0 false true 4 T1_5 o0] }
 (z4.k1 N)
theorem z4.L1_eq (N : Nat) (n1 : Nat) (a : List (Int × Int × Bool)) (i : Int) (o0 : List (Int × Int × Bool)) : z4.L1 N (n1 + 1) a i o0 =
bif decide (i < (List.length a : Int)) then
bif zG i (List.length a) then
bindO (zAt.F N ((nth (0, (0, false)) a i).1, ((nth (0, (0, false)) a i).2))) fun r1 =>
bif zG i (List.length o0) then
z4.L1 N n1 a (IntKind.wrap .i64 (i + 1)) (List.set o0 (Int.toNat i) r1)
else none
else none
else
some o0 := by kernel_rfl
theorem z4.F_eq (N : Nat) (a : List (Int × Int × Bool)) : z4.F N a =
bif decide (0 <= (List.length a : Int)) && decide ((List.length a : Int) <= (maxN : Int)) then
z4.L1 N N a 0 (List.replicate (Int.toNat (List.length a : Int)) (0, (0, false)))
else none := by kernel_rfl
end Go.Kb
namespace Go.Kb
abbrev Ev := Int × Int × Bool
end Go.Kb
namespace Go.Kb
theorem shl_one (o : Nat) (h : o <= 31) : zBS .i64 1 (o : Int) = ((2 ^ o : Nat) : Int) := by
 have h2 : 2 ^ o <= 2 ^ 31 := Nat.pow_le_pow_right (by omega) h
 simp only [zBS, IntKind.bits, Int.toNat_natCast]
 rw [Nat.min_eq_left (by omega), Int.one_mul]
 have e : (2 : Int) ^ o = ((2 ^ o : Nat) : Int) := by simp
 rw [e]
 generalize 2 ^ o = p at h2 ⊢
 exact zBE (by omega) (by omega)
section
variable (N : Nat) (q1 : List Cb) (q2 : Int) (q3 : List Ev) (q4 q5 q6 : Int) (a : List Ev)
end
end Go.Kb
namespace Go.Kb
def isEv (t k : Int) : Bool := decide (0 <= t /\ t <= 1000000) && decide (0 <= k /\ k <= 31)
theorem IsEv_spec (N : Nat) (t : Int) (kv : Int × Bool) : zAQ.F N (t, kv) = some (isEv t kv.1) := by
 rw [zAQ.F_eq]
 simp only [zCA, bindV]
 unfold isEv
 cases decide (0 <= t /\ t <= 1000000) with
 | true => simp only [condT, Bool.true_and]
 | false => simp only [condF, Bool.false_and]
theorem IsEv_impl (N : Nat) (t : Int) (kv : Int × Bool) : zAR.F N (t, kv) = some (isEv t kv.1) := by
 rw [zAR.F_eq]
 unfold isEv
 by_cases a : 0 <= t <;> by_cases b : t <= 1000000 <;> by_cases c : 0 <= kv.1 <;> by_cases d : kv.1 <= 31 <;> simp [a, b, c, d]
end Go.Kb
namespace Go.Kb
structure smallC (c : Cm) : Prop where
 a : c.1.length <= 1048576
 b : c.2.2.1.length <= 1048576
 d : c.2.2.2.2.2.2.length <= 1048576
theorem szEventS_eq (N : Nat) (a : List Ev) (left : Int) (h : a.length <= maxLen) (h0 : 0 <= left) (h1 : left <= 1048576) : ∃ r, zAe.F N (a, left) = some r /\ -1 <= r /\ r <= left /\ (0 <= r -> a.length <= 1048576) := by
 rw [zAe.F_eq]
 unfold maxLen at h
 rw [zBE (by omega) (by omega)]
 by_cases hh : left - (a.length : Int) < 0
 ·simp only [hh, decide_true, condT]; exact ⟨_, rfl, by omega, by omega, fun h => by omega⟩
 ·simp only [hh, decide_false, condF]; exact ⟨_, rfl, by omega, by omega, fun h => by omega⟩
theorem toEventS_eq (N : Nat) (a : List Ev) (h : a.length < N) (hm : a.length <= maxN) : z4.F N a = some a := by
 rw [z4.F_eq, lenOk hm, condT]
 exact toLoop (0, 0, false) (fun n a i o => z4.L1 N n a i o) (fun x => zAt.F N x) a (fun n i o => z4.L1_eq N n a i o) (fun x _ => zAt.F_eq N x) N 0 _ hm (by simp) (by omega) (by omega) (by simp)
theorem tri_eq (a b : Ev) : (bif a.1 != b.1 then some false else bif a.2.1 != b.2.1 then some false else bif a.2.2 != b.2.2 then some false else some true) = some (decide (a = b)) := by
 obtain ⟨x, y, z⟩ := a
 obtain ⟨u, v, w⟩ := b
 simp only [bneI]
 by_cases h1 : x = u
 ·by_cases h2 : y = v
  ·by_cases h3 : z = w
   ·simp [h1, h2, h3]
   ·have h4 : (z != w) = true := by cases z <;> cases w <;> simp at h3 ⊢
    simp [h1, h2, h3, h4]
  ·simp [h1, h2]
 ·simp [h1]
theorem eqEventS_eq (N : Nat) (a b : List Ev) (h : a.length < N) (hm : a.length <= maxN) : yG.F N (a, b) = some (decide (a = b)) := by
 rw [yG.F_eq]
 by_cases hl : a.length = b.length
 ·have : ((a.length : Int) != (b.length : Int)) = false := by simp [hl]
  rw [this, condF]
  have := eqLoop (0, 0, false) (fun n a b i => yG.L1 N n a b i) (fun x => zAv.F N x) a b (fun n i => yG.L1_eq N n a b i) (fun x _ y => by rw [zAv.F_eq]; exact tri_eq x y) N 0 hm hl.symm (by omega) (by omega)
  simpa using this
 ·have h1 : ((a.length : Int) != (b.length : Int)) = true := by simp; omega
  have h2 : a ≠ b := fun e => hl (by rw [e])
  rw [h1, condT]
  simp [h2]
structure wellC (c : Cm) : Prop where
 a : c.1.length <= maxLen
 b : c.2.2.1.length <= maxLen
 d : c.2.2.2.2.2.2.length <= maxLen
 m : ∀ x ∈ c.2.2.2.2.2.2, x.2.1 <= 9223372036854775807
end Go.Kb
namespace Go.Kb
end Go.Kb
namespace Go.Kb
end Go.Kb
namespace Go.Kb
end Go.Kb
namespace Go.Kb
def bitK (k : Int) : Int := zBS .i64 1 k
structure Sc where
 q : List Ev
 ck : Int
 dn : Int
 ac : List Ev
end Go.Kb
namespace Go.Kb
end Go.Kb
namespace Go.Kb
def Sc.cm (s : Sc) (l : List Cb) (term now : Int) : Cm := (l, (term, (s.q, (now, (s.ck, (s.dn, s.ac))))))
end Go.Kb
namespace Go.Kb
def zA3.x : XFunc := xF 8 0 [.val false 1] [none] [.tmp 2 false 1] [.imm] true (.int .i64) (.int .i64) <| .seq (rG [op 2 .move [cI 0]]) (.seq (.seq (rG [mv 3 0, op 4 (cO 1 (vs 3) 3 true) [.slot 3, cI 0, cI 31], o1 5 .not 4]) (.cond (.slot 5) (.seq (rG [op 2 .move [cI 0]]) (.ret)) (.skip))) (.seq (rG [mv 6 0, op 7 (.bin .shl) [cI 1, .slot 6], mv 2 7]) (.ret)))
def zA3.env (N : Nat) : Env := envOf (tbl [(1, zR.fs N)] noFS)
def zA3.F (N : Nat) (x : Int) : Option Int := XFunc.run zA3.x (zA3.env N) N x
def zA3.fs (N : Nat) : FS := fS zA3.x true (zA3.F N)
theorem zA3.F_eq (N : Nat) (key : Int) : zA3.F N key =
bindO (zR.F N (key, (0, 31))) fun r1 =>
bif !r1 then
some 0
else
bif decide (0 <= key) then
some (zBS .i64 1 key)
else none := by kernel_rfl
end Go.Kb
namespace Go.Kb
end Go.Kb
namespace Go.Kb
structure outC (r : Cm × List Ev × Bool) : Prop where
 a : r.1.1.length <= 1048576
 b : r.1.2.2.1.length <= 64
 d : r.1.2.2.2.2.2.2.length <= 1048640
 e : r.2.1.length <= 64
end Go.Kb
namespace Go.Kb
theorem andNotN (a b : Nat) (ha : a < 9223372036854775808) (hb : b < 9223372036854775808) : zBM .i64 (a : Int) (b : Int) = ((a ^^^ (a &&& b) : Nat) : Int) := by
 have hx : a ^^^ (a &&& b) < 2 ^ 63 := Nat.xor_lt_two_pow (by omega) (Nat.lt_of_le_of_lt Nat.and_le_left (by omega))
 have e : ∀ n : Nat, n < 9223372036854775808 -> (BitVec.ofInt 64 (n : Int)).toNat = n := by
  intro n hn
  rw [BitVec.ofInt_natCast, BitVec.toNat_ofNat]; exact Nat.mod_eq_of_lt (by omega)
 show IntKind.i64.wrap ((BitVec.ofInt 64 (a : Int) &&& ~~~(BitVec.ofInt 64 (b : Int))).toNat : Int) = _
 have h : ∀ x y : BitVec 64, x &&& ~~~y = x ^^^ (x &&& y) := by
  intro x y
  apply BitVec.eq_of_getLsbD_eq
  intro i hi
  simp only [BitVec.getLsbD_and, BitVec.getLsbD_not, BitVec.getLsbD_xor, hi, decide_true, Bool.true_and]
  cases x.getLsbD i <;> cases y.getLsbD i <;> rfl
 rw [h, BitVec.toNat_xor, BitVec.toNat_and, e a ha, e b hb, zBE (by omega) (by omega)]
theorem or_bit (x k i : Nat) : (x ||| 2 ^ k).testBit i = (x.testBit i || decide (k = i)) := by
 simp only [Nat.testBit_or, Nat.testBit_two_pow]
theorem xor_bit (x k i : Nat) : (x ^^^ 2 ^ k).testBit i = (x.testBit i ^^ decide (k = i)) := by
 simp only [Nat.testBit_xor, Nat.testBit_two_pow]
theorem two_pow_small {k : Nat} (h : k <= 31) : 2 ^ k <= 2147483648 := by
 have := Nat.pow_le_pow_right (show 0 < 2 by omega) h
 exact this
theorem or_lt32 {a b : Nat} (ha : a < 4294967296) (hb : b < 4294967296) : a ||| b < 4294967296 := by
 have := Nat.or_lt_two_pow (n := 32) (x := a) (y := b) (by omega) (by omega)
 omega
theorem pow_lt32 {k : Nat} (h : k < 32) : 2 ^ k < 4294967296 := by
 have : 2 ^ k < 2 ^ 32 := Nat.pow_lt_pow_right (by omega) h
 omega
theorem bitK_nat {k : Nat} (h : k <= 31) : bitK (k : Int) = ((2 ^ k : Nat) : Int) := shl_one k h
theorem bitOf {m k : Nat} (hm : m < 4294967296) (hk : k <= 31) : (zBo .i64 (zBy .i64 (m : Int) (k : Int)) 1 == 1) = m.testBit k := by
 have hl := shr_le m k
 have a := andI (m >>> k) 1 (by omega) (by omega)
 rw [show ((1 : Nat) : Int) = 1 from rfl, Nat.and_one_is_mod] at a
 rw [shr_nat .i64 m k (by simp only [IntKind.bits]; omega), a, Nat.testBit_eq_decide_div_mod_eq, <- Nat.shiftRight_eq_div_pow, beqI]
 by_cases h : m >>> k % 2 = 1
 ·rw [dT h, dT (by omega)]
 ·rw [dF h, dF (by omega)]
theorem xorI {h k : Nat} (hh : h < 4294967296) (hk : k <= 31) : zBw .i64 (h : Int) (zBS .i64 1 (k : Int)) = ((h ^^^ 2 ^ k : Nat) : Int) := by
 have p := two_pow_small hk
 rw [shl_one k hk]
 exact bitXor_nat h (2 ^ k) (by omega) (by omega)
theorem orI {h k : Nat} (hh : h < 4294967296) (hk : k <= 31) : bitOr .i64 (h : Int) (bitK (k : Int)) = ((h ||| 2 ^ k : Nat) : Int) := by
 have p := two_pow_small hk
 rw [bitK_nat hk]
 exact bitOr_nat h (2 ^ k) (by omega) (by omega)
def fol (K : Nat) : Nat -> Int -> List Ev -> Prop
 | _, _, [] => True
 | h, t, e :: r => t <= e.1 /\ e.1 <= 1000000 /\ ∃ k : Nat, k < K /\ e.2.1 = (k : Int) /\ e.2.2 = !(h.testBit k) /\ fol K (h ^^^ 2 ^ k) e.1 r
def hA (h : Nat) (l : List Ev) : Nat := l.foldl (fun h e => h ^^^ 2 ^ e.2.1.toNat) h
def lT (t : Int) (l : List Ev) : Int := l.foldl (fun _ e => e.1) t
theorem fol_append (K : Nat) : ∀ (a : List Ev) (h : Nat) (t : Int) (b : List Ev), fol K h t (a ++ b) ↔ fol K h t a /\ fol K (hA h a) (lT t a) b := by
 intro a
 induction a with
 | nil => intro h t b; simp [fol, hA, lT]
 | cons e r ih =>
  intro h t b
  simp only [List.cons_append, fol]
  constructor
  ·rintro ⟨h1, h2, k, h3, h4, h5, h6⟩
   rw [ih] at h6
   refine ⟨⟨h1, h2, k, h3, h4, h5, h6.1⟩, ?_⟩
   have : hA h (e :: r) = hA (h ^^^ 2 ^ k) r := by simp only [hA, List.foldl_cons, h4, Int.toNat_natCast]
   rw [this]; exact h6.2
  ·rintro ⟨⟨h1, h2, k, h3, h4, h5, h6⟩, h7⟩
   have : hA h (e :: r) = hA (h ^^^ 2 ^ k) r := by simp only [hA, List.foldl_cons, h4, Int.toNat_natCast]
   rw [this] at h7
   exact ⟨h1, h2, k, h3, h4, h5, (ih _ _ _).2 ⟨h6, h7⟩⟩
theorem fol_mono {K K' : Nat} (hK : K <= K') : ∀ (a : List Ev) (h : Nat) (t t' : Int), t' <= t -> fol K h t a -> fol K' h t' a := by
 intro a
 induction a with
 | nil => intro h t t' _ _; trivial
 | cons e r ih =>
  rintro h t t' ht ⟨h1, h2, k, h3, h4, h5, h6⟩
  exact ⟨by omega, h2, k, by omega, h4, h5, ih _ _ _ (by omega) h6⟩
theorem lT_append (t : Int) (a b : List Ev) : lT t (a ++ b) = lT (lT t a) b := by simp only [lT, List.foldl_append]
theorem lT_ge (K : Nat) : ∀ (a : List Ev) (h : Nat) (t : Int), fol K h t a -> t <= lT t a := by
 intro a
 induction a with
 | nil => intro h t _; simp [lT]
 | cons e r ih =>
  rintro h t ⟨h1, h2, k, h3, h4, h5, h6⟩
  have := ih _ _ h6
  simp only [lT, List.foldl_cons] at this ⊢
  omega
theorem fol_time (K : Nat) : ∀ (a : List Ev) (h : Nat) (t : Int), fol K h t a -> ∀ e ∈ a, t <= e.1 /\ e.1 <= lT t a /\ e.1 <= 1000000 := by
 intro a
 induction a with
 | nil => intro h t _ e he; cases he
 | cons x r ih =>
  rintro h t ⟨h1, h2, k, h3, h4, h5, h6⟩ e he
  have g := lT_ge K r _ _ h6
  have e1 : lT t (x :: r) = lT x.1 r := by simp only [lT, List.foldl_cons]
  rw [e1]
  rcases List.mem_cons.1 he with rfl | he
  ·exact ⟨h1, g, h2⟩
  ·have := ih _ _ h6 e he
   omega
end Go.Kb
namespace Go.Kb
abbrev Act := Int × Int × Int × Int
abbrev Hd := Int × Act
abbrev Mp := Int × List (List Act)
abbrev MSt := Int × Int × Int
abbrev Eng := Mp × List (List MSt) × Int × List Hd × Int × Bool
abbrev Tmg := Int × Int × Int
abbrev Dcd := Eng × Tmg × List Ev × Int × Int × Int × Int
abbrev Snt := Int × Rpt
def okA (a : Act) : Prop :=
 ((a.1 = 0 \/ a.1 = 1 \/ a.1 = 10) /\ a.2.1 = 0 /\ a.2.2.1 = 0 /\ a.2.2.2 = 0) \/
 (a.1 = 2 /\ a.2.2.2 = 0 /\ 0 <= a.2.1 /\ a.2.1 <= 56 /\ 0 <= a.2.2.1 /\ a.2.2.1 <= 15 /\ (a.2.1 ≠ 0 \/ a.2.2.1 ≠ 0)) \/
 ((a.1 = 3 \/ a.1 = 4) /\ a.2.1 = 0 /\ a.2.2.1 = 0 /\ 1 <= a.2.2.2 /\ a.2.2.2 <= 3) \/
 ((a.1 = 5 \/ a.1 = 9) /\ a.2.1 = 0 /\ a.2.2.1 = 0 /\ 0 <= a.2.2.2 /\ a.2.2.2 <= 3) \/
 (a.1 = 6 /\ 1 <= a.2.1 /\ a.2.1 <= 56 /\ 1 <= a.2.2.1 /\ a.2.2.1 <= 15 /\ a.2.2.2 = 0) \/
 (a.1 = 7 /\ 1 <= a.2.1 /\ a.2.1 <= 56 /\ a.2.2.1 = 0 /\ 1 <= a.2.2.2 /\ a.2.2.2 <= 3) \/
 (a.1 = 8 /\ a.2.1 = 0 /\ 1 <= a.2.2.1 /\ a.2.2.1 <= 15 /\ a.2.2.2 = 0)
instance (a : Act) : Decidable (okA a) := by unfold okA; infer_instance
def isA (a : Act) : Bool := decide (okA a)
def isTH (a : Act) : Bool := isA a && decide (a.1 = 6 \/ a.1 = 7)
def tapO (a : Act) : Act := bif isTH a then (2, a.2.1, 0, 0) else a
def holdO (a : Act) : Act := bif isTH a then (bif a.1 == 6 then (2, 0, a.2.2.1, 0) else (3, 0, 0, a.2.2.2)) else a
def cellB (nl : Int) (first : Bool) (a : Act) : Bool := isA a && (!(first && a.1 == 1) && !(!(a.1 == 9) && decide (nl <= a.2.2.2)))
def layB (keys nl : Int) (first : Bool) (l : List Act) : Bool := decide ((l.length : Int) = keys) && l.all (cellB nl first)
def laysB (keys nl : Int) : Bool -> List (List Act) -> Bool
 | _, [] => true
 | f, l :: r => layB keys nl f l && laysB keys nl false r
def isM (m : Mp) : Bool := decide (1 <= m.1 /\ m.1 <= 32 /\ 1 <= m.2.length /\ m.2.length <= 4) && laysB m.1 m.2.length true m.2
def bitB (x k : Int) : Bool := zBo .i64 (zBy .i64 x k) 1 == 1
def cellAt (ls : List (List Act)) (i : Nat) (key : Int) : Act := (ls.getD i []).getD key.toNat (0, 0, 0, 0)
def layN (ls : List (List Act)) (on key : Int) : Nat -> Nat
 | 0 => 0
 | i + 1 => bif bitB on ((i + 1 : Nat) : Int) && !((cellAt ls (i + 1) key).1 == 1) then i + 1 else layN ls on key i
def actN (ls : List (List Act)) (on key : Int) : Act := cellAt ls (layN ls on key (ls.length - 1)) key
def bit1 (k : Int) : Int := zBS .i64 1 k
def kindB (k : Int) : Bool := !decide (k = 1 \/ k = 6 \/ k = 7)
def hdGo : Int -> List Hd -> Bool
 | _, [] => true
 | s, h :: r => decide (0 <= h.1 /\ h.1 <= 31) && (!bitB s h.1 && ((isA h.2 && kindB h.2.1) && hdGo (bitOr .i64 s (bit1 h.1)) r))
def isH (l : List Hd) : Bool := hdGo 0 l
def lyGo : Int -> List Hd -> Int
 | o, [] => o
 | o, h :: r => lyGo (bif h.2.1 == 3 then bitOr .i64 o (bit1 h.2.2.2.2) else o) r
def lyOn (fixed : Int) (l : List Hd) : Int :=
 let o := bif decide (0 <= fixed /\ fixed <= 15) then bitOr .i64 1 fixed else 1
 bif isH l then lyGo o l else o
def codes (l : List Int) : List Int := ((List.range 56).map fun (k : Nat) => (k : Int) + 1).filter fun c => l.contains c
def mdGo : Int -> List Hd -> Int
 | m, [] => m
 | m, h :: r => mdGo (bif decide (h.2.1 = 2 \/ h.2.1 = 8) then bitOr .i64 m h.2.2.2.1 else m) r
def repO (l : List Hd) : Rpt := bif isH l then (mdGo 0 l, codes (l.map fun h => h.2.2.1)) else (0, [])
abbrev Pr := Int × Int
def stepA (s : MSt) : Act := (2, s.2.1, s.2.2, 0)
def mcGo : List Pr -> List MSt -> Bool
 | d, [] => d.isEmpty
 | d, s :: r => isA (stepA s) && (bif s.1 == 0 then !d.contains s.2 && mcGo d r else bif s.1 == 1 then !d.contains s.2 && mcGo (d ++ [s.2]) r else bif s.1 == 2 then d.contains s.2 && mcGo (d.erase s.2) r else false)
def isMc (l : List MSt) : Bool := decide (l.length <= 8) && mcGo [] l
def prGo : Int -> List Pr -> Int
 | m, [] => m
 | m, p :: r => prGo (bitOr .i64 m p.2) r
def withP (b : Rpt) (d : List Pr) : Rpt := (prGo b.1 d, codes (b.2 ++ d.map fun p => p.1))
def mrGo (b : Rpt) : List Pr -> List MSt -> List Rpt
 | _, [] => []
 | d, s :: r => bif s.1 == 0 then withP b (d ++ [s.2]) :: withP b d :: mrGo b d r else bif s.1 == 1 then withP b (d ++ [s.2]) :: mrGo b (d ++ [s.2]) r else withP b (d.erase s.2) :: mrGo b (d.erase s.2) r
def mcRep (l : List Hd) (ss : List MSt) : List Rpt := bif isH l && isMc ss then mrGo (repO l) [] ss else []
def heldB (keys nl : Int) (h : Hd) : Bool := decide (h.1 < keys) && !(!(h.2.1 == 9) && decide (nl <= h.2.2.2.2))
def isE (e : Eng) : Bool :=
 isM e.1 && (decide (e.2.1.length <= 4) && (isH e.2.2.2.1 && (decide (0 <= e.2.2.2.2.1 /\ e.2.2.2.2.1 <= 15) && (e.2.1.all isMc && (e.2.2.2.1.all (heldB e.1.1 e.1.2.length) && decide (0 <= e.2.2.1 /\ e.2.2.1 % 2 = 0 /\ e.2.2.1 < 2 ^ e.1.2.length))))))
def wordB (c : Int) : Bool := decide (1 <= c /\ c <= 36 \/ c = 39 \/ c = 42)
def chg : Rpt -> List Rpt -> List Rpt
 | _, [] => []
 | b, r :: t => bif decide (b = r) then chg r t else r :: chg r t
def stl (fx on : Int) (cp : Bool) (a : Act) : Int × Int × Bool × Act :=
 bif a.1 == 2 then
  (bif a.2.1 == 0 then (fx, on, cp, a) else
   let m := bitOr .i64 a.2.2.1 on
   let c := cp && wordB a.2.1
   (fx, 0, c, (a.1, a.2.1, (bif c && (decide (a.2.1 <= 26) && (zBM .i64 m 2 == 0)) then 2 else m), a.2.2.2)))
 else bif a.1 == 4 then (zBw .i64 fx (bit1 a.2.2.2), on, cp, a)
 else bif a.1 == 5 then (zBM .i64 (bit1 a.2.2.2) 1, on, cp, a)
 else bif a.1 == 8 then (fx, (bif zBo .i64 on a.2.2.1 == a.2.2.1 then zBM .i64 on a.2.2.1 else bitOr .i64 on a.2.2.1), cp, a)
 else bif a.1 == 10 then (fx, on, !cp, a)
 else (fx, on, cp, a)
def hIx (l : List Hd) (key : Int) : Nat := l.findIdx fun h => h.1 == key
def rmv (l : List Hd) (key : Int) : List Hd := l.take (hIx l key) ++ l.drop (hIx l key + 1)
def prs (e : Eng) (key : Int) (hold : Bool) : Eng × List Rpt :=
 let a0 := actN e.1.2 (lyOn e.2.2.1 e.2.2.2.1) key
 let s := stl e.2.2.1 e.2.2.2.2.1 e.2.2.2.2.2 (bif hold then holdO a0 else tapO a0)
 let h := e.2.2.2.1 ++ [(key, s.2.2.2)]
 ((e.1, e.2.1, s.1, h, s.2.1, s.2.2.1), chg (repO e.2.2.2.1) ((bif s.2.2.2.1 == 9 && decide (s.2.2.2.2.2.2 < e.2.1.length) then mcRep h (e.2.1.getD s.2.2.2.2.2.2.toNat []) else []) ++ [repO h]))
def rls (e : Eng) (key : Int) : Eng × List Rpt :=
 let h := rmv e.2.2.2.1 key
 ((e.1, e.2.1, e.2.2.1, h, e.2.2.2.2.1, e.2.2.2.2.2), chg (repO e.2.2.2.1) [repO h])
def isT (t : Tmg) : Bool := decide (1 <= t.1 /\ t.1 <= 1000 /\ 0 <= t.2.1 /\ t.2.1 <= 1000 /\ 0 <= t.2.2 /\ t.2.2 <= 2)
def hmGo : Int -> List Hd -> Int
 | s, [] => s
 | s, h :: r => hmGo (bitOr .i64 s (bit1 h.1)) r
def evB (e : Ev) : Bool := isEv e.1 e.2.1
def flB (keys : Int) : Int -> Int -> List Ev -> Bool
 | _, _, [] => true
 | d, t, e :: r => evB e && (decide (e.2.1 < keys /\ t <= e.1) && (!(e.2.2 == bitB d e.2.1) && flB keys (zBw .i64 d (bit1 e.2.1)) e.1 r))
def fits (q : List Ev) (d keys : Int) : Bool := decide (q.length <= 64) && flB keys d 0 q
def isD (d : Dcd) : Bool :=
 isE d.1 && (isT d.2.1 && (decide (0 <= d.2.2.2.1 /\ d.2.2.2.1 <= 1000000 /\ 0 <= d.2.2.2.2.1 /\ d.2.2.2.2.1 <= d.2.2.2.1) && (fits d.2.2.1 (hmGo 0 d.1.2.2.2.1) d.1.1.1 && (decide (lT 0 d.2.2.1 <= d.2.2.2.1) && decide (0 <= d.2.2.2.2.2.1 /\ d.2.2.2.2.2.1 <= d.1.1.1 /\ 0 <= d.2.2.2.2.2.2 /\ d.2.2.2.2.2.2 <= d.2.2.2.1)))))
def chGo (fl key en now : Int) : Int -> List Ev -> Int × Int
 | _, [] => bif decide (en <= now) then (2, en) else (0, 0)
 | dn, e :: r =>
  bif !evB e then (0, 0) else
  bif decide (en <= e.1) then (2, en) else
  bif e.2.1 == key then (bif e.2.2 then chGo fl key en now dn r else (1, e.1)) else
  bif e.2.2 then (bif fl == 1 then (2, e.1) else chGo fl key en now (bitOr .i64 dn (bit1 e.2.1)) r) else
  bif fl == 2 && bitB dn e.2.1 then (2, e.1) else chGo fl key en now dn r
def chc (t : Tmg) (key time : Int) (rest : List Ev) (now : Int) : Int × Int :=
 bif isT t && decide (0 <= time /\ time <= 1000000) then chGo t.2.2 key (time + t.1) now 0 rest else (0, 0)
def chD (tm : Tmg) (tp ta : Int) (f : Ev) (r : List Ev) (now : Int) : Int × Int := bif (tp == f.2.1 + 1) && decide (f.1 - ta < tm.2.1) then (1, f.1) else chc tm f.2.1 f.1 r now
def stepD (d : Dcd) : Option (List Rpt × Dcd) :=
 match d.2.2.1 with
 | [] => none
 | f :: r =>
  let w := maxI d.2.2.2.2.1 f.1
  let tp := d.2.2.2.2.2.1
  let ta := d.2.2.2.2.2.2
  bif f.2.2 then
   (bif isTH (actN d.1.1.2 (lyOn d.1.2.2.1 d.1.2.2.2.1) f.2.1) then
    let c := chD d.2.1 tp ta f r d.2.2.2.1
    bif c.1 == 0 then none else
     let p := prs d.1 f.2.1 (c.1 == 2)
     some (p.2, (p.1, d.2.1, r, d.2.2.2.1, maxI w c.2, (bif c.1 == 2 then 0 else f.2.1 + 1), (bif c.1 == 2 then ta else f.1)))
   else let p := prs d.1 f.2.1 false
    some (p.2, (p.1, d.2.1, r, d.2.2.2.1, w, tp, ta)))
  else let p := rls d.1 f.2.1
   some (p.2, (p.1, d.2.1, r, d.2.2.2.1, w, tp, (bif tp == f.2.1 + 1 then f.1 else ta)))
def sentB (t : Int) (l : List Rpt) : List Snt := l.map fun r => (t, r)
def runD : Nat -> Dcd -> Dcd × List Snt
 | 0, d => (d, [])
 | n + 1, d => match stepD d with
  | none => (d, [])
  | some (l, d') => ((runD n d').1, sentB d'.2.2.2.2.1 l ++ (runD n d').2)
def zeroE : Eng := ((0, []), [], 0, [], 0, false)
def zeroD : Dcd := (zeroE, (0, 0, 0), [], 0, 0, 0, 0)
def headB (t : Int) : List Ev -> Bool
 | [] => true
 | e :: _ => decide (t <= e.1)
def plyB (d : Dcd) (l : List Ev) (en : Int) : Bool :=
 isD d && (decide (d.2.2.2.1 <= en /\ en <= 1000000) && (headB d.2.2.2.1 l && (decide (lT 0 l <= en) && fits (d.2.2.1 ++ l) (hmGo 0 d.1.2.2.2.1) d.1.1.1)))
def ply (d : Dcd) (l : List Ev) (en : Int) : Dcd × List Snt × Bool :=
 bif plyB d l en then
  let r := runD 64 (d.1, d.2.1, d.2.2.1 ++ l, en, d.2.2.2.2)
  (r.1, r.2, true)
 else (zeroD, [], false)
end Go.Kb
