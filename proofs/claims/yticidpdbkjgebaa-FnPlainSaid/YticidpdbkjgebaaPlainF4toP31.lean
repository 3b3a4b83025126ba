/- The texts of functions, printed by a program, and the equations of their runs. -/
import Derived.Test.YticidpdbkjgebaaPlainP0toP75
import Derived.KernelRfl
namespace Go.Kb
abbrev T1_4 : Ty := .pair (.int .i64) (.pair (.int .i64) (.bool))
def zAD.x : XFunc := { nslots := 9, nobj := 0, pars := [.val false 1, .val false 1], rowsIn := no 2, rets := [.tmp 4 false 1], outs := [.imm], fresh := true, arg := .pair (.int .i64) (.int .i64), ret := .int .i64, body := .seq (rG [op 4 .move [cI 0]]) (.seq (rG [mv 5 0, mv 6 1, o2 7 (.bin .shr) 5 6, op 8 (.bin .and) [.slot 7, cI 1], mv 4 8]) (.ret)) }
def zAD.env (_ : Nat) : Env := envOf (tbl [] noFS)
def zAD.F (N : Nat) (x : Int × Int) : Option Int := XFunc.run zAD.x (zAD.env N) N x
def zAD.fs (N : Nat) : FS := { arg := zAD.x.arg, ret := zAD.x.ret, fresh := true, F := zAD.F N }
theorem zAD.F_eq (N : Nat) (mask : Int) (k_ : Int) : zAD.F N (mask, k_) =
bif decide (0 <= k_) then
some (zBg .i64 (zCA .i64 mask k_) 1)
else none := by kernel_rfl
def yk.x : XFunc := { nslots := 21, nobj := 1, pars := [.val true 3], rowsIn := no 3, rets := [.tmp 2 false 1], outs := [.imm], fresh := true, arg := .pair (.int .i64) (.pair (.int .i64) (.bool)), ret := .bool, body := .seq (rG [ow 1 (.box 0) [.slot 0] [0] [0], op 2 .move [cB false]]) (.seq (rG [fA 3 0 1, lN 4 3 0, op 5 (.bin .geq) [.slot 4, cI 0], sX 6 [.slot 5], gX 7 (.fieldAddr 0) [.slot 1] [] [] 6 true, gX 8 (.load false 1) [.slot 7] [0] [] 6 true, gX 9 (.bin .leq) [.slot 8, cI 1000000] [] [] 6 true, op 10 .pick [.slot 6, .slot 9, cB false], sX 11 [.slot 10], gX 12 (.fieldAddr 1) [.slot 1] [] [] 11 true, gX 13 (.load false 1) [.slot 12] [0] [] 11 true, gX 14 (.bin .geq) [.slot 13, cI 0] [] [] 11 true, op 15 .pick [.slot 11, .slot 14, cB false], sX 16 [.slot 15], gX 17 (.fieldAddr 1) [.slot 1] [] [] 16 true, gX 18 (.load false 1) [.slot 17] [0] [] 16 true, gX 19 (.bin .leq) [.slot 18, cI 31] [] [] 16 true, op 20 .pick [.slot 16, .slot 19, cB false], mv 2 20]) (.ret)) }
def yk.env (_ : Nat) : Env := envOf (tbl [] noFS)
def yk.F (N : Nat) (x : Int × Int × Bool) : Option Bool := XFunc.run yk.x (yk.env N) N x
def yk.fs (N : Nat) : FS := { arg := yk.x.arg, ret := yk.x.ret, fresh := true, F := yk.F N }
theorem yk.F_eq (N : Nat) (e : Int × Int × Bool) : yk.F N e =
bif decide (e.1 >= 0) then
bif decide (e.1 <= 1000000) then
bif decide (e.2.1 >= 0) then
some (decide (e.2.1 <= 31))
else
some false
else
some false
else
some false := by kernel_rfl
def zy.c1 : XCode := .seq (rG [o2 14 (.bin .lss) 13 12]) (.seq (.cond (.slot 14) (.skip) (.exit 0)) (.seq (.block 1 (.seq (rG [mv 15 13, o2 16 (.indexAddr T1_4) 11 13, o1 17 (.load true 3) 16, ow 7 (.alloc 0 [cZ, cZ, .bool false]) [] [0] [0], mv 6 15, sT 3 7 17 0]) (.seq (.seq (.region true [lU 18 3 7 0, o1 19 (.call ⟨68, [.val true 3], no 3, [.val false 1], ims 1, true⟩) 18, o1 20 .not 19, sX 21 [.slot 20], gX 22 .move [.slot 6] [] [] 21 false, gX 23 (.bin .gtr) [.slot 22, cI 0] [] [] 21 false, ⟨some 24, .move, [.slot 23], [], [], some (21, false), true, .none⟩, gX 25 .move [.slot 0] [] [] 24 true, gX 26 .move [.slot 6] [] [] 24 true, gX 27 (.bin .sub) [.slot 26, cI 1] [] [] 24 true, gX 28 (.indexAddr T1_4) (sl [25, 27]) [] [] 24 true, gX 29 (.fieldAddr 0) [.slot 28] [] [] 24 true, gX 30 (.load false 1) [.slot 29] [] [] 24 true, gX 31 (.fieldAddr 0) [.slot 7] [] [] 24 true, gX 32 (.load false 1) [.slot 31] [0] [] 24 true, gX 33 (.bin .gtr) (sl [30, 32]) [] [] 24 true, gX 34 .pick [.slot 24, .slot 33, cB false] [] [] 21 false, op 35 .pick [.slot 21, cB true, .slot 34], sX 36 [.slot 35], gX 37 (.fieldAddr 2) [.slot 7] [] [] 36 false, gX 38 (.load false 1) [.slot 37] [0] [] 36 false, gX 39 .move [.slot 1] [] [] 36 false, gX 40 (.fieldAddr 1) [.slot 7] [] [] 36 false, gX 41 (.load false 1) [.slot 40] [0] [] 36 false, ⟨some 42, .call ⟨65, vs 2, no 2, [.val false 1], ims 1, true⟩, (sl [39, 41]), [], [], some (36, false), false, .none⟩, gX 43 (.bin .eql) [.slot 42, cI 1] [] [] 36 false, gX 44 (.eqBool false) (sl [38, 43]) [] [] 36 false, op 45 .pick [.slot 36, cB true, .slot 44]]) (.cond (.slot 45) (.seq (rG [op 4 .move [cI 0], op 5 .move [cB false]]) (.ret)) (.skip))) (rG [mv 46 1, fA 47 1 7, lN 48 47 0, op 49 (.bin .shl) [cI 1, .slot 48], o2 50 (.bin .xor) 46 49, mv 1 50])))) (rG [op 51 (.bin .add) [.slot 13, cI 1], mv 13 51])))
def zy.c2 : XCode := .seq (rG [mv 52 1, mv 4 52, op 5 .move [cB true]]) (.ret)
def zy.x : XFunc := { nslots := 53, nobj := 1, pars := [.val false 1, .val false 1], rowsIn := no 2, rets := [.tmp 4 false 1, .tmp 5 false 1], outs := iF 2, fresh := true, arg := .pair (.list T1_4) (.int .i64), ret := .pair (.int .i64) (.bool), body := .seq (rG [op 4 .move [cI 0], op 5 .move [cB false]]) (.seq (.seq (rG [mv 8 0, o1 9 .len 8, op 10 (.bin .gtr) [.slot 9, cI 64]]) (.cond (.slot 10) (.seq (rG [op 4 .move [cI 0], op 5 .move [cB false]]) (.ret)) (.skip))) (.seq (.seq (rG [mv 11 0, o1 12 .len 11, op 13 .move [cI 0]]) (.block 0 (.loop [.keep [0, 1, 11, 12, 13], .drop 0, .norm] (zy.c1)))) (zy.c2))) }
def zy.env (N : Nat) : Env := envOf (tbl [(68, yk.fs N), (65, zAD.fs N)] noFS)
def zy.F (N : Nat) (x : (List (Int × Int × Bool)) × Int) : Option (Int × Bool) := XFunc.run zy.x (zy.env N) N x
def zy.fs (N : Nat) : FS := { arg := zy.x.arg, ret := zy.x.ret, fresh := true, F := zy.F N }
def zy.k2 (N : Nat) : Ex -> S -> Option (Int × Bool) := seqK (fun s => XCode.runK (zy.env N) N (zy.c2) s (XFunc.endK zy.x)) (XFunc.endK zy.x)
def zy.k1 (N : Nat) : Ex -> S -> Option (Int × Bool) := zAh 0 (zy.k2 N)
def zy.L1 (N : Nat) (n1 : Nat) (l_ : List (Int × Int × Bool)) (down : Int) (t11 : List (Int × Int × Bool)) (t12 : Int) (t13 : Int) : Option (Int × Bool) := loopK [.keep [0, 1, 11, 12, 13], .drop 0, .norm] (fun s k => XCode.runK (zy.env N) N zy.c1 s k) n1
 { t := jK 53 [(0, .one (.sl false T1_4 l_)), (1, .one (.int .i64 down)), (11, .one (.sl false T1_4 t11)), (12, .one (.int .i64 t12)), (13, .one (.int .i64 t13))], h := [.absent 0] }
 (zy.k1 N)
theorem zy.L1_eq (N : Nat) (n1 : Nat) (l_ : List (Int × Int × Bool)) (down : Int) (t11 : List (Int × Int × Bool)) (t12 : Int) (t13 : Int) : zy.L1 N (n1 + 1) l_ down t11 t12 t13 =
bif decide (t13 < t12) then
bif zu t13 (t11.length) then
bindO (yk.F N ((nth (0, (0, false)) t11 t13).1, ((nth (0, (0, false)) t11 t13).2))) fun r1 =>
bif !r1 then
some (0, false)
else
bif decide (t13 > 0) then
bif zu (IntKind.wrap .i64 (t13 - 1)) (l_.length) then
bif decide (((nth (0, (0, false)) l_ (IntKind.wrap .i64 (t13 - 1))).1) > ((nth (0, (0, false)) t11 t13).1)) then
some (0, false)
else
bindO (zAD.F N (down, ((nth (0, (0, false)) t11 t13).2).1)) fun r2 =>
bif (((nth (0, (0, false)) t11 t13).2).2) == (r2 == 1) then
some (0, false)
else
bif decide (0 <= ((nth (0, (0, false)) t11 t13).2).1) then
zy.L1 N n1 l_ (zBa .i64 down (zBS .i64 1 (((nth (0, (0, false)) t11 t13).2).1))) t11 t12 (IntKind.wrap .i64 (t13 + 1))
else none
else none
else
bindO (zAD.F N (down, ((nth (0, (0, false)) t11 t13).2).1)) fun r3 =>
bif (((nth (0, (0, false)) t11 t13).2).2) == (r3 == 1) then
some (0, false)
else
bif decide (0 <= ((nth (0, (0, false)) t11 t13).2).1) then
zy.L1 N n1 l_ (zBa .i64 down (zBS .i64 1 (((nth (0, (0, false)) t11 t13).2).1))) t11 t12 (IntKind.wrap .i64 (t13 + 1))
else none
else none
else
some (down, true) := by kernel_rfl
theorem zy.F_eq (N : Nat) (l_ : List (Int × Int × Bool)) (down : Int) : zy.F N (l_, down) =
bif decide ((l_.length : Int) > 64) then
some (0, false)
else
zy.L1 N N l_ down l_ (l_.length : Int) 0 := by kernel_rfl
def zS.c1 : XCode := .seq (rG [o2 14 (.bin .lss) 13 12]) (.seq (.cond (.slot 14) (.skip) (.exit 0)) (.seq (.block 1 (.seq (rG [o2 15 (.indexAddr T1_4) 11 13, o1 16 (.load true 3) 15, ow 8 (.alloc 0 [cZ, cZ, .bool false]) [] [0] [0], sT 3 8 16 0]) (.seq (rG [fA 17 1 8, lN 18 17 0, mv 19 2, o2 20 (.bin .geq) 18 19]) (.cond (.slot 20) (.seq (rG [op 6 .move [cB false]]) (.ret)) (.skip))))) (rG [op 21 (.bin .add) [.slot 13, cI 1], mv 13 21])))
def zS.c2 : XCode := .seq (rG [mv 23 0, mv 24 1, o2 25 (.call ⟨69, vs 2, no 2, (rB 2), ims 2, true⟩) 23 24, mv 22 25, eX 26 0 22, eX 27 1 22, mv 9 26, mv 10 27]) (.seq (rG [mv 28 10, mv 6 28]) (.ret))
def zS.x : XFunc := { nslots := 29, nobj := 1, pars := [.val false 1, .val false 1, .val false 1], rowsIn := no 3, rets := [.tmp 6 false 1], outs := [.imm], fresh := true, arg := .pair (.list T1_4) (.pair (.int .i64) (.int .i64)), ret := .bool, body := .seq (rG [op 6 .move [cB false]]) (.seq (.seq (rG [mv 11 0, o1 12 .len 11, op 13 .move [cI 0]]) (.block 0 (.loop [.keep [0, 1, 2, 11, 12, 13], .drop 0, .norm] (zS.c1)))) (zS.c2)) }
def zS.env (N : Nat) : Env := envOf (tbl [(69, zy.fs N)] noFS)
def zS.F (N : Nat) (x : (List (Int × Int × Bool)) × Int × Int) : Option Bool := XFunc.run zS.x (zS.env N) N x
def zS.fs (N : Nat) : FS := { arg := zS.x.arg, ret := zS.x.ret, fresh := true, F := zS.F N }
def zS.k2 (N : Nat) : Ex -> S -> Option Bool := seqK (fun s => XCode.runK (zS.env N) N (zS.c2) s (XFunc.endK zS.x)) (XFunc.endK zS.x)
def zS.k1 (N : Nat) : Ex -> S -> Option Bool := zAh 0 (zS.k2 N)
def zS.L1 (N : Nat) (n1 : Nat) (queue : List (Int × Int × Bool)) (down : Int) (keys : Int) (t11 : List (Int × Int × Bool)) (t12 : Int) (t13 : Int) : Option Bool := loopK [.keep [0, 1, 2, 11, 12, 13], .drop 0, .norm] (fun s k => XCode.runK (zS.env N) N zS.c1 s k) n1
 { t := jK 29 [(0, .one (.sl false T1_4 queue)), (1, .one (.int .i64 down)), (2, .one (.int .i64 keys)), (11, .one (.sl false T1_4 t11)), (12, .one (.int .i64 t12)), (13, .one (.int .i64 t13))], h := [.absent 0] }
 (zS.k1 N)
theorem zS.L1_eq (N : Nat) (n1 : Nat) (queue : List (Int × Int × Bool)) (down : Int) (keys : Int) (t11 : List (Int × Int × Bool)) (t12 : Int) (t13 : Int) : zS.L1 N (n1 + 1) queue down keys t11 t12 t13 =
bif decide (t13 < t12) then
bif zu t13 (t11.length) then
bif decide ((((nth (0, (0, false)) t11 t13).2).1) >= keys) then
some false
else
zS.L1 N n1 queue down keys t11 t12 (IntKind.wrap .i64 (t13 + 1))
else none
else
bindO (zy.F N (queue, down)) fun r1 =>
some r1.2 := by kernel_rfl
theorem zS.F_eq (N : Nat) (queue : List (Int × Int × Bool)) (down : Int) (keys : Int) : zS.F N (queue, down, keys) =
zS.L1 N N queue down keys queue (queue.length : Int) 0 := by kernel_rfl
def yH.x : XFunc := { nslots := 19, nobj := 0, pars := [.val false 1, .val false 1], rowsIn := no 2, rets := [.tmp 4 false 1], outs := [.imm], fresh := true, arg := .pair (.list T1_4) (.int .i64), ret := .bool, body := .seq (rG [op 4 .move [cB false]]) (.seq (rG [mv 5 0, o1 6 .len 5, op 7 (.bin .eql) [.slot 6, cI 0], sX 8 [.slot 7], gX 9 .move [.slot 0] [] [] 8 false, gX 10 .move [.slot 0] [] [] 8 false, gX 11 .len [.slot 10] [] [] 8 false, gX 12 (.bin .sub) [.slot 11, cI 1] [] [] 8 false, gX 13 (.indexAddr T1_4) (sl [9, 12]) [] [] 8 false, gX 14 (.fieldAddr 0) [.slot 13] [] [] 8 false, gX 15 (.load false 1) [.slot 14] [] [] 8 false, gX 16 .move [.slot 1] [] [] 8 false, gX 17 (.bin .leq) (sl [15, 16]) [] [] 8 false, op 18 .pick [.slot 8, cB true, .slot 17], mv 4 18]) (.ret)) }
def yH.env (_ : Nat) : Env := envOf (tbl [] noFS)
def yH.F (N : Nat) (x : (List (Int × Int × Bool)) × Int) : Option Bool := XFunc.run yH.x (yH.env N) N x
def yH.fs (N : Nat) : FS := { arg := yH.x.arg, ret := yH.x.ret, fresh := true, F := yH.F N }
theorem yH.F_eq (N : Nat) (l_ : List (Int × Int × Bool)) (time : Int) : yH.F N (l_, time) =
bif (l_.length : Int) == 0 then
some true
else
bif zu (IntKind.wrap .i64 ((l_.length : Int) - 1)) (l_.length) then
some (decide (((nth (0, (0, false)) l_ (IntKind.wrap .i64 ((l_.length : Int) - 1))).1) <= time))
else none := by kernel_rfl
end Go.Kb
namespace Go.Kb
theorem shr_nat (k : IntKind) (a j : Nat) (hj : j <= k.bits) : zCA k (a : Int) (j : Int) = ((a >>> j : Nat) : Int) := by
 simp only [zCA, Int.toNat_natCast, Nat.min_eq_left hj]
 rw [Int.fdiv_eq_ediv_of_nonneg _ (by exact Int.le_of_lt (Int.pow_pos (by omega)))]
 rw [Nat.shiftRight_eq_div_pow]
 simp
theorem andI (a b : Nat) (ha : a < 9223372036854775808) (hb : b < 9223372036854775808) : zBg .i64 (a : Int) (b : Int) = ((a &&& b : Nat) : Int) := by
 have hx : a &&& b <= b := Nat.and_le_right
 have e : ∀ n : Nat, n < 9223372036854775808 -> (BitVec.ofInt 64 (n : Int)).toNat = n := by
  intro n hn
  rw [BitVec.ofInt_natCast, BitVec.toNat_ofNat]; exact Nat.mod_eq_of_lt (by omega)
 show IntKind.i64.wrap ((BitVec.ofInt 64 (a : Int) &&& BitVec.ofInt 64 (b : Int)).toNat : Int) = _
 rw [BitVec.toNat_and, e a ha, e b hb, zAl (by omega) (by omega)]
def n1 (x : Nat) : Nat := ((x >>> 1) &&& 6148914691236517205) + (x &&& 6148914691236517205)
def n2 (x : Nat) : Nat := ((x >>> 2) &&& 3689348814741910323) + (x &&& 3689348814741910323)
def n3 (x : Nat) : Nat := ((x >>> 4) + x) &&& 1085102592571150095
def n4 (x : Nat) : Nat := x + (x >>> 8)
theorem shr_le (x k : Nat) : x >>> k <= x := by rw [Nat.shiftRight_eq_div_pow]; exact Nat.div_le_self _ _
def cntN : Nat -> Nat -> Nat
 | 0, _ => 0
 | m + 1, x => x % 2 + cntN m (x / 2)
def t1 (b : Nat) : Nat := ((b / 2) &&& 85) + (b &&& 85)
def t2 (b : Nat) : Nat := ((b / 4) &&& 51) + (b &&& 51)
def t3 (b : Nat) : Nat := (b / 16 + b) &&& 15
theorem f1 : ∀ b, b < 256 -> ∀ e, e < 2 -> (b / 2 + 128 * e) &&& 85 = (b / 2) &&& 85 := by decide +kernel
theorem f2 : ∀ b, b < 256 -> ∀ e, e < 4 -> (b / 4 + 64 * e) &&& 51 = (b / 4) &&& 51 := by decide +kernel
theorem f3 : ∀ b, b < 256 -> t2 (t1 b) % 16 <= 4 /\ t2 (t1 b) <= 68 := by decide +kernel
theorem f4 : ∀ b, b < 256 -> ∀ e, e < 5 -> (t2 (t1 b) / 16 + 16 * e + t2 (t1 b)) &&& 15 = t3 (t2 (t1 b)) := by decide +kernel
theorem f6 : ∀ b, b < 256 -> cntN 8 b <= 8 := by decide +kernel
end Go.Kb
namespace Go.Kb
abbrev Cb := Int × Int
end Go.Kb
namespace Go.Kb
abbrev Cm := List Cb × Int × List (Int × Int × Bool) × Int × Int × Int × List (Int × Int × Bool)
def idle (l : List Cb) (t : Int) : Cm := (l, t, [], 0, 0, 0, [])
end Go.Kb
namespace Go.Kb
end Go.Kb
namespace Go.Kb
end Go.Kb
namespace Go.Kb
abbrev Ev := Int × Int × Bool
end Go.Kb
namespace Go.Kb
theorem shl_one (o : Nat) (h : o <= 31) : zBS .i64 1 (o : Int) = ((2 ^ o : Nat) : Int) := by
 have h2 : 2 ^ o <= 2 ^ 31 := Nat.pow_le_pow_right (by omega) h
 simp only [zBS, IntKind.bits, Int.toNat_natCast]
 rw [Nat.min_eq_left (by omega), Int.one_mul]
 have e : (2 : Int) ^ o = ((2 ^ o : Nat) : Int) := by simp
 rw [e]
 generalize 2 ^ o = p at h2 ⊢
 exact zAl (by omega) (by omega)
section
variable (N : Nat) (q1 : List Cb) (q2 : Int) (q3 : List Ev) (q4 q5 q6 : Int) (a : List Ev)
end
end Go.Kb
namespace Go.Kb
def isEv (t k : Int) : Bool := decide (0 <= t /\ t <= 1000000) && decide (0 <= k /\ k <= 31)
theorem IsEv_impl (N : Nat) (t : Int) (kv : Int × Bool) : yk.F N (t, kv) = some (isEv t kv.1) := by
 rw [yk.F_eq]
 unfold isEv
 by_cases a : 0 <= t <;> by_cases b : t <= 1000000 <;> by_cases c : 0 <= kv.1 <;> by_cases d : kv.1 <= 31 <;> simp [a, b, c, d]
end Go.Kb
namespace Go.Kb
structure smallC (c : Cm) : Prop where
 a : c.1.length <= 1048576
 b : c.2.2.1.length <= 1048576
 d : c.2.2.2.2.2.2.length <= 1048576
structure wellC (c : Cm) : Prop where
 a : c.1.length <= maxLen
 b : c.2.2.1.length <= maxLen
 d : c.2.2.2.2.2.2.length <= maxLen
 m : ∀ x ∈ c.2.2.2.2.2.2, x.2.1 <= 9223372036854775807
end Go.Kb
namespace Go.Kb
end Go.Kb
namespace Go.Kb
end Go.Kb
namespace Go.Kb
end Go.Kb
namespace Go.Kb
def bitK (k : Int) : Int := zBS .i64 1 k
structure Sc where
 q : List Ev
 ck : Int
 dn : Int
 ac : List Ev
end Go.Kb
namespace Go.Kb
end Go.Kb
namespace Go.Kb
def Sc.cm (s : Sc) (l : List Cb) (term now : Int) : Cm := (l, (term, (s.q, (now, (s.ck, (s.dn, s.ac))))))
end Go.Kb
namespace Go.Kb
end Go.Kb
namespace Go.Kb
end Go.Kb
namespace Go.Kb
structure outC (r : Cm × List Ev × Bool) : Prop where
 a : r.1.1.length <= 1048576
 b : r.1.2.2.1.length <= 64
 d : r.1.2.2.2.2.2.2.length <= 1048640
 e : r.2.1.length <= 64
end Go.Kb
namespace Go.Kb
theorem andNotN (a b : Nat) (ha : a < 9223372036854775808) (hb : b < 9223372036854775808) : zA8 .i64 (a : Int) (b : Int) = ((a ^^^ (a &&& b) : Nat) : Int) := by
 have hx : a ^^^ (a &&& b) < 2 ^ 63 := Nat.xor_lt_two_pow (by omega) (Nat.lt_of_le_of_lt Nat.and_le_left (by omega))
 have e : ∀ n : Nat, n < 9223372036854775808 -> (BitVec.ofInt 64 (n : Int)).toNat = n := by
  intro n hn
  rw [BitVec.ofInt_natCast, BitVec.toNat_ofNat]; exact Nat.mod_eq_of_lt (by omega)
 show IntKind.i64.wrap ((BitVec.ofInt 64 (a : Int) &&& ~~~(BitVec.ofInt 64 (b : Int))).toNat : Int) = _
 have h : ∀ x y : BitVec 64, x &&& ~~~y = x ^^^ (x &&& y) := by
  intro x y
  apply BitVec.eq_of_getLsbD_eq
  intro i hi
  simp only [BitVec.getLsbD_and, BitVec.getLsbD_not, BitVec.getLsbD_xor, hi, decide_true, Bool.true_and]
  cases x.getLsbD i <;> cases y.getLsbD i <;> rfl
 rw [h, BitVec.toNat_xor, BitVec.toNat_and, e a ha, e b hb, zAl (by omega) (by omega)]
theorem or_bit (x k i : Nat) : (x ||| 2 ^ k).testBit i = (x.testBit i || decide (k = i)) := by
 simp only [Nat.testBit_or, Nat.testBit_two_pow]
theorem xor_bit (x k i : Nat) : (x ^^^ 2 ^ k).testBit i = (x.testBit i ^^ decide (k = i)) := by
 simp only [Nat.testBit_xor, Nat.testBit_two_pow]
theorem two_pow_small {k : Nat} (h : k <= 31) : 2 ^ k <= 2147483648 := by
 have := Nat.pow_le_pow_right (show 0 < 2 by omega) h
 exact this
theorem or_lt32 {a b : Nat} (ha : a < 4294967296) (hb : b < 4294967296) : a ||| b < 4294967296 := by
 have := Nat.or_lt_two_pow (n := 32) (x := a) (y := b) (by omega) (by omega)
 omega
theorem pow_lt32 {k : Nat} (h : k < 32) : 2 ^ k < 4294967296 := by
 have : 2 ^ k < 2 ^ 32 := Nat.pow_lt_pow_right (by omega) h
 omega
theorem bitK_nat {k : Nat} (h : k <= 31) : bitK (k : Int) = ((2 ^ k : Nat) : Int) := shl_one k h
theorem bitOf {m k : Nat} (hm : m < 4294967296) (hk : k <= 31) : (zBg .i64 (zCA .i64 (m : Int) (k : Int)) 1 == 1) = m.testBit k := by
 have hl := shr_le m k
 have a := andI (m >>> k) 1 (by omega) (by omega)
 rw [show ((1 : Nat) : Int) = 1 from rfl, Nat.and_one_is_mod] at a
 rw [shr_nat .i64 m k (by simp only [IntKind.bits]; omega), a, Nat.testBit_eq_decide_div_mod_eq, <- Nat.shiftRight_eq_div_pow, beqI]
 by_cases h : m >>> k % 2 = 1
 ·rw [dT h, dT (by omega)]
 ·rw [dF h, dF (by omega)]
theorem xorI {h k : Nat} (hh : h < 4294967296) (hk : k <= 31) : zBa .i64 (h : Int) (zBS .i64 1 (k : Int)) = ((h ^^^ 2 ^ k : Nat) : Int) := by
 have p := two_pow_small hk
 rw [shl_one k hk]
 exact bitXor_nat h (2 ^ k) (by omega) (by omega)
theorem orI {h k : Nat} (hh : h < 4294967296) (hk : k <= 31) : bitOr .i64 (h : Int) (bitK (k : Int)) = ((h ||| 2 ^ k : Nat) : Int) := by
 have p := two_pow_small hk
 rw [bitK_nat hk]
 exact bitOr_nat h (2 ^ k) (by omega) (by omega)
def fol (K : Nat) : Nat -> Int -> List Ev -> Prop
 | _, _, [] => True
 | h, t, e :: r => t <= e.1 /\ e.1 <= 1000000 /\ ∃ k : Nat, k < K /\ e.2.1 = (k : Int) /\ e.2.2 = !(h.testBit k) /\ fol K (h ^^^ 2 ^ k) e.1 r
def hA (h : Nat) (l : List Ev) : Nat := l.foldl (fun h e => h ^^^ 2 ^ e.2.1.toNat) h
def lT (t : Int) (l : List Ev) : Int := l.foldl (fun _ e => e.1) t
theorem fol_append (K : Nat) : ∀ (a : List Ev) (h : Nat) (t : Int) (b : List Ev), fol K h t (a ++ b) ↔ fol K h t a /\ fol K (hA h a) (lT t a) b := by
 intro a
 induction a with
 | nil => intro h t b; simp [fol, hA, lT]
 | cons e r ih =>
  intro h t b
  simp only [List.cons_append, fol]
  constructor
  ·rintro ⟨h1, h2, k, h3, h4, h5, h6⟩
   rw [ih] at h6
   refine ⟨⟨h1, h2, k, h3, h4, h5, h6.1⟩, ?_⟩
   have : hA h (e :: r) = hA (h ^^^ 2 ^ k) r := by simp only [hA, List.foldl_cons, h4, Int.toNat_natCast]
   rw [this]; exact h6.2
  ·rintro ⟨⟨h1, h2, k, h3, h4, h5, h6⟩, h7⟩
   have : hA h (e :: r) = hA (h ^^^ 2 ^ k) r := by simp only [hA, List.foldl_cons, h4, Int.toNat_natCast]
   rw [this] at h7
   exact ⟨h1, h2, k, h3, h4, h5, (ih _ _ _).2 ⟨h6, h7⟩⟩
theorem fol_mono {K K' : Nat} (hK : K <= K') : ∀ (a : List Ev) (h : Nat) (t t' : Int), t' <= t -> fol K h t a -> fol K' h t' a := by
 intro a
 induction a with
 | nil => intro h t t' _ _; trivial
 | cons e r ih =>
  rintro h t t' ht ⟨h1, h2, k, h3, h4, h5, h6⟩
  exact ⟨by omega, h2, k, by omega, h4, h5, ih _ _ _ (by omega) h6⟩
theorem lT_append (t : Int) (a b : List Ev) : lT t (a ++ b) = lT (lT t a) b := by simp only [lT, List.foldl_append]
theorem lT_ge (K : Nat) : ∀ (a : List Ev) (h : Nat) (t : Int), fol K h t a -> t <= lT t a := by
 intro a
 induction a with
 | nil => intro h t _; simp [lT]
 | cons e r ih =>
  rintro h t ⟨h1, h2, k, h3, h4, h5, h6⟩
  have := ih _ _ h6
  simp only [lT, List.foldl_cons] at this ⊢
  omega
theorem fol_time (K : Nat) : ∀ (a : List Ev) (h : Nat) (t : Int), fol K h t a -> ∀ e ∈ a, t <= e.1 /\ e.1 <= lT t a /\ e.1 <= 1000000 := by
 intro a
 induction a with
 | nil => intro h t _ e he; cases he
 | cons x r ih =>
  rintro h t ⟨h1, h2, k, h3, h4, h5, h6⟩ e he
  have g := lT_ge K r _ _ h6
  have e1 : lT t (x :: r) = lT x.1 r := by simp only [lT, List.foldl_cons]
  rw [e1]
  rcases List.mem_cons.1 he with rfl | he
  ·exact ⟨h1, g, h2⟩
  ·have := ih _ _ h6 e he
   omega
end Go.Kb
