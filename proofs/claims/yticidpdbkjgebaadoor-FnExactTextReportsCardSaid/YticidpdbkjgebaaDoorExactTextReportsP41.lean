/- The names of the codes; characters and keys. -/
import Derived.Test.YticidpdbkjgebaaDoorExactTextReportsF9
import Derived.Test.YticidpdbkjgebaaDoorExactTextReportsP8
namespace Go.Kb
set_option maxRecDepth 100000
def codeNames : List UInt8 := [97, 32, 98, 32, 99, 32, 100, 32, 101, 32, 102, 32, 103, 32, 104, 32, 105, 32, 106, 32, 107, 32, 108, 32, 109, 32, 110, 32, 111, 32, 112, 32, 113, 32, 114, 32, 115, 32, 116, 32, 117, 32, 118, 32, 119, 32, 120, 32, 121, 32, 122, 32, 49, 32, 50, 32, 51, 32, 52, 32, 53, 32, 54, 32, 55, 32, 56, 32, 57, 32, 48, 32, 101, 110, 116, 101, 114, 32, 101, 115, 99, 32, 98, 97, 99, 107, 32, 116, 97, 98, 32, 115, 112, 97, 99, 101, 32, 109, 105, 110, 117, 115, 32, 101, 113, 117, 97, 108, 32, 108, 101, 102, 116, 32, 114, 105, 103, 104, 116, 32, 117, 112, 32, 100, 111, 119, 110, 32, 102, 49, 32, 102, 50, 32, 102, 51, 32, 102, 52, 32, 102, 53, 32, 102, 54, 32, 102, 55, 32, 102, 56, 32, 102, 57]
def tblNames : List (List UInt8) := [[97], [98], [99], [100], [101], [102], [103], [104], [105], [106], [107], [108], [109], [110], [111], [112], [113], [114], [115], [116], [117], [118], [119], [120], [121], [122], [49], [50], [51], [52], [53], [54], [55], [56], [57], [48], [101, 110, 116, 101, 114], [101, 115, 99], [98, 97, 99, 107], [116, 97, 98], [115, 112, 97, 99, 101], [109, 105, 110, 117, 115], [101, 113, 117, 97, 108], [108, 101, 102, 116], [114, 105, 103, 104, 116], [117, 112], [100, 111, 119, 110], [102, 49], [102, 50], [102, 51], [102, 52], [102, 53], [102, 54], [102, 55], [102, 56], [102, 57]]
def joinW : List (List UInt8) → List UInt8 → List UInt8
  | [], w => w
  | x :: xs, w => x ++ 32 :: joinW xs w
theorem index_word (w r : List UInt8) (h : w.contains 32 = false) : Lib.index (w ++ 32 :: r) [32] = (w.length : Int) := by
  induction w with
  | nil => simp [Lib.index]
  | cons a w ih =>
    simp only [List.contains_cons, Bool.or_eq_false_iff] at h
    rw [List.cons_append, Lib.index, ih h.2]
    have e : ([32] : List UInt8).isPrefixOf (a :: (w ++ 32 :: r)) = false := by
      have := h.1
      simp [List.isPrefixOf, this]
    rw [e]
    have e2 : (((w.length : Int)) == -1) = false := by
      rw [beq_eq_false_iff_ne]; omega
    simp [e2]
theorem split_words : ∀ (xs : List (List UInt8)) (w : List UInt8), (∀ x ∈ xs, x.contains 32 = false) → Lib.splitK [32] 0 xs.length (joinW xs w) = xs ++ [w]
  | [], w, _ => rfl
  | x :: xs, w, h => by
    rw [List.length_cons, Lib.splitK, joinW, index_word x _ (h x List.mem_cons_self)]
    have e2 : (((x.length : Int)) == -1) = false := by
      rw [beq_eq_false_iff_ne]; omega
    simp only [e2, Int.toNat_natCast]
    have := split_words xs w fun y hy => h y (List.mem_cons_of_mem _ hy)
    simp [this]
theorem count_words : ∀ (xs : List (List UInt8)) (w : List UInt8), (∀ x ∈ xs, x.contains 32 = false) → w.contains 32 = false → (joinW xs w).count 32 = xs.length
  | [], w, _, hw => by
    rw [joinW, List.length_nil, List.count_eq_zero]
    simpa using hw
  | x :: xs, w, h, hw => by
    have h1 := h x List.mem_cons_self
    rw [joinW, List.count_append, List.count_cons_self, count_words xs w (fun y hy => h y (List.mem_cons_of_mem _ hy)) hw]
    have : x.count 32 = 0 := by
      rw [List.count_eq_zero]
      simpa using h1
    rw [this, List.length_cons]; omega
theorem names_join : codeNames = joinW (tblNames.take 55) [102, 57] := by decide
theorem splitNames : splitL codeNames [32] = tblNames := by
  have hx : ∀ x ∈ tblNames.take 55, x.contains 32 = false := by decide
  unfold splitL
  rw [Lib.splitB_data]
  show Lib.splitK [32] 0 (Lib.count codeNames [32]) codeNames = tblNames
  rw [Lib.count_one, names_join, count_words _ _ hx (by decide), split_words _ _ hx]
  decide
def sp (s : List UInt8) (by_ : Int) : Nat → Int → Int → List (List UInt8) → Option (List (List UInt8))
  | 0, _, _, _ => none
  | n1 + 1, from_, i, o0 =>
    bif decide (i ≤ (List.length s : Int)) then
      bif i == (List.length s : Int) then
        bif bounds from_ i (List.length s) then
        bif decide (List.length o0 + List.length ([List.drop (Int.toNat from_) (List.take (Int.toNat i) s)] : List (List UInt8)) ≤ maxN) then
        sp s by_ n1 (IntKind.wrap .i64 (i + (1 : Int))) (IntKind.wrap .i64 (i + (1 : Int))) (o0 ++ ([List.drop (Int.toNat from_) (List.take (Int.toNat i) s)] : List (List UInt8)))
        else none
        else none
      else
        bif inRange i (List.length s) then
        bif (UInt8.toNat (nth (0 : UInt8) s i) : Int) == by_ then
          bif bounds from_ i (List.length s) then
          bif decide (List.length o0 + List.length ([List.drop (Int.toNat from_) (List.take (Int.toNat i) s)] : List (List UInt8)) ≤ maxN) then
          sp s by_ n1 (IntKind.wrap .i64 (i + (1 : Int))) (IntKind.wrap .i64 (i + (1 : Int))) (o0 ++ ([List.drop (Int.toNat from_) (List.take (Int.toNat i) s)] : List (List UInt8)))
          else none
          else none
        else
          sp s by_ n1 from_ (IntKind.wrap .i64 (i + (1 : Int))) o0
        else none
    else
      some o0
theorem sp_eq (N : Nat) (s : List UInt8) (by_ : Int) : ∀ (n : Nat) (f i : Int) (o : List (List UInt8)), spec_SplitText.L1 N n s by_ f i o = sp s by_ n f i o
  | 0, _, _, _ => rfl
  | n + 1, f, i, o => by
    rw [spec_SplitText.L1_eq]
    simp only [sp_eq N s by_ n]
    rfl
theorem spNames : sp codeNames 32 200 0 0 [] = some tblNames := by kernel_rfl
theorem split_ext (N : Nat) : ext_strings_Split.F N (codeNames, [32]) = some tblNames := by
  unfold ext_strings_Split.F
  have e : (Nat.blt codeNames.length 4294967281 && Nat.ble 1 ([32] : List UInt8).length) = true := by decide
  rw [e, cond_true, splitNames]
def inn (a b c : Int) : Bool := decide (b ≤ a) && decide (a ≤ c)
def cn (c : Int) : List UInt8 := bif inn c 1 56 then nth [] tblNames (c - 1) else []
end Go.Kb
