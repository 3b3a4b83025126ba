/- Characters of codes. -/
import Derived.Test.YticidpdbkjgebaaDoorExactTextReportsP41
import Derived.Test.YticidpdbkjgebaaDoorExactTextReportsP13
namespace Go.Kb
set_option maxRecDepth 100000
theorem CodeName_i (N : Nat) (c : Int) : impl_CodeName.F N c = some (cn c) := by
  rw [impl_CodeName.F_eq]
  have hs := split_ext N
  unfold codeNames at hs
  rw [hs]
  unfold cn inn
  by_cases h1 : c < 1
  · have d2 : (decide (1 ≤ c)) = false := by rw [decide_eq_false_iff_not]; omega
    rw [decide_eq_true h1, d2]; rfl
  · by_cases h2 : c > 56
    · have d2 : (decide (c ≤ 56)) = false := by rw [decide_eq_false_iff_not]; omega
      rw [decide_eq_false h1, decide_eq_true h2, d2, Bool.and_false]; rfl
    · obtain ⟨k, rfl⟩ : ∃ k : Nat, c = (k : Int) + 1 := ⟨(c - 1).toNat, by omega⟩
      have hk : k < 56 := by omega
      have e : (k : Int) + 1 - 1 = (k : Int) := by omega
      have w : IntKind.wrap .i64 ((k : Int)) = (k : Int) := wrap64 (by omega) (by omega)
      have hl : tblNames.length = 56 := rfl
      have d2 : (decide (1 ≤ (k : Int) + 1) && decide ((k : Int) + 1 ≤ 56)) = true := by
        rw [Bool.and_eq_true, decide_eq_true_eq, decide_eq_true_eq]; omega
      rw [decide_eq_false h1, decide_eq_false h2, d2, bindO_val, e, w, hl, inRange_nat, decide_eq_true hk]
      rfl
def sc (code mods : Int) : Option (List UInt8) :=
    bindO (some (decide ((1 : Int) ≤ code ∧ code ≤ (56 : Int)))) fun r1 =>
    bif !r1 then
      some ([] : List UInt8)
    else
      bindO (some (decide ((0 : Int) ≤ mods ∧ mods ≤ (15 : Int)))) fun r2 =>
      bif !r2 then
        some ([] : List UInt8)
      else
        bif (bitAndNot .i64 mods (2 : Int)) != (0 : Int) then
          some ([] : List UInt8)
        else
          bif decide (code ≤ (26 : Int)) then
            bif decide ((bitAnd .i64 mods (2 : Int)) > (0 : Int)) then
              some (bytesOf ([IntKind.wrap .u8 (IntKind.wrap .i64 ((64 : Int) + code))] : List Int))
            else
              bif decide (code ≤ (36 : Int)) then
                bif decide ((bitAnd .i64 mods (2 : Int)) > (0 : Int)) then
                  bif bounds (IntKind.wrap .i64 (code - (27 : Int))) (IntKind.wrap .i64 (code - (26 : Int))) (List.length ([33, 64, 35, 36, 37, 94, 38, 42, 40, 41] : List UInt8)) then
                  some (List.drop (Int.toNat (IntKind.wrap .i64 (code - (27 : Int)))) (List.take (Int.toNat (IntKind.wrap .i64 (code - (26 : Int)))) ([33, 64, 35, 36, 37, 94, 38, 42, 40, 41] : List UInt8)))
                  else none
                else
                  bif decide (code ≤ (36 : Int)) then
                    bindO (some (cn code)) fun r3 =>
                    some r3
                  else
                    bif code == (37 : Int) then
                      some ([10] : List UInt8)
                    else
                      bif code == (40 : Int) then
                        some ([9] : List UInt8)
                      else
                        bif code == (41 : Int) then
                          some ([32] : List UInt8)
                        else
                          bif code == (42 : Int) then
                            bif decide ((bitAnd .i64 mods (2 : Int)) > (0 : Int)) then
                              some ([95] : List UInt8)
                            else
                              bif code == (42 : Int) then
                                some ([45] : List UInt8)
                              else
                                bif code == (43 : Int) then
                                  bif decide ((bitAnd .i64 mods (2 : Int)) > (0 : Int)) then
                                    some ([43] : List UInt8)
                                  else
                                    bif code == (43 : Int) then
                                      some ([61] : List UInt8)
                                    else
                                      some ([] : List UInt8)
                                else
                                  bif code == (43 : Int) then
                                    some ([61] : List UInt8)
                                  else
                                    some ([] : List UInt8)
                          else
                            bif code == (42 : Int) then
                              some ([45] : List UInt8)
                            else
                              bif code == (43 : Int) then
                                bif decide ((bitAnd .i64 mods (2 : Int)) > (0 : Int)) then
                                  some ([43] : List UInt8)
                                else
                                  bif code == (43 : Int) then
                                    some ([61] : List UInt8)
                                  else
                                    some ([] : List UInt8)
                              else
                                bif code == (43 : Int) then
                                  some ([61] : List UInt8)
                                else
                                  some ([] : List UInt8)
              else
                bif decide (code ≤ (36 : Int)) then
                  bindO (some (cn code)) fun r4 =>
                  some r4
                else
                  bif code == (37 : Int) then
                    some ([10] : List UInt8)
                  else
                    bif code == (40 : Int) then
                      some ([9] : List UInt8)
                    else
                      bif code == (41 : Int) then
                        some ([32] : List UInt8)
                      else
                        bif code == (42 : Int) then
                          bif decide ((bitAnd .i64 mods (2 : Int)) > (0 : Int)) then
                            some ([95] : List UInt8)
                          else
                            bif code == (42 : Int) then
                              some ([45] : List UInt8)
                            else
                              bif code == (43 : Int) then
                                bif decide ((bitAnd .i64 mods (2 : Int)) > (0 : Int)) then
                                  some ([43] : List UInt8)
                                else
                                  bif code == (43 : Int) then
                                    some ([61] : List UInt8)
                                  else
                                    some ([] : List UInt8)
                              else
                                bif code == (43 : Int) then
                                  some ([61] : List UInt8)
                                else
                                  some ([] : List UInt8)
                        else
                          bif code == (42 : Int) then
                            some ([45] : List UInt8)
                          else
                            bif code == (43 : Int) then
                              bif decide ((bitAnd .i64 mods (2 : Int)) > (0 : Int)) then
                                some ([43] : List UInt8)
                              else
                                bif code == (43 : Int) then
                                  some ([61] : List UInt8)
                                else
                                  some ([] : List UInt8)
                            else
                              bif code == (43 : Int) then
                                some ([61] : List UInt8)
                              else
                                some ([] : List UInt8)
          else
            bif decide (code ≤ (36 : Int)) then
              bif decide ((bitAnd .i64 mods (2 : Int)) > (0 : Int)) then
                bif bounds (IntKind.wrap .i64 (code - (27 : Int))) (IntKind.wrap .i64 (code - (26 : Int))) (List.length ([33, 64, 35, 36, 37, 94, 38, 42, 40, 41] : List UInt8)) then
                some (List.drop (Int.toNat (IntKind.wrap .i64 (code - (27 : Int)))) (List.take (Int.toNat (IntKind.wrap .i64 (code - (26 : Int)))) ([33, 64, 35, 36, 37, 94, 38, 42, 40, 41] : List UInt8)))
                else none
              else
                bif decide (code ≤ (36 : Int)) then
                  bindO (some (cn code)) fun r5 =>
                  some r5
                else
                  bif code == (37 : Int) then
                    some ([10] : List UInt8)
                  else
                    bif code == (40 : Int) then
                      some ([9] : List UInt8)
                    else
                      bif code == (41 : Int) then
                        some ([32] : List UInt8)
                      else
                        bif code == (42 : Int) then
                          bif decide ((bitAnd .i64 mods (2 : Int)) > (0 : Int)) then
                            some ([95] : List UInt8)
                          else
                            bif code == (42 : Int) then
                              some ([45] : List UInt8)
                            else
                              bif code == (43 : Int) then
                                bif decide ((bitAnd .i64 mods (2 : Int)) > (0 : Int)) then
                                  some ([43] : List UInt8)
                                else
                                  bif code == (43 : Int) then
                                    some ([61] : List UInt8)
                                  else
                                    some ([] : List UInt8)
                              else
                                bif code == (43 : Int) then
                                  some ([61] : List UInt8)
                                else
                                  some ([] : List UInt8)
                        else
                          bif code == (42 : Int) then
                            some ([45] : List UInt8)
                          else
                            bif code == (43 : Int) then
                              bif decide ((bitAnd .i64 mods (2 : Int)) > (0 : Int)) then
                                some ([43] : List UInt8)
                              else
                                bif code == (43 : Int) then
                                  some ([61] : List UInt8)
                                else
                                  some ([] : List UInt8)
                            else
                              bif code == (43 : Int) then
                                some ([61] : List UInt8)
                              else
                                some ([] : List UInt8)
            else
              bif decide (code ≤ (36 : Int)) then
                bindO (some (cn code)) fun r6 =>
                some r6
              else
                bif code == (37 : Int) then
                  some ([10] : List UInt8)
                else
                  bif code == (40 : Int) then
                    some ([9] : List UInt8)
                  else
                    bif code == (41 : Int) then
                      some ([32] : List UInt8)
                    else
                      bif code == (42 : Int) then
                        bif decide ((bitAnd .i64 mods (2 : Int)) > (0 : Int)) then
                          some ([95] : List UInt8)
                        else
                          bif code == (42 : Int) then
                            some ([45] : List UInt8)
                          else
                            bif code == (43 : Int) then
                              bif decide ((bitAnd .i64 mods (2 : Int)) > (0 : Int)) then
                                some ([43] : List UInt8)
                              else
                                bif code == (43 : Int) then
                                  some ([61] : List UInt8)
                                else
                                  some ([] : List UInt8)
                            else
                              bif code == (43 : Int) then
                                some ([61] : List UInt8)
                              else
                                some ([] : List UInt8)
                      else
                        bif code == (42 : Int) then
                          some ([45] : List UInt8)
                        else
                          bif code == (43 : Int) then
                            bif decide ((bitAnd .i64 mods (2 : Int)) > (0 : Int)) then
                              some ([43] : List UInt8)
                            else
                              bif code == (43 : Int) then
                                some ([61] : List UInt8)
                              else
                                some ([] : List UInt8)
                          else
                            bif code == (43 : Int) then
                              some ([61] : List UInt8)
                            else
                              some ([] : List UInt8)
def ic (code mods : Int) : Option (List UInt8) :=
    bindO (some (decide ((1 : Int) ≤ code ∧ code ≤ (56 : Int)))) fun r1 =>
    bif !r1 then
      some ([] : List UInt8)
    else
      bif mods != (0 : Int) then
        bif mods != (2 : Int) then
          some ([] : List UInt8)
        else
          bif decide (code ≤ (26 : Int)) then
            bif mods == (2 : Int) then
              some (bytesOf ([IntKind.wrap .u8 (IntKind.wrap .i64 ((IntKind.wrap .i64 ((65 : Int) + code)) - (1 : Int)))] : List Int))
            else
              bif decide (code ≤ (26 : Int)) then
                bindO (some (cn code)) fun r2 =>
                some r2
              else
                bif decide (code ≤ (36 : Int)) then
                  bif mods == (2 : Int) then
                    bif bounds (IntKind.wrap .i64 (code - (27 : Int))) (IntKind.wrap .i64 (code - (26 : Int))) (List.length ([33, 64, 35, 36, 37, 94, 38, 42, 40, 41] : List UInt8)) then
                    some (List.drop (Int.toNat (IntKind.wrap .i64 (code - (27 : Int)))) (List.take (Int.toNat (IntKind.wrap .i64 (code - (26 : Int)))) ([33, 64, 35, 36, 37, 94, 38, 42, 40, 41] : List UInt8)))
                    else none
                  else
                    bif decide (code ≤ (36 : Int)) then
                      bindO (some (cn code)) fun r3 =>
                      some r3
                    else
                      bindO (some (cn code)) fun r4 =>
                      bif r4 == ([101, 110, 116, 101, 114] : List UInt8) then
                        some ([10] : List UInt8)
                      else
                        bif r4 == ([116, 97, 98] : List UInt8) then
                          some ([9] : List UInt8)
                        else
                          bif r4 == ([115, 112, 97, 99, 101] : List UInt8) then
                            some ([32] : List UInt8)
                          else
                            bif r4 == ([109, 105, 110, 117, 115] : List UInt8) then
                              bif mods == (2 : Int) then
                                some ([95] : List UInt8)
                              else
                                some ([45] : List UInt8)
                            else
                              bif r4 == ([101, 113, 117, 97, 108] : List UInt8) then
                                bif mods == (2 : Int) then
                                  some ([43] : List UInt8)
                                else
                                  some ([61] : List UInt8)
                              else
                                some ([] : List UInt8)
                else
                  bif decide (code ≤ (36 : Int)) then
                    bindO (some (cn code)) fun r5 =>
                    some r5
                  else
                    bindO (some (cn code)) fun r6 =>
                    bif r6 == ([101, 110, 116, 101, 114] : List UInt8) then
                      some ([10] : List UInt8)
                    else
                      bif r6 == ([116, 97, 98] : List UInt8) then
                        some ([9] : List UInt8)
                      else
                        bif r6 == ([115, 112, 97, 99, 101] : List UInt8) then
                          some ([32] : List UInt8)
                        else
                          bif r6 == ([109, 105, 110, 117, 115] : List UInt8) then
                            bif mods == (2 : Int) then
                              some ([95] : List UInt8)
                            else
                              some ([45] : List UInt8)
                          else
                            bif r6 == ([101, 113, 117, 97, 108] : List UInt8) then
                              bif mods == (2 : Int) then
                                some ([43] : List UInt8)
                              else
                                some ([61] : List UInt8)
                            else
                              some ([] : List UInt8)
          else
            bif decide (code ≤ (26 : Int)) then
              bindO (some (cn code)) fun r7 =>
              some r7
            else
              bif decide (code ≤ (36 : Int)) then
                bif mods == (2 : Int) then
                  bif bounds (IntKind.wrap .i64 (code - (27 : Int))) (IntKind.wrap .i64 (code - (26 : Int))) (List.length ([33, 64, 35, 36, 37, 94, 38, 42, 40, 41] : List UInt8)) then
                  some (List.drop (Int.toNat (IntKind.wrap .i64 (code - (27 : Int)))) (List.take (Int.toNat (IntKind.wrap .i64 (code - (26 : Int)))) ([33, 64, 35, 36, 37, 94, 38, 42, 40, 41] : List UInt8)))
                  else none
                else
                  bif decide (code ≤ (36 : Int)) then
                    bindO (some (cn code)) fun r8 =>
                    some r8
                  else
                    bindO (some (cn code)) fun r9 =>
                    bif r9 == ([101, 110, 116, 101, 114] : List UInt8) then
                      some ([10] : List UInt8)
                    else
                      bif r9 == ([116, 97, 98] : List UInt8) then
                        some ([9] : List UInt8)
                      else
                        bif r9 == ([115, 112, 97, 99, 101] : List UInt8) then
                          some ([32] : List UInt8)
                        else
                          bif r9 == ([109, 105, 110, 117, 115] : List UInt8) then
                            bif mods == (2 : Int) then
                              some ([95] : List UInt8)
                            else
                              some ([45] : List UInt8)
                          else
                            bif r9 == ([101, 113, 117, 97, 108] : List UInt8) then
                              bif mods == (2 : Int) then
                                some ([43] : List UInt8)
                              else
                                some ([61] : List UInt8)
                            else
                              some ([] : List UInt8)
              else
                bif decide (code ≤ (36 : Int)) then
                  bindO (some (cn code)) fun r10 =>
                  some r10
                else
                  bindO (some (cn code)) fun r11 =>
                  bif r11 == ([101, 110, 116, 101, 114] : List UInt8) then
                    some ([10] : List UInt8)
                  else
                    bif r11 == ([116, 97, 98] : List UInt8) then
                      some ([9] : List UInt8)
                    else
                      bif r11 == ([115, 112, 97, 99, 101] : List UInt8) then
                        some ([32] : List UInt8)
                      else
                        bif r11 == ([109, 105, 110, 117, 115] : List UInt8) then
                          bif mods == (2 : Int) then
                            some ([95] : List UInt8)
                          else
                            some ([45] : List UInt8)
                        else
                          bif r11 == ([101, 113, 117, 97, 108] : List UInt8) then
                            bif mods == (2 : Int) then
                              some ([43] : List UInt8)
                            else
                              some ([61] : List UInt8)
                          else
                            some ([] : List UInt8)
      else
        bif decide (code ≤ (26 : Int)) then
          bif mods == (2 : Int) then
            some (bytesOf ([IntKind.wrap .u8 (IntKind.wrap .i64 ((IntKind.wrap .i64 ((65 : Int) + code)) - (1 : Int)))] : List Int))
          else
            bif decide (code ≤ (26 : Int)) then
              bindO (some (cn code)) fun r12 =>
              some r12
            else
              bif decide (code ≤ (36 : Int)) then
                bif mods == (2 : Int) then
                  bif bounds (IntKind.wrap .i64 (code - (27 : Int))) (IntKind.wrap .i64 (code - (26 : Int))) (List.length ([33, 64, 35, 36, 37, 94, 38, 42, 40, 41] : List UInt8)) then
                  some (List.drop (Int.toNat (IntKind.wrap .i64 (code - (27 : Int)))) (List.take (Int.toNat (IntKind.wrap .i64 (code - (26 : Int)))) ([33, 64, 35, 36, 37, 94, 38, 42, 40, 41] : List UInt8)))
                  else none
                else
                  bif decide (code ≤ (36 : Int)) then
                    bindO (some (cn code)) fun r13 =>
                    some r13
                  else
                    bindO (some (cn code)) fun r14 =>
                    bif r14 == ([101, 110, 116, 101, 114] : List UInt8) then
                      some ([10] : List UInt8)
                    else
                      bif r14 == ([116, 97, 98] : List UInt8) then
                        some ([9] : List UInt8)
                      else
                        bif r14 == ([115, 112, 97, 99, 101] : List UInt8) then
                          some ([32] : List UInt8)
                        else
                          bif r14 == ([109, 105, 110, 117, 115] : List UInt8) then
                            bif mods == (2 : Int) then
                              some ([95] : List UInt8)
                            else
                              some ([45] : List UInt8)
                          else
                            bif r14 == ([101, 113, 117, 97, 108] : List UInt8) then
                              bif mods == (2 : Int) then
                                some ([43] : List UInt8)
                              else
                                some ([61] : List UInt8)
                            else
                              some ([] : List UInt8)
              else
                bif decide (code ≤ (36 : Int)) then
                  bindO (some (cn code)) fun r15 =>
                  some r15
                else
                  bindO (some (cn code)) fun r16 =>
                  bif r16 == ([101, 110, 116, 101, 114] : List UInt8) then
                    some ([10] : List UInt8)
                  else
                    bif r16 == ([116, 97, 98] : List UInt8) then
                      some ([9] : List UInt8)
                    else
                      bif r16 == ([115, 112, 97, 99, 101] : List UInt8) then
                        some ([32] : List UInt8)
                      else
                        bif r16 == ([109, 105, 110, 117, 115] : List UInt8) then
                          bif mods == (2 : Int) then
                            some ([95] : List UInt8)
                          else
                            some ([45] : List UInt8)
                        else
                          bif r16 == ([101, 113, 117, 97, 108] : List UInt8) then
                            bif mods == (2 : Int) then
                              some ([43] : List UInt8)
                            else
                              some ([61] : List UInt8)
                          else
                            some ([] : List UInt8)
        else
          bif decide (code ≤ (26 : Int)) then
            bindO (some (cn code)) fun r17 =>
            some r17
          else
            bif decide (code ≤ (36 : Int)) then
              bif mods == (2 : Int) then
                bif bounds (IntKind.wrap .i64 (code - (27 : Int))) (IntKind.wrap .i64 (code - (26 : Int))) (List.length ([33, 64, 35, 36, 37, 94, 38, 42, 40, 41] : List UInt8)) then
                some (List.drop (Int.toNat (IntKind.wrap .i64 (code - (27 : Int)))) (List.take (Int.toNat (IntKind.wrap .i64 (code - (26 : Int)))) ([33, 64, 35, 36, 37, 94, 38, 42, 40, 41] : List UInt8)))
                else none
              else
                bif decide (code ≤ (36 : Int)) then
                  bindO (some (cn code)) fun r18 =>
                  some r18
                else
                  bindO (some (cn code)) fun r19 =>
                  bif r19 == ([101, 110, 116, 101, 114] : List UInt8) then
                    some ([10] : List UInt8)
                  else
                    bif r19 == ([116, 97, 98] : List UInt8) then
                      some ([9] : List UInt8)
                    else
                      bif r19 == ([115, 112, 97, 99, 101] : List UInt8) then
                        some ([32] : List UInt8)
                      else
                        bif r19 == ([109, 105, 110, 117, 115] : List UInt8) then
                          bif mods == (2 : Int) then
                            some ([95] : List UInt8)
                          else
                            some ([45] : List UInt8)
                        else
                          bif r19 == ([101, 113, 117, 97, 108] : List UInt8) then
                            bif mods == (2 : Int) then
                              some ([43] : List UInt8)
                            else
                              some ([61] : List UInt8)
                          else
                            some ([] : List UInt8)
            else
              bif decide (code ≤ (36 : Int)) then
                bindO (some (cn code)) fun r20 =>
                some r20
              else
                bindO (some (cn code)) fun r21 =>
                bif r21 == ([101, 110, 116, 101, 114] : List UInt8) then
                  some ([10] : List UInt8)
                else
                  bif r21 == ([116, 97, 98] : List UInt8) then
                    some ([9] : List UInt8)
                  else
                    bif r21 == ([115, 112, 97, 99, 101] : List UInt8) then
                      some ([32] : List UInt8)
                    else
                      bif r21 == ([109, 105, 110, 117, 115] : List UInt8) then
                        bif mods == (2 : Int) then
                          some ([95] : List UInt8)
                        else
                          some ([45] : List UInt8)
                      else
                        bif r21 == ([101, 113, 117, 97, 108] : List UInt8) then
                          bif mods == (2 : Int) then
                            some ([43] : List UInt8)
                          else
                            some ([61] : List UInt8)
                        else
                          some ([] : List UInt8)
theorem CharOf_ic (N : Nat) (c m : Int) : impl_CharOf.F N (c, m) = ic c m := by
  rw [impl_CharOf.F_eq]
  simp only [isCode_eq, CodeName_i]
  rfl
theorem char_tbl : ((List.range 56).all fun c => (List.range 16).all fun m => (sc ((c : Int) + 1) m == ic ((c : Int) + 1) m) && (sc ((c : Int) + 1) m).isSome) = true := by kernel_rfl
def ch (c m : Int) : List UInt8 := (sc c m).getD []
theorem char_out (c m : Int) (h : ¬ (1 ≤ c ∧ c ≤ 56)) : sc c m = some [] ∧ ic c m = some [] := by
  have d1 : decide (1 ≤ c ∧ c ≤ 56) = false := decide_eq_false h
  unfold sc ic
  rw [d1]
  exact ⟨rfl, rfl⟩
theorem char_mods (c m : Int) (h : ¬ (0 ≤ m ∧ m ≤ 15)) : sc c m = some [] ∧ ic c m = some [] := by
  by_cases hc : 1 ≤ c ∧ c ≤ 56
  · have d1 : decide (1 ≤ c ∧ c ≤ 56) = true := decide_eq_true hc
    have d2 : decide (0 ≤ m ∧ m ≤ 15) = false := decide_eq_false h
    have m0 : (m != 0) = true := by rw [bneI, decide_eq_false (by omega)]; rfl
    have m2 : (m != 2) = true := by rw [bneI, decide_eq_false (by omega)]; rfl
    unfold sc ic
    rw [d1, d2, m0, m2]
    exact ⟨rfl, rfl⟩
  · exact char_out c m hc
theorem char_same (c m : Int) : sc c m = some (ch c m) ∧ ic c m = some (ch c m) := by
  by_cases hc : 1 ≤ c ∧ c ≤ 56
  · by_cases hm : 0 ≤ m ∧ m ≤ 15
    · obtain ⟨k, rfl⟩ : ∃ k : Nat, c = (k : Int) + 1 := ⟨(c - 1).toNat, by omega⟩
      obtain ⟨j, rfl⟩ : ∃ j : Nat, m = (j : Int) := ⟨m.toNat, by omega⟩
      have h := List.all_eq_true.1 char_tbl k (List.mem_range.2 (by omega))
      have h := List.all_eq_true.1 h j (List.mem_range.2 (by omega))
      rw [Bool.and_eq_true, beq_iff_eq] at h
      obtain ⟨h1, h2⟩ := h
      obtain ⟨r, hr⟩ := Option.isSome_iff_exists.1 h2
      unfold ch
      rw [← h1, hr]
      exact ⟨rfl, rfl⟩
    · obtain ⟨h1, h2⟩ := char_mods c m hm
      unfold ch
      rw [h1, h2]; exact ⟨rfl, rfl⟩
  · obtain ⟨h1, h2⟩ := char_out c m hc
    unfold ch
    rw [h1, h2]; exact ⟨rfl, rfl⟩
theorem CharOf_i (N : Nat) (c m : Int) : impl_CharOf.F N (c, m) = some (ch c m) := (CharOf_ic N c m).trans (char_same c m).2
end Go.Kb
