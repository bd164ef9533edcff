-- written by a program (wip/dev/print2.sh): functions of the program as plain Lean, with their contracts
import Derived.Test.YtefdcjmfbjlinaaDoorAx0
import Derived.Test.YtefdcjmfbjlinaaDoorAx3
namespace Go.Proofs.YtefdcjmfbjlinaaDoor.A
open Go.RowKit Go.Proofs.YtefdcjmfbjlinaaDoorW.PrintWords Go.Proofs.YtefdcjmfbjlinaaDoorW.PrintLast Go.Proofs.YtefdcjmfbjlinaaDoorW.PrintMore
set_option linter.unusedVariables false
set_option linter.unusedSimpArgs false

/-! ### cadencyref05_Line: function 12 -/
def cadencyref05_Line.f (k : Nat) (a0_0 : ByteArray) (a0_1 : Int) (a0_2 : Int) (a0_3 : Int) (a0_4 : Int) (a0_5 : Int) (a0_6 : Int) : Option (ByteArray) := if 5 + a0_0.size ≤ 9223372036854775807 then (if ((⟨#[116, 97, 115, 107, 32]⟩ : ByteArray) ++ a0_0).size + 3 ≤ 9223372036854775807 then ((cadencyref05_Digits.f k a0_1).bind fun t168 => (if (((⟨#[116, 97, 115, 107, 32]⟩ : ByteArray) ++ a0_0) ++ (⟨#[32, 99, 61]⟩ : ByteArray)).size + t168.size ≤ 9223372036854775807 then (if ((((⟨#[116, 97, 115, 107, 32]⟩ : ByteArray) ++ a0_0) ++ (⟨#[32, 99, 61]⟩ : ByteArray)) ++ t168).size + 3 ≤ 9223372036854775807 then ((cadencyref05_Digits.f k a0_2).bind fun t169 => (if (((((⟨#[116, 97, 115, 107, 32]⟩ : ByteArray) ++ a0_0) ++ (⟨#[32, 99, 61]⟩ : ByteArray)) ++ t168) ++ (⟨#[32, 116, 61]⟩ : ByteArray)).size + t169.size ≤ 9223372036854775807 then (if ((((((⟨#[116, 97, 115, 107, 32]⟩ : ByteArray) ++ a0_0) ++ (⟨#[32, 99, 61]⟩ : ByteArray)) ++ t168) ++ (⟨#[32, 116, 61]⟩ : ByteArray)) ++ t169).size + 3 ≤ 9223372036854775807 then ((cadencyref05_Digits.f k a0_3).bind fun t170 => (if (((((((⟨#[116, 97, 115, 107, 32]⟩ : ByteArray) ++ a0_0) ++ (⟨#[32, 99, 61]⟩ : ByteArray)) ++ t168) ++ (⟨#[32, 116, 61]⟩ : ByteArray)) ++ t169) ++ (⟨#[32, 100, 61]⟩ : ByteArray)).size + t170.size ≤ 9223372036854775807 then (if ((((((((⟨#[116, 97, 115, 107, 32]⟩ : ByteArray) ++ a0_0) ++ (⟨#[32, 99, 61]⟩ : ByteArray)) ++ t168) ++ (⟨#[32, 116, 61]⟩ : ByteArray)) ++ t169) ++ (⟨#[32, 100, 61]⟩ : ByteArray)) ++ t170).size + 3 ≤ 9223372036854775807 then ((cadencyref05_Digits.f k a0_4).bind fun t171 => (if (((((((((⟨#[116, 97, 115, 107, 32]⟩ : ByteArray) ++ a0_0) ++ (⟨#[32, 99, 61]⟩ : ByteArray)) ++ t168) ++ (⟨#[32, 116, 61]⟩ : ByteArray)) ++ t169) ++ (⟨#[32, 100, 61]⟩ : ByteArray)) ++ t170) ++ (⟨#[32, 106, 61]⟩ : ByteArray)).size + t171.size ≤ 9223372036854775807 then (if ((((((((((⟨#[116, 97, 115, 107, 32]⟩ : ByteArray) ++ a0_0) ++ (⟨#[32, 99, 61]⟩ : ByteArray)) ++ t168) ++ (⟨#[32, 116, 61]⟩ : ByteArray)) ++ t169) ++ (⟨#[32, 100, 61]⟩ : ByteArray)) ++ t170) ++ (⟨#[32, 106, 61]⟩ : ByteArray)) ++ t171).size + 3 ≤ 9223372036854775807 then ((cadencyref05_Digits.f k a0_5).bind fun t172 => (if (((((((((((⟨#[116, 97, 115, 107, 32]⟩ : ByteArray) ++ a0_0) ++ (⟨#[32, 99, 61]⟩ : ByteArray)) ++ t168) ++ (⟨#[32, 116, 61]⟩ : ByteArray)) ++ t169) ++ (⟨#[32, 100, 61]⟩ : ByteArray)) ++ t170) ++ (⟨#[32, 106, 61]⟩ : ByteArray)) ++ t171) ++ (⟨#[32, 113, 61]⟩ : ByteArray)).size + t172.size ≤ 9223372036854775807 then (if ((((((((((((⟨#[116, 97, 115, 107, 32]⟩ : ByteArray) ++ a0_0) ++ (⟨#[32, 99, 61]⟩ : ByteArray)) ++ t168) ++ (⟨#[32, 116, 61]⟩ : ByteArray)) ++ t169) ++ (⟨#[32, 100, 61]⟩ : ByteArray)) ++ t170) ++ (⟨#[32, 106, 61]⟩ : ByteArray)) ++ t171) ++ (⟨#[32, 113, 61]⟩ : ByteArray)) ++ t172).size + 3 ≤ 9223372036854775807 then ((cadencyref05_Digits.f k a0_6).bind fun t173 => (if (((((((((((((⟨#[116, 97, 115, 107, 32]⟩ : ByteArray) ++ a0_0) ++ (⟨#[32, 99, 61]⟩ : ByteArray)) ++ t168) ++ (⟨#[32, 116, 61]⟩ : ByteArray)) ++ t169) ++ (⟨#[32, 100, 61]⟩ : ByteArray)) ++ t170) ++ (⟨#[32, 106, 61]⟩ : ByteArray)) ++ t171) ++ (⟨#[32, 113, 61]⟩ : ByteArray)) ++ t172) ++ (⟨#[32, 112, 61]⟩ : ByteArray)).size + t173.size ≤ 9223372036854775807 then ((some (([10] : List Int) : List Int)).bind fun y174 => (if ((((((((((((((⟨#[116, 97, 115, 107, 32]⟩ : ByteArray) ++ a0_0) ++ (⟨#[32, 99, 61]⟩ : ByteArray)) ++ t168) ++ (⟨#[32, 116, 61]⟩ : ByteArray)) ++ t169) ++ (⟨#[32, 100, 61]⟩ : ByteArray)) ++ t170) ++ (⟨#[32, 106, 61]⟩ : ByteArray)) ++ t171) ++ (⟨#[32, 113, 61]⟩ : ByteArray)) ++ t172) ++ (⟨#[32, 112, 61]⟩ : ByteArray)) ++ t173).size + (strOfNums y174).size ≤ 9223372036854775807 then (some (((((((((((((((⟨#[116, 97, 115, 107, 32]⟩ : ByteArray) ++ a0_0) ++ (⟨#[32, 99, 61]⟩ : ByteArray)) ++ t168) ++ (⟨#[32, 116, 61]⟩ : ByteArray)) ++ t169) ++ (⟨#[32, 100, 61]⟩ : ByteArray)) ++ t170) ++ (⟨#[32, 106, 61]⟩ : ByteArray)) ++ t171) ++ (⟨#[32, 113, 61]⟩ : ByteArray)) ++ t172) ++ (⟨#[32, 112, 61]⟩ : ByteArray)) ++ t173) ++ (strOfNums y174))) else (none))) else (none))) else (none)) else (none))) else (none)) else (none))) else (none)) else (none))) else (none)) else (none))) else (none)) else (none))) else (none)) else (none)
def cadencyref05_Line.T1 : Bool × List (List Nat × List Nat) := (true, [([], []), ([0], [0]), ([1], [1]), ([2], [2]), ([], []), ([4], [4]), ([5], [5]), ([3, 6], [3, 6]), ([7], [7]), ([], []), ([9], [9]), ([10, 6], [10]), ([8, 11], [8, 11]), ([12], [12]), ([], []), ([14], [14]), ([15, 11], [15]), ([13, 16], [13, 16]), ([17], [17]), ([], []), ([19], [19]), ([20, 16], [20]), ([18, 21], [18, 21]), ([22], [22]), ([], []), ([24], [24]), ([25, 21], [25]), ([23, 26], [23, 26]), ([27], [27]), ([], []), ([29], [29]), ([30, 26], [30]), ([28, 31], [28, 31]), ([], []), ([33], [33]), ([32, 34], [32, 34]), ([35, 31, 0, 1, 2, 3, 4, 5, 6, 7, 8, 9, 10, 11, 12, 13, 14, 15, 16, 17, 18, 19, 20, 21, 22, 23, 24, 25, 26, 27, 28, 29, 30, 31, 32, 33, 34, 35], [35])])
def cadencyref05_Line.B1 : List Nat := [0, 1, 3, 7, 0, 16, 48, 127, 255, 0, 512, 1648, 4095, 8191, 0, 16384, 52848, 131071, 262143, 0, 524288, 1691248, 4194303, 8388607, 0, 16777216, 54120048, 134217727, 268435455, 0, 536870912, 1731841648, 4294967295, 0, 8589934592, 34359738367, 68719476735]
theorem cadencyref05_Line.tab1 : rtab .any (opsOf Tryd.f12 1) = cadencyref05_Line.T1 := by kernel_rfl
theorem cadencyref05_Line.bits1 : waitsOk cadencyref05_Line.T1.2 cadencyref05_Line.B1 = true := by kernel_rfl
set_option maxHeartbeats 8000000 in
set_option maxRecDepth 100000 in
theorem cadencyref05_Line.calls (k : Nat) (a0_0 : ByteArray) (a0_1 : Int) (a0_2 : Int) (a0_3 : Int) (a0_4 : Int) (a0_5 : Int) (a0_6 : Int) (r : ByteArray) (w : World) (h : cadencyref05_Line.f k a0_0 a0_1 a0_2 a0_3 a0_4 a0_5 a0_6 = some r) :
    Calls Tryd.prog 12 #[.agg #[.string a0_0, .int .i64 a0_1, .int .i64 a0_2, .int .i64 a0_3, .int .i64 a0_4, .int .i64 a0_5, .int .i64 a0_6]] w fun e w' => e = .returned (.string r) ∧ Below w.heap.size w w' := by
  have hu29 := Tryd.underlying29
  have HB := Aside0.mk (Below.refl w.heap.size w)
  have H : (if 5 + a0_0.size ≤ 9223372036854775807 then (if ((⟨#[116, 97, 115, 107, 32]⟩ : ByteArray) ++ a0_0).size + 3 ≤ 9223372036854775807 then ((cadencyref05_Digits.f k a0_1).bind fun t168 => (if (((⟨#[116, 97, 115, 107, 32]⟩ : ByteArray) ++ a0_0) ++ (⟨#[32, 99, 61]⟩ : ByteArray)).size + t168.size ≤ 9223372036854775807 then (if ((((⟨#[116, 97, 115, 107, 32]⟩ : ByteArray) ++ a0_0) ++ (⟨#[32, 99, 61]⟩ : ByteArray)) ++ t168).size + 3 ≤ 9223372036854775807 then ((cadencyref05_Digits.f k a0_2).bind fun t169 => (if (((((⟨#[116, 97, 115, 107, 32]⟩ : ByteArray) ++ a0_0) ++ (⟨#[32, 99, 61]⟩ : ByteArray)) ++ t168) ++ (⟨#[32, 116, 61]⟩ : ByteArray)).size + t169.size ≤ 9223372036854775807 then (if ((((((⟨#[116, 97, 115, 107, 32]⟩ : ByteArray) ++ a0_0) ++ (⟨#[32, 99, 61]⟩ : ByteArray)) ++ t168) ++ (⟨#[32, 116, 61]⟩ : ByteArray)) ++ t169).size + 3 ≤ 9223372036854775807 then ((cadencyref05_Digits.f k a0_3).bind fun t170 => (if (((((((⟨#[116, 97, 115, 107, 32]⟩ : ByteArray) ++ a0_0) ++ (⟨#[32, 99, 61]⟩ : ByteArray)) ++ t168) ++ (⟨#[32, 116, 61]⟩ : ByteArray)) ++ t169) ++ (⟨#[32, 100, 61]⟩ : ByteArray)).size + t170.size ≤ 9223372036854775807 then (if ((((((((⟨#[116, 97, 115, 107, 32]⟩ : ByteArray) ++ a0_0) ++ (⟨#[32, 99, 61]⟩ : ByteArray)) ++ t168) ++ (⟨#[32, 116, 61]⟩ : ByteArray)) ++ t169) ++ (⟨#[32, 100, 61]⟩ : ByteArray)) ++ t170).size + 3 ≤ 9223372036854775807 then ((cadencyref05_Digits.f k a0_4).bind fun t171 => (if (((((((((⟨#[116, 97, 115, 107, 32]⟩ : ByteArray) ++ a0_0) ++ (⟨#[32, 99, 61]⟩ : ByteArray)) ++ t168) ++ (⟨#[32, 116, 61]⟩ : ByteArray)) ++ t169) ++ (⟨#[32, 100, 61]⟩ : ByteArray)) ++ t170) ++ (⟨#[32, 106, 61]⟩ : ByteArray)).size + t171.size ≤ 9223372036854775807 then (if ((((((((((⟨#[116, 97, 115, 107, 32]⟩ : ByteArray) ++ a0_0) ++ (⟨#[32, 99, 61]⟩ : ByteArray)) ++ t168) ++ (⟨#[32, 116, 61]⟩ : ByteArray)) ++ t169) ++ (⟨#[32, 100, 61]⟩ : ByteArray)) ++ t170) ++ (⟨#[32, 106, 61]⟩ : ByteArray)) ++ t171).size + 3 ≤ 9223372036854775807 then ((cadencyref05_Digits.f k a0_5).bind fun t172 => (if (((((((((((⟨#[116, 97, 115, 107, 32]⟩ : ByteArray) ++ a0_0) ++ (⟨#[32, 99, 61]⟩ : ByteArray)) ++ t168) ++ (⟨#[32, 116, 61]⟩ : ByteArray)) ++ t169) ++ (⟨#[32, 100, 61]⟩ : ByteArray)) ++ t170) ++ (⟨#[32, 106, 61]⟩ : ByteArray)) ++ t171) ++ (⟨#[32, 113, 61]⟩ : ByteArray)).size + t172.size ≤ 9223372036854775807 then (if ((((((((((((⟨#[116, 97, 115, 107, 32]⟩ : ByteArray) ++ a0_0) ++ (⟨#[32, 99, 61]⟩ : ByteArray)) ++ t168) ++ (⟨#[32, 116, 61]⟩ : ByteArray)) ++ t169) ++ (⟨#[32, 100, 61]⟩ : ByteArray)) ++ t170) ++ (⟨#[32, 106, 61]⟩ : ByteArray)) ++ t171) ++ (⟨#[32, 113, 61]⟩ : ByteArray)) ++ t172).size + 3 ≤ 9223372036854775807 then ((cadencyref05_Digits.f k a0_6).bind fun t173 => (if (((((((((((((⟨#[116, 97, 115, 107, 32]⟩ : ByteArray) ++ a0_0) ++ (⟨#[32, 99, 61]⟩ : ByteArray)) ++ t168) ++ (⟨#[32, 116, 61]⟩ : ByteArray)) ++ t169) ++ (⟨#[32, 100, 61]⟩ : ByteArray)) ++ t170) ++ (⟨#[32, 106, 61]⟩ : ByteArray)) ++ t171) ++ (⟨#[32, 113, 61]⟩ : ByteArray)) ++ t172) ++ (⟨#[32, 112, 61]⟩ : ByteArray)).size + t173.size ≤ 9223372036854775807 then ((some (([10] : List Int) : List Int)).bind fun y174 => (if ((((((((((((((⟨#[116, 97, 115, 107, 32]⟩ : ByteArray) ++ a0_0) ++ (⟨#[32, 99, 61]⟩ : ByteArray)) ++ t168) ++ (⟨#[32, 116, 61]⟩ : ByteArray)) ++ t169) ++ (⟨#[32, 100, 61]⟩ : ByteArray)) ++ t170) ++ (⟨#[32, 106, 61]⟩ : ByteArray)) ++ t171) ++ (⟨#[32, 113, 61]⟩ : ByteArray)) ++ t172) ++ (⟨#[32, 112, 61]⟩ : ByteArray)) ++ t173).size + (strOfNums y174).size ≤ 9223372036854775807 then (some (((((((((((((((⟨#[116, 97, 115, 107, 32]⟩ : ByteArray) ++ a0_0) ++ (⟨#[32, 99, 61]⟩ : ByteArray)) ++ t168) ++ (⟨#[32, 116, 61]⟩ : ByteArray)) ++ t169) ++ (⟨#[32, 100, 61]⟩ : ByteArray)) ++ t170) ++ (⟨#[32, 106, 61]⟩ : ByteArray)) ++ t171) ++ (⟨#[32, 113, 61]⟩ : ByteArray)) ++ t172) ++ (⟨#[32, 112, 61]⟩ : ByteArray)) ++ t173) ++ (strOfNums y174))) else (none))) else (none))) else (none)) else (none))) else (none)) else (none))) else (none)) else (none))) else (none)) else (none))) else (none)) else (none))) else (none)) else (none)) = some r := h
  clear h
  by_cases c2 : 5 + a0_0.size ≤ 9223372036854775807
  rotate_left
  · rw [if_neg c2] at H
    exact absurd H (by simp)
  rw [if_pos c2] at H
  have c2b0 := eq_true c2
  have c2b1 : decide (5 + a0_0.size ≤ 9223372036854775807) = true := decide_eq_true c2
  try have c2b2 : (9223372036854775807 < 5 + a0_0.size) = False := eq_false (Nat.not_lt.2 c2)
  by_cases c3 : ((⟨#[116, 97, 115, 107, 32]⟩ : ByteArray) ++ a0_0).size + 3 ≤ 9223372036854775807
  rotate_left
  · rw [if_neg c3] at H
    exact absurd H (by simp)
  rw [if_pos c3] at H
  have c3b0 := eq_true c3
  have c3b1 : decide (((⟨#[116, 97, 115, 107, 32]⟩ : ByteArray) ++ a0_0).size + 3 ≤ 9223372036854775807) = true := decide_eq_true c3
  try have c3b2 : (9223372036854775807 < ((⟨#[116, 97, 115, 107, 32]⟩ : ByteArray) ++ a0_0).size + 3) = False := eq_false (Nat.not_lt.2 c3)
  try have c3b7 := c3b2
  try simp only [ByteArray.size_append, show ((⟨#[116, 97, 115, 107, 32]⟩ : ByteArray)).size = 5 from rfl] at c3b7
  replace H := Option.bind_eq_some_iff.mp H
  obtain ⟨t168, A40, H⟩ := H
  replace H : (if (((⟨#[116, 97, 115, 107, 32]⟩ : ByteArray) ++ a0_0) ++ (⟨#[32, 99, 61]⟩ : ByteArray)).size + t168.size ≤ 9223372036854775807 then (if ((((⟨#[116, 97, 115, 107, 32]⟩ : ByteArray) ++ a0_0) ++ (⟨#[32, 99, 61]⟩ : ByteArray)) ++ t168).size + 3 ≤ 9223372036854775807 then ((cadencyref05_Digits.f k a0_2).bind fun t169 => (if (((((⟨#[116, 97, 115, 107, 32]⟩ : ByteArray) ++ a0_0) ++ (⟨#[32, 99, 61]⟩ : ByteArray)) ++ t168) ++ (⟨#[32, 116, 61]⟩ : ByteArray)).size + t169.size ≤ 9223372036854775807 then (if ((((((⟨#[116, 97, 115, 107, 32]⟩ : ByteArray) ++ a0_0) ++ (⟨#[32, 99, 61]⟩ : ByteArray)) ++ t168) ++ (⟨#[32, 116, 61]⟩ : ByteArray)) ++ t169).size + 3 ≤ 9223372036854775807 then ((cadencyref05_Digits.f k a0_3).bind fun t170 => (if (((((((⟨#[116, 97, 115, 107, 32]⟩ : ByteArray) ++ a0_0) ++ (⟨#[32, 99, 61]⟩ : ByteArray)) ++ t168) ++ (⟨#[32, 116, 61]⟩ : ByteArray)) ++ t169) ++ (⟨#[32, 100, 61]⟩ : ByteArray)).size + t170.size ≤ 9223372036854775807 then (if ((((((((⟨#[116, 97, 115, 107, 32]⟩ : ByteArray) ++ a0_0) ++ (⟨#[32, 99, 61]⟩ : ByteArray)) ++ t168) ++ (⟨#[32, 116, 61]⟩ : ByteArray)) ++ t169) ++ (⟨#[32, 100, 61]⟩ : ByteArray)) ++ t170).size + 3 ≤ 9223372036854775807 then ((cadencyref05_Digits.f k a0_4).bind fun t171 => (if (((((((((⟨#[116, 97, 115, 107, 32]⟩ : ByteArray) ++ a0_0) ++ (⟨#[32, 99, 61]⟩ : ByteArray)) ++ t168) ++ (⟨#[32, 116, 61]⟩ : ByteArray)) ++ t169) ++ (⟨#[32, 100, 61]⟩ : ByteArray)) ++ t170) ++ (⟨#[32, 106, 61]⟩ : ByteArray)).size + t171.size ≤ 9223372036854775807 then (if ((((((((((⟨#[116, 97, 115, 107, 32]⟩ : ByteArray) ++ a0_0) ++ (⟨#[32, 99, 61]⟩ : ByteArray)) ++ t168) ++ (⟨#[32, 116, 61]⟩ : ByteArray)) ++ t169) ++ (⟨#[32, 100, 61]⟩ : ByteArray)) ++ t170) ++ (⟨#[32, 106, 61]⟩ : ByteArray)) ++ t171).size + 3 ≤ 9223372036854775807 then ((cadencyref05_Digits.f k a0_5).bind fun t172 => (if (((((((((((⟨#[116, 97, 115, 107, 32]⟩ : ByteArray) ++ a0_0) ++ (⟨#[32, 99, 61]⟩ : ByteArray)) ++ t168) ++ (⟨#[32, 116, 61]⟩ : ByteArray)) ++ t169) ++ (⟨#[32, 100, 61]⟩ : ByteArray)) ++ t170) ++ (⟨#[32, 106, 61]⟩ : ByteArray)) ++ t171) ++ (⟨#[32, 113, 61]⟩ : ByteArray)).size + t172.size ≤ 9223372036854775807 then (if ((((((((((((⟨#[116, 97, 115, 107, 32]⟩ : ByteArray) ++ a0_0) ++ (⟨#[32, 99, 61]⟩ : ByteArray)) ++ t168) ++ (⟨#[32, 116, 61]⟩ : ByteArray)) ++ t169) ++ (⟨#[32, 100, 61]⟩ : ByteArray)) ++ t170) ++ (⟨#[32, 106, 61]⟩ : ByteArray)) ++ t171) ++ (⟨#[32, 113, 61]⟩ : ByteArray)) ++ t172).size + 3 ≤ 9223372036854775807 then ((cadencyref05_Digits.f k a0_6).bind fun t173 => (if (((((((((((((⟨#[116, 97, 115, 107, 32]⟩ : ByteArray) ++ a0_0) ++ (⟨#[32, 99, 61]⟩ : ByteArray)) ++ t168) ++ (⟨#[32, 116, 61]⟩ : ByteArray)) ++ t169) ++ (⟨#[32, 100, 61]⟩ : ByteArray)) ++ t170) ++ (⟨#[32, 106, 61]⟩ : ByteArray)) ++ t171) ++ (⟨#[32, 113, 61]⟩ : ByteArray)) ++ t172) ++ (⟨#[32, 112, 61]⟩ : ByteArray)).size + t173.size ≤ 9223372036854775807 then ((some (([10] : List Int) : List Int)).bind fun y174 => (if ((((((((((((((⟨#[116, 97, 115, 107, 32]⟩ : ByteArray) ++ a0_0) ++ (⟨#[32, 99, 61]⟩ : ByteArray)) ++ t168) ++ (⟨#[32, 116, 61]⟩ : ByteArray)) ++ t169) ++ (⟨#[32, 100, 61]⟩ : ByteArray)) ++ t170) ++ (⟨#[32, 106, 61]⟩ : ByteArray)) ++ t171) ++ (⟨#[32, 113, 61]⟩ : ByteArray)) ++ t172) ++ (⟨#[32, 112, 61]⟩ : ByteArray)) ++ t173).size + (strOfNums y174).size ≤ 9223372036854775807 then (some (((((((((((((((⟨#[116, 97, 115, 107, 32]⟩ : ByteArray) ++ a0_0) ++ (⟨#[32, 99, 61]⟩ : ByteArray)) ++ t168) ++ (⟨#[32, 116, 61]⟩ : ByteArray)) ++ t169) ++ (⟨#[32, 100, 61]⟩ : ByteArray)) ++ t170) ++ (⟨#[32, 106, 61]⟩ : ByteArray)) ++ t171) ++ (⟨#[32, 113, 61]⟩ : ByteArray)) ++ t172) ++ (⟨#[32, 112, 61]⟩ : ByteArray)) ++ t173) ++ (strOfNums y174))) else (none))) else (none))) else (none)) else (none))) else (none)) else (none))) else (none)) else (none))) else (none)) else (none))) else (none)) else (none)) = some r := H
  have A4 := Aside0.mk A40
  clear A40
  by_cases c5 : (((⟨#[116, 97, 115, 107, 32]⟩ : ByteArray) ++ a0_0) ++ (⟨#[32, 99, 61]⟩ : ByteArray)).size + t168.size ≤ 9223372036854775807
  rotate_left
  · rw [if_neg c5] at H
    exact absurd H (by simp)
  rw [if_pos c5] at H
  have c5b0 := eq_true c5
  have c5b1 : decide ((((⟨#[116, 97, 115, 107, 32]⟩ : ByteArray) ++ a0_0) ++ (⟨#[32, 99, 61]⟩ : ByteArray)).size + t168.size ≤ 9223372036854775807) = true := decide_eq_true c5
  try have c5b2 : (9223372036854775807 < (((⟨#[116, 97, 115, 107, 32]⟩ : ByteArray) ++ a0_0) ++ (⟨#[32, 99, 61]⟩ : ByteArray)).size + t168.size) = False := eq_false (Nat.not_lt.2 c5)
  try have c5b7 := c5b2
  try simp only [ByteArray.size_append, show ((⟨#[116, 97, 115, 107, 32]⟩ : ByteArray)).size = 5 from rfl, show ((⟨#[32, 99, 61]⟩ : ByteArray)).size = 3 from rfl] at c5b7
  by_cases c6 : ((((⟨#[116, 97, 115, 107, 32]⟩ : ByteArray) ++ a0_0) ++ (⟨#[32, 99, 61]⟩ : ByteArray)) ++ t168).size + 3 ≤ 9223372036854775807
  rotate_left
  · rw [if_neg c6] at H
    exact absurd H (by simp)
  rw [if_pos c6] at H
  have c6b0 := eq_true c6
  have c6b1 : decide (((((⟨#[116, 97, 115, 107, 32]⟩ : ByteArray) ++ a0_0) ++ (⟨#[32, 99, 61]⟩ : ByteArray)) ++ t168).size + 3 ≤ 9223372036854775807) = true := decide_eq_true c6
  try have c6b2 : (9223372036854775807 < ((((⟨#[116, 97, 115, 107, 32]⟩ : ByteArray) ++ a0_0) ++ (⟨#[32, 99, 61]⟩ : ByteArray)) ++ t168).size + 3) = False := eq_false (Nat.not_lt.2 c6)
  try have c6b7 := c6b2
  try simp only [ByteArray.size_append, show ((⟨#[116, 97, 115, 107, 32]⟩ : ByteArray)).size = 5 from rfl, show ((⟨#[32, 99, 61]⟩ : ByteArray)).size = 3 from rfl] at c6b7
  replace H := Option.bind_eq_some_iff.mp H
  obtain ⟨t169, A70, H⟩ := H
  replace H : (if (((((⟨#[116, 97, 115, 107, 32]⟩ : ByteArray) ++ a0_0) ++ (⟨#[32, 99, 61]⟩ : ByteArray)) ++ t168) ++ (⟨#[32, 116, 61]⟩ : ByteArray)).size + t169.size ≤ 9223372036854775807 then (if ((((((⟨#[116, 97, 115, 107, 32]⟩ : ByteArray) ++ a0_0) ++ (⟨#[32, 99, 61]⟩ : ByteArray)) ++ t168) ++ (⟨#[32, 116, 61]⟩ : ByteArray)) ++ t169).size + 3 ≤ 9223372036854775807 then ((cadencyref05_Digits.f k a0_3).bind fun t170 => (if (((((((⟨#[116, 97, 115, 107, 32]⟩ : ByteArray) ++ a0_0) ++ (⟨#[32, 99, 61]⟩ : ByteArray)) ++ t168) ++ (⟨#[32, 116, 61]⟩ : ByteArray)) ++ t169) ++ (⟨#[32, 100, 61]⟩ : ByteArray)).size + t170.size ≤ 9223372036854775807 then (if ((((((((⟨#[116, 97, 115, 107, 32]⟩ : ByteArray) ++ a0_0) ++ (⟨#[32, 99, 61]⟩ : ByteArray)) ++ t168) ++ (⟨#[32, 116, 61]⟩ : ByteArray)) ++ t169) ++ (⟨#[32, 100, 61]⟩ : ByteArray)) ++ t170).size + 3 ≤ 9223372036854775807 then ((cadencyref05_Digits.f k a0_4).bind fun t171 => (if (((((((((⟨#[116, 97, 115, 107, 32]⟩ : ByteArray) ++ a0_0) ++ (⟨#[32, 99, 61]⟩ : ByteArray)) ++ t168) ++ (⟨#[32, 116, 61]⟩ : ByteArray)) ++ t169) ++ (⟨#[32, 100, 61]⟩ : ByteArray)) ++ t170) ++ (⟨#[32, 106, 61]⟩ : ByteArray)).size + t171.size ≤ 9223372036854775807 then (if ((((((((((⟨#[116, 97, 115, 107, 32]⟩ : ByteArray) ++ a0_0) ++ (⟨#[32, 99, 61]⟩ : ByteArray)) ++ t168) ++ (⟨#[32, 116, 61]⟩ : ByteArray)) ++ t169) ++ (⟨#[32, 100, 61]⟩ : ByteArray)) ++ t170) ++ (⟨#[32, 106, 61]⟩ : ByteArray)) ++ t171).size + 3 ≤ 9223372036854775807 then ((cadencyref05_Digits.f k a0_5).bind fun t172 => (if (((((((((((⟨#[116, 97, 115, 107, 32]⟩ : ByteArray) ++ a0_0) ++ (⟨#[32, 99, 61]⟩ : ByteArray)) ++ t168) ++ (⟨#[32, 116, 61]⟩ : ByteArray)) ++ t169) ++ (⟨#[32, 100, 61]⟩ : ByteArray)) ++ t170) ++ (⟨#[32, 106, 61]⟩ : ByteArray)) ++ t171) ++ (⟨#[32, 113, 61]⟩ : ByteArray)).size + t172.size ≤ 9223372036854775807 then (if ((((((((((((⟨#[116, 97, 115, 107, 32]⟩ : ByteArray) ++ a0_0) ++ (⟨#[32, 99, 61]⟩ : ByteArray)) ++ t168) ++ (⟨#[32, 116, 61]⟩ : ByteArray)) ++ t169) ++ (⟨#[32, 100, 61]⟩ : ByteArray)) ++ t170) ++ (⟨#[32, 106, 61]⟩ : ByteArray)) ++ t171) ++ (⟨#[32, 113, 61]⟩ : ByteArray)) ++ t172).size + 3 ≤ 9223372036854775807 then ((cadencyref05_Digits.f k a0_6).bind fun t173 => (if (((((((((((((⟨#[116, 97, 115, 107, 32]⟩ : ByteArray) ++ a0_0) ++ (⟨#[32, 99, 61]⟩ : ByteArray)) ++ t168) ++ (⟨#[32, 116, 61]⟩ : ByteArray)) ++ t169) ++ (⟨#[32, 100, 61]⟩ : ByteArray)) ++ t170) ++ (⟨#[32, 106, 61]⟩ : ByteArray)) ++ t171) ++ (⟨#[32, 113, 61]⟩ : ByteArray)) ++ t172) ++ (⟨#[32, 112, 61]⟩ : ByteArray)).size + t173.size ≤ 9223372036854775807 then ((some (([10] : List Int) : List Int)).bind fun y174 => (if ((((((((((((((⟨#[116, 97, 115, 107, 32]⟩ : ByteArray) ++ a0_0) ++ (⟨#[32, 99, 61]⟩ : ByteArray)) ++ t168) ++ (⟨#[32, 116, 61]⟩ : ByteArray)) ++ t169) ++ (⟨#[32, 100, 61]⟩ : ByteArray)) ++ t170) ++ (⟨#[32, 106, 61]⟩ : ByteArray)) ++ t171) ++ (⟨#[32, 113, 61]⟩ : ByteArray)) ++ t172) ++ (⟨#[32, 112, 61]⟩ : ByteArray)) ++ t173).size + (strOfNums y174).size ≤ 9223372036854775807 then (some (((((((((((((((⟨#[116, 97, 115, 107, 32]⟩ : ByteArray) ++ a0_0) ++ (⟨#[32, 99, 61]⟩ : ByteArray)) ++ t168) ++ (⟨#[32, 116, 61]⟩ : ByteArray)) ++ t169) ++ (⟨#[32, 100, 61]⟩ : ByteArray)) ++ t170) ++ (⟨#[32, 106, 61]⟩ : ByteArray)) ++ t171) ++ (⟨#[32, 113, 61]⟩ : ByteArray)) ++ t172) ++ (⟨#[32, 112, 61]⟩ : ByteArray)) ++ t173) ++ (strOfNums y174))) else (none))) else (none))) else (none)) else (none))) else (none)) else (none))) else (none)) else (none))) else (none)) else (none)) = some r := H
  have A7 := Aside0.mk A70
  clear A70
  by_cases c8 : (((((⟨#[116, 97, 115, 107, 32]⟩ : ByteArray) ++ a0_0) ++ (⟨#[32, 99, 61]⟩ : ByteArray)) ++ t168) ++ (⟨#[32, 116, 61]⟩ : ByteArray)).size + t169.size ≤ 9223372036854775807
  rotate_left
  · rw [if_neg c8] at H
    exact absurd H (by simp)
  rw [if_pos c8] at H
  have c8b0 := eq_true c8
  have c8b1 : decide ((((((⟨#[116, 97, 115, 107, 32]⟩ : ByteArray) ++ a0_0) ++ (⟨#[32, 99, 61]⟩ : ByteArray)) ++ t168) ++ (⟨#[32, 116, 61]⟩ : ByteArray)).size + t169.size ≤ 9223372036854775807) = true := decide_eq_true c8
  try have c8b2 : (9223372036854775807 < (((((⟨#[116, 97, 115, 107, 32]⟩ : ByteArray) ++ a0_0) ++ (⟨#[32, 99, 61]⟩ : ByteArray)) ++ t168) ++ (⟨#[32, 116, 61]⟩ : ByteArray)).size + t169.size) = False := eq_false (Nat.not_lt.2 c8)
  try have c8b7 := c8b2
  try simp only [ByteArray.size_append, show ((⟨#[116, 97, 115, 107, 32]⟩ : ByteArray)).size = 5 from rfl, show ((⟨#[32, 116, 61]⟩ : ByteArray)).size = 3 from rfl, show ((⟨#[32, 99, 61]⟩ : ByteArray)).size = 3 from rfl] at c8b7
  by_cases c9 : ((((((⟨#[116, 97, 115, 107, 32]⟩ : ByteArray) ++ a0_0) ++ (⟨#[32, 99, 61]⟩ : ByteArray)) ++ t168) ++ (⟨#[32, 116, 61]⟩ : ByteArray)) ++ t169).size + 3 ≤ 9223372036854775807
  rotate_left
  · rw [if_neg c9] at H
    exact absurd H (by simp)
  rw [if_pos c9] at H
  have c9b0 := eq_true c9
  have c9b1 : decide (((((((⟨#[116, 97, 115, 107, 32]⟩ : ByteArray) ++ a0_0) ++ (⟨#[32, 99, 61]⟩ : ByteArray)) ++ t168) ++ (⟨#[32, 116, 61]⟩ : ByteArray)) ++ t169).size + 3 ≤ 9223372036854775807) = true := decide_eq_true c9
  try have c9b2 : (9223372036854775807 < ((((((⟨#[116, 97, 115, 107, 32]⟩ : ByteArray) ++ a0_0) ++ (⟨#[32, 99, 61]⟩ : ByteArray)) ++ t168) ++ (⟨#[32, 116, 61]⟩ : ByteArray)) ++ t169).size + 3) = False := eq_false (Nat.not_lt.2 c9)
  try have c9b7 := c9b2
  try simp only [ByteArray.size_append, show ((⟨#[116, 97, 115, 107, 32]⟩ : ByteArray)).size = 5 from rfl, show ((⟨#[32, 116, 61]⟩ : ByteArray)).size = 3 from rfl, show ((⟨#[32, 99, 61]⟩ : ByteArray)).size = 3 from rfl] at c9b7
  replace H := Option.bind_eq_some_iff.mp H
  obtain ⟨t170, A100, H⟩ := H
  replace H : (if (((((((⟨#[116, 97, 115, 107, 32]⟩ : ByteArray) ++ a0_0) ++ (⟨#[32, 99, 61]⟩ : ByteArray)) ++ t168) ++ (⟨#[32, 116, 61]⟩ : ByteArray)) ++ t169) ++ (⟨#[32, 100, 61]⟩ : ByteArray)).size + t170.size ≤ 9223372036854775807 then (if ((((((((⟨#[116, 97, 115, 107, 32]⟩ : ByteArray) ++ a0_0) ++ (⟨#[32, 99, 61]⟩ : ByteArray)) ++ t168) ++ (⟨#[32, 116, 61]⟩ : ByteArray)) ++ t169) ++ (⟨#[32, 100, 61]⟩ : ByteArray)) ++ t170).size + 3 ≤ 9223372036854775807 then ((cadencyref05_Digits.f k a0_4).bind fun t171 => (if (((((((((⟨#[116, 97, 115, 107, 32]⟩ : ByteArray) ++ a0_0) ++ (⟨#[32, 99, 61]⟩ : ByteArray)) ++ t168) ++ (⟨#[32, 116, 61]⟩ : ByteArray)) ++ t169) ++ (⟨#[32, 100, 61]⟩ : ByteArray)) ++ t170) ++ (⟨#[32, 106, 61]⟩ : ByteArray)).size + t171.size ≤ 9223372036854775807 then (if ((((((((((⟨#[116, 97, 115, 107, 32]⟩ : ByteArray) ++ a0_0) ++ (⟨#[32, 99, 61]⟩ : ByteArray)) ++ t168) ++ (⟨#[32, 116, 61]⟩ : ByteArray)) ++ t169) ++ (⟨#[32, 100, 61]⟩ : ByteArray)) ++ t170) ++ (⟨#[32, 106, 61]⟩ : ByteArray)) ++ t171).size + 3 ≤ 9223372036854775807 then ((cadencyref05_Digits.f k a0_5).bind fun t172 => (if (((((((((((⟨#[116, 97, 115, 107, 32]⟩ : ByteArray) ++ a0_0) ++ (⟨#[32, 99, 61]⟩ : ByteArray)) ++ t168) ++ (⟨#[32, 116, 61]⟩ : ByteArray)) ++ t169) ++ (⟨#[32, 100, 61]⟩ : ByteArray)) ++ t170) ++ (⟨#[32, 106, 61]⟩ : ByteArray)) ++ t171) ++ (⟨#[32, 113, 61]⟩ : ByteArray)).size + t172.size ≤ 9223372036854775807 then (if ((((((((((((⟨#[116, 97, 115, 107, 32]⟩ : ByteArray) ++ a0_0) ++ (⟨#[32, 99, 61]⟩ : ByteArray)) ++ t168) ++ (⟨#[32, 116, 61]⟩ : ByteArray)) ++ t169) ++ (⟨#[32, 100, 61]⟩ : ByteArray)) ++ t170) ++ (⟨#[32, 106, 61]⟩ : ByteArray)) ++ t171) ++ (⟨#[32, 113, 61]⟩ : ByteArray)) ++ t172).size + 3 ≤ 9223372036854775807 then ((cadencyref05_Digits.f k a0_6).bind fun t173 => (if (((((((((((((⟨#[116, 97, 115, 107, 32]⟩ : ByteArray) ++ a0_0) ++ (⟨#[32, 99, 61]⟩ : ByteArray)) ++ t168) ++ (⟨#[32, 116, 61]⟩ : ByteArray)) ++ t169) ++ (⟨#[32, 100, 61]⟩ : ByteArray)) ++ t170) ++ (⟨#[32, 106, 61]⟩ : ByteArray)) ++ t171) ++ (⟨#[32, 113, 61]⟩ : ByteArray)) ++ t172) ++ (⟨#[32, 112, 61]⟩ : ByteArray)).size + t173.size ≤ 9223372036854775807 then ((some (([10] : List Int) : List Int)).bind fun y174 => (if ((((((((((((((⟨#[116, 97, 115, 107, 32]⟩ : ByteArray) ++ a0_0) ++ (⟨#[32, 99, 61]⟩ : ByteArray)) ++ t168) ++ (⟨#[32, 116, 61]⟩ : ByteArray)) ++ t169) ++ (⟨#[32, 100, 61]⟩ : ByteArray)) ++ t170) ++ (⟨#[32, 106, 61]⟩ : ByteArray)) ++ t171) ++ (⟨#[32, 113, 61]⟩ : ByteArray)) ++ t172) ++ (⟨#[32, 112, 61]⟩ : ByteArray)) ++ t173).size + (strOfNums y174).size ≤ 9223372036854775807 then (some (((((((((((((((⟨#[116, 97, 115, 107, 32]⟩ : ByteArray) ++ a0_0) ++ (⟨#[32, 99, 61]⟩ : ByteArray)) ++ t168) ++ (⟨#[32, 116, 61]⟩ : ByteArray)) ++ t169) ++ (⟨#[32, 100, 61]⟩ : ByteArray)) ++ t170) ++ (⟨#[32, 106, 61]⟩ : ByteArray)) ++ t171) ++ (⟨#[32, 113, 61]⟩ : ByteArray)) ++ t172) ++ (⟨#[32, 112, 61]⟩ : ByteArray)) ++ t173) ++ (strOfNums y174))) else (none))) else (none))) else (none)) else (none))) else (none)) else (none))) else (none)) else (none)) = some r := H
  have A10 := Aside0.mk A100
  clear A100
  by_cases c11 : (((((((⟨#[116, 97, 115, 107, 32]⟩ : ByteArray) ++ a0_0) ++ (⟨#[32, 99, 61]⟩ : ByteArray)) ++ t168) ++ (⟨#[32, 116, 61]⟩ : ByteArray)) ++ t169) ++ (⟨#[32, 100, 61]⟩ : ByteArray)).size + t170.size ≤ 9223372036854775807
  rotate_left
  · rw [if_neg c11] at H
    exact absurd H (by simp)
  rw [if_pos c11] at H
  have c11b0 := eq_true c11
  have c11b1 : decide ((((((((⟨#[116, 97, 115, 107, 32]⟩ : ByteArray) ++ a0_0) ++ (⟨#[32, 99, 61]⟩ : ByteArray)) ++ t168) ++ (⟨#[32, 116, 61]⟩ : ByteArray)) ++ t169) ++ (⟨#[32, 100, 61]⟩ : ByteArray)).size + t170.size ≤ 9223372036854775807) = true := decide_eq_true c11
  try have c11b2 : (9223372036854775807 < (((((((⟨#[116, 97, 115, 107, 32]⟩ : ByteArray) ++ a0_0) ++ (⟨#[32, 99, 61]⟩ : ByteArray)) ++ t168) ++ (⟨#[32, 116, 61]⟩ : ByteArray)) ++ t169) ++ (⟨#[32, 100, 61]⟩ : ByteArray)).size + t170.size) = False := eq_false (Nat.not_lt.2 c11)
  try have c11b7 := c11b2
  try simp only [ByteArray.size_append, show ((⟨#[116, 97, 115, 107, 32]⟩ : ByteArray)).size = 5 from rfl, show ((⟨#[32, 100, 61]⟩ : ByteArray)).size = 3 from rfl, show ((⟨#[32, 116, 61]⟩ : ByteArray)).size = 3 from rfl, show ((⟨#[32, 99, 61]⟩ : ByteArray)).size = 3 from rfl] at c11b7
  by_cases c12 : ((((((((⟨#[116, 97, 115, 107, 32]⟩ : ByteArray) ++ a0_0) ++ (⟨#[32, 99, 61]⟩ : ByteArray)) ++ t168) ++ (⟨#[32, 116, 61]⟩ : ByteArray)) ++ t169) ++ (⟨#[32, 100, 61]⟩ : ByteArray)) ++ t170).size + 3 ≤ 9223372036854775807
  rotate_left
  · rw [if_neg c12] at H
    exact absurd H (by simp)
  rw [if_pos c12] at H
  have c12b0 := eq_true c12
  have c12b1 : decide (((((((((⟨#[116, 97, 115, 107, 32]⟩ : ByteArray) ++ a0_0) ++ (⟨#[32, 99, 61]⟩ : ByteArray)) ++ t168) ++ (⟨#[32, 116, 61]⟩ : ByteArray)) ++ t169) ++ (⟨#[32, 100, 61]⟩ : ByteArray)) ++ t170).size + 3 ≤ 9223372036854775807) = true := decide_eq_true c12
  try have c12b2 : (9223372036854775807 < ((((((((⟨#[116, 97, 115, 107, 32]⟩ : ByteArray) ++ a0_0) ++ (⟨#[32, 99, 61]⟩ : ByteArray)) ++ t168) ++ (⟨#[32, 116, 61]⟩ : ByteArray)) ++ t169) ++ (⟨#[32, 100, 61]⟩ : ByteArray)) ++ t170).size + 3) = False := eq_false (Nat.not_lt.2 c12)
  try have c12b7 := c12b2
  try simp only [ByteArray.size_append, show ((⟨#[116, 97, 115, 107, 32]⟩ : ByteArray)).size = 5 from rfl, show ((⟨#[32, 100, 61]⟩ : ByteArray)).size = 3 from rfl, show ((⟨#[32, 116, 61]⟩ : ByteArray)).size = 3 from rfl, show ((⟨#[32, 99, 61]⟩ : ByteArray)).size = 3 from rfl] at c12b7
  replace H := Option.bind_eq_some_iff.mp H
  obtain ⟨t171, A130, H⟩ := H
  replace H : (if (((((((((⟨#[116, 97, 115, 107, 32]⟩ : ByteArray) ++ a0_0) ++ (⟨#[32, 99, 61]⟩ : ByteArray)) ++ t168) ++ (⟨#[32, 116, 61]⟩ : ByteArray)) ++ t169) ++ (⟨#[32, 100, 61]⟩ : ByteArray)) ++ t170) ++ (⟨#[32, 106, 61]⟩ : ByteArray)).size + t171.size ≤ 9223372036854775807 then (if ((((((((((⟨#[116, 97, 115, 107, 32]⟩ : ByteArray) ++ a0_0) ++ (⟨#[32, 99, 61]⟩ : ByteArray)) ++ t168) ++ (⟨#[32, 116, 61]⟩ : ByteArray)) ++ t169) ++ (⟨#[32, 100, 61]⟩ : ByteArray)) ++ t170) ++ (⟨#[32, 106, 61]⟩ : ByteArray)) ++ t171).size + 3 ≤ 9223372036854775807 then ((cadencyref05_Digits.f k a0_5).bind fun t172 => (if (((((((((((⟨#[116, 97, 115, 107, 32]⟩ : ByteArray) ++ a0_0) ++ (⟨#[32, 99, 61]⟩ : ByteArray)) ++ t168) ++ (⟨#[32, 116, 61]⟩ : ByteArray)) ++ t169) ++ (⟨#[32, 100, 61]⟩ : ByteArray)) ++ t170) ++ (⟨#[32, 106, 61]⟩ : ByteArray)) ++ t171) ++ (⟨#[32, 113, 61]⟩ : ByteArray)).size + t172.size ≤ 9223372036854775807 then (if ((((((((((((⟨#[116, 97, 115, 107, 32]⟩ : ByteArray) ++ a0_0) ++ (⟨#[32, 99, 61]⟩ : ByteArray)) ++ t168) ++ (⟨#[32, 116, 61]⟩ : ByteArray)) ++ t169) ++ (⟨#[32, 100, 61]⟩ : ByteArray)) ++ t170) ++ (⟨#[32, 106, 61]⟩ : ByteArray)) ++ t171) ++ (⟨#[32, 113, 61]⟩ : ByteArray)) ++ t172).size + 3 ≤ 9223372036854775807 then ((cadencyref05_Digits.f k a0_6).bind fun t173 => (if (((((((((((((⟨#[116, 97, 115, 107, 32]⟩ : ByteArray) ++ a0_0) ++ (⟨#[32, 99, 61]⟩ : ByteArray)) ++ t168) ++ (⟨#[32, 116, 61]⟩ : ByteArray)) ++ t169) ++ (⟨#[32, 100, 61]⟩ : ByteArray)) ++ t170) ++ (⟨#[32, 106, 61]⟩ : ByteArray)) ++ t171) ++ (⟨#[32, 113, 61]⟩ : ByteArray)) ++ t172) ++ (⟨#[32, 112, 61]⟩ : ByteArray)).size + t173.size ≤ 9223372036854775807 then ((some (([10] : List Int) : List Int)).bind fun y174 => (if ((((((((((((((⟨#[116, 97, 115, 107, 32]⟩ : ByteArray) ++ a0_0) ++ (⟨#[32, 99, 61]⟩ : ByteArray)) ++ t168) ++ (⟨#[32, 116, 61]⟩ : ByteArray)) ++ t169) ++ (⟨#[32, 100, 61]⟩ : ByteArray)) ++ t170) ++ (⟨#[32, 106, 61]⟩ : ByteArray)) ++ t171) ++ (⟨#[32, 113, 61]⟩ : ByteArray)) ++ t172) ++ (⟨#[32, 112, 61]⟩ : ByteArray)) ++ t173).size + (strOfNums y174).size ≤ 9223372036854775807 then (some (((((((((((((((⟨#[116, 97, 115, 107, 32]⟩ : ByteArray) ++ a0_0) ++ (⟨#[32, 99, 61]⟩ : ByteArray)) ++ t168) ++ (⟨#[32, 116, 61]⟩ : ByteArray)) ++ t169) ++ (⟨#[32, 100, 61]⟩ : ByteArray)) ++ t170) ++ (⟨#[32, 106, 61]⟩ : ByteArray)) ++ t171) ++ (⟨#[32, 113, 61]⟩ : ByteArray)) ++ t172) ++ (⟨#[32, 112, 61]⟩ : ByteArray)) ++ t173) ++ (strOfNums y174))) else (none))) else (none))) else (none)) else (none))) else (none)) else (none)) = some r := H
  have A13 := Aside0.mk A130
  clear A130
  by_cases c14 : (((((((((⟨#[116, 97, 115, 107, 32]⟩ : ByteArray) ++ a0_0) ++ (⟨#[32, 99, 61]⟩ : ByteArray)) ++ t168) ++ (⟨#[32, 116, 61]⟩ : ByteArray)) ++ t169) ++ (⟨#[32, 100, 61]⟩ : ByteArray)) ++ t170) ++ (⟨#[32, 106, 61]⟩ : ByteArray)).size + t171.size ≤ 9223372036854775807
  rotate_left
  · rw [if_neg c14] at H
    exact absurd H (by simp)
  rw [if_pos c14] at H
  have c14b0 := eq_true c14
  have c14b1 : decide ((((((((((⟨#[116, 97, 115, 107, 32]⟩ : ByteArray) ++ a0_0) ++ (⟨#[32, 99, 61]⟩ : ByteArray)) ++ t168) ++ (⟨#[32, 116, 61]⟩ : ByteArray)) ++ t169) ++ (⟨#[32, 100, 61]⟩ : ByteArray)) ++ t170) ++ (⟨#[32, 106, 61]⟩ : ByteArray)).size + t171.size ≤ 9223372036854775807) = true := decide_eq_true c14
  try have c14b2 : (9223372036854775807 < (((((((((⟨#[116, 97, 115, 107, 32]⟩ : ByteArray) ++ a0_0) ++ (⟨#[32, 99, 61]⟩ : ByteArray)) ++ t168) ++ (⟨#[32, 116, 61]⟩ : ByteArray)) ++ t169) ++ (⟨#[32, 100, 61]⟩ : ByteArray)) ++ t170) ++ (⟨#[32, 106, 61]⟩ : ByteArray)).size + t171.size) = False := eq_false (Nat.not_lt.2 c14)
  try have c14b7 := c14b2
  try simp only [ByteArray.size_append, show ((⟨#[116, 97, 115, 107, 32]⟩ : ByteArray)).size = 5 from rfl, show ((⟨#[32, 100, 61]⟩ : ByteArray)).size = 3 from rfl, show ((⟨#[32, 106, 61]⟩ : ByteArray)).size = 3 from rfl, show ((⟨#[32, 116, 61]⟩ : ByteArray)).size = 3 from rfl, show ((⟨#[32, 99, 61]⟩ : ByteArray)).size = 3 from rfl] at c14b7
  by_cases c15 : ((((((((((⟨#[116, 97, 115, 107, 32]⟩ : ByteArray) ++ a0_0) ++ (⟨#[32, 99, 61]⟩ : ByteArray)) ++ t168) ++ (⟨#[32, 116, 61]⟩ : ByteArray)) ++ t169) ++ (⟨#[32, 100, 61]⟩ : ByteArray)) ++ t170) ++ (⟨#[32, 106, 61]⟩ : ByteArray)) ++ t171).size + 3 ≤ 9223372036854775807
  rotate_left
  · rw [if_neg c15] at H
    exact absurd H (by simp)
  rw [if_pos c15] at H
  have c15b0 := eq_true c15
  have c15b1 : decide (((((((((((⟨#[116, 97, 115, 107, 32]⟩ : ByteArray) ++ a0_0) ++ (⟨#[32, 99, 61]⟩ : ByteArray)) ++ t168) ++ (⟨#[32, 116, 61]⟩ : ByteArray)) ++ t169) ++ (⟨#[32, 100, 61]⟩ : ByteArray)) ++ t170) ++ (⟨#[32, 106, 61]⟩ : ByteArray)) ++ t171).size + 3 ≤ 9223372036854775807) = true := decide_eq_true c15
  try have c15b2 : (9223372036854775807 < ((((((((((⟨#[116, 97, 115, 107, 32]⟩ : ByteArray) ++ a0_0) ++ (⟨#[32, 99, 61]⟩ : ByteArray)) ++ t168) ++ (⟨#[32, 116, 61]⟩ : ByteArray)) ++ t169) ++ (⟨#[32, 100, 61]⟩ : ByteArray)) ++ t170) ++ (⟨#[32, 106, 61]⟩ : ByteArray)) ++ t171).size + 3) = False := eq_false (Nat.not_lt.2 c15)
  try have c15b7 := c15b2
  try simp only [ByteArray.size_append, show ((⟨#[116, 97, 115, 107, 32]⟩ : ByteArray)).size = 5 from rfl, show ((⟨#[32, 100, 61]⟩ : ByteArray)).size = 3 from rfl, show ((⟨#[32, 106, 61]⟩ : ByteArray)).size = 3 from rfl, show ((⟨#[32, 116, 61]⟩ : ByteArray)).size = 3 from rfl, show ((⟨#[32, 99, 61]⟩ : ByteArray)).size = 3 from rfl] at c15b7
  replace H := Option.bind_eq_some_iff.mp H
  obtain ⟨t172, A160, H⟩ := H
  replace H : (if (((((((((((⟨#[116, 97, 115, 107, 32]⟩ : ByteArray) ++ a0_0) ++ (⟨#[32, 99, 61]⟩ : ByteArray)) ++ t168) ++ (⟨#[32, 116, 61]⟩ : ByteArray)) ++ t169) ++ (⟨#[32, 100, 61]⟩ : ByteArray)) ++ t170) ++ (⟨#[32, 106, 61]⟩ : ByteArray)) ++ t171) ++ (⟨#[32, 113, 61]⟩ : ByteArray)).size + t172.size ≤ 9223372036854775807 then (if ((((((((((((⟨#[116, 97, 115, 107, 32]⟩ : ByteArray) ++ a0_0) ++ (⟨#[32, 99, 61]⟩ : ByteArray)) ++ t168) ++ (⟨#[32, 116, 61]⟩ : ByteArray)) ++ t169) ++ (⟨#[32, 100, 61]⟩ : ByteArray)) ++ t170) ++ (⟨#[32, 106, 61]⟩ : ByteArray)) ++ t171) ++ (⟨#[32, 113, 61]⟩ : ByteArray)) ++ t172).size + 3 ≤ 9223372036854775807 then ((cadencyref05_Digits.f k a0_6).bind fun t173 => (if (((((((((((((⟨#[116, 97, 115, 107, 32]⟩ : ByteArray) ++ a0_0) ++ (⟨#[32, 99, 61]⟩ : ByteArray)) ++ t168) ++ (⟨#[32, 116, 61]⟩ : ByteArray)) ++ t169) ++ (⟨#[32, 100, 61]⟩ : ByteArray)) ++ t170) ++ (⟨#[32, 106, 61]⟩ : ByteArray)) ++ t171) ++ (⟨#[32, 113, 61]⟩ : ByteArray)) ++ t172) ++ (⟨#[32, 112, 61]⟩ : ByteArray)).size + t173.size ≤ 9223372036854775807 then ((some (([10] : List Int) : List Int)).bind fun y174 => (if ((((((((((((((⟨#[116, 97, 115, 107, 32]⟩ : ByteArray) ++ a0_0) ++ (⟨#[32, 99, 61]⟩ : ByteArray)) ++ t168) ++ (⟨#[32, 116, 61]⟩ : ByteArray)) ++ t169) ++ (⟨#[32, 100, 61]⟩ : ByteArray)) ++ t170) ++ (⟨#[32, 106, 61]⟩ : ByteArray)) ++ t171) ++ (⟨#[32, 113, 61]⟩ : ByteArray)) ++ t172) ++ (⟨#[32, 112, 61]⟩ : ByteArray)) ++ t173).size + (strOfNums y174).size ≤ 9223372036854775807 then (some (((((((((((((((⟨#[116, 97, 115, 107, 32]⟩ : ByteArray) ++ a0_0) ++ (⟨#[32, 99, 61]⟩ : ByteArray)) ++ t168) ++ (⟨#[32, 116, 61]⟩ : ByteArray)) ++ t169) ++ (⟨#[32, 100, 61]⟩ : ByteArray)) ++ t170) ++ (⟨#[32, 106, 61]⟩ : ByteArray)) ++ t171) ++ (⟨#[32, 113, 61]⟩ : ByteArray)) ++ t172) ++ (⟨#[32, 112, 61]⟩ : ByteArray)) ++ t173) ++ (strOfNums y174))) else (none))) else (none))) else (none)) else (none)) = some r := H
  have A16 := Aside0.mk A160
  clear A160
  by_cases c17 : (((((((((((⟨#[116, 97, 115, 107, 32]⟩ : ByteArray) ++ a0_0) ++ (⟨#[32, 99, 61]⟩ : ByteArray)) ++ t168) ++ (⟨#[32, 116, 61]⟩ : ByteArray)) ++ t169) ++ (⟨#[32, 100, 61]⟩ : ByteArray)) ++ t170) ++ (⟨#[32, 106, 61]⟩ : ByteArray)) ++ t171) ++ (⟨#[32, 113, 61]⟩ : ByteArray)).size + t172.size ≤ 9223372036854775807
  rotate_left
  · rw [if_neg c17] at H
    exact absurd H (by simp)
  rw [if_pos c17] at H
  have c17b0 := eq_true c17
  have c17b1 : decide ((((((((((((⟨#[116, 97, 115, 107, 32]⟩ : ByteArray) ++ a0_0) ++ (⟨#[32, 99, 61]⟩ : ByteArray)) ++ t168) ++ (⟨#[32, 116, 61]⟩ : ByteArray)) ++ t169) ++ (⟨#[32, 100, 61]⟩ : ByteArray)) ++ t170) ++ (⟨#[32, 106, 61]⟩ : ByteArray)) ++ t171) ++ (⟨#[32, 113, 61]⟩ : ByteArray)).size + t172.size ≤ 9223372036854775807) = true := decide_eq_true c17
  try have c17b2 : (9223372036854775807 < (((((((((((⟨#[116, 97, 115, 107, 32]⟩ : ByteArray) ++ a0_0) ++ (⟨#[32, 99, 61]⟩ : ByteArray)) ++ t168) ++ (⟨#[32, 116, 61]⟩ : ByteArray)) ++ t169) ++ (⟨#[32, 100, 61]⟩ : ByteArray)) ++ t170) ++ (⟨#[32, 106, 61]⟩ : ByteArray)) ++ t171) ++ (⟨#[32, 113, 61]⟩ : ByteArray)).size + t172.size) = False := eq_false (Nat.not_lt.2 c17)
  try have c17b7 := c17b2
  try simp only [ByteArray.size_append, show ((⟨#[116, 97, 115, 107, 32]⟩ : ByteArray)).size = 5 from rfl, show ((⟨#[32, 100, 61]⟩ : ByteArray)).size = 3 from rfl, show ((⟨#[32, 106, 61]⟩ : ByteArray)).size = 3 from rfl, show ((⟨#[32, 113, 61]⟩ : ByteArray)).size = 3 from rfl, show ((⟨#[32, 116, 61]⟩ : ByteArray)).size = 3 from rfl, show ((⟨#[32, 99, 61]⟩ : ByteArray)).size = 3 from rfl] at c17b7
  by_cases c18 : ((((((((((((⟨#[116, 97, 115, 107, 32]⟩ : ByteArray) ++ a0_0) ++ (⟨#[32, 99, 61]⟩ : ByteArray)) ++ t168) ++ (⟨#[32, 116, 61]⟩ : ByteArray)) ++ t169) ++ (⟨#[32, 100, 61]⟩ : ByteArray)) ++ t170) ++ (⟨#[32, 106, 61]⟩ : ByteArray)) ++ t171) ++ (⟨#[32, 113, 61]⟩ : ByteArray)) ++ t172).size + 3 ≤ 9223372036854775807
  rotate_left
  · rw [if_neg c18] at H
    exact absurd H (by simp)
  rw [if_pos c18] at H
  have c18b0 := eq_true c18
  have c18b1 : decide (((((((((((((⟨#[116, 97, 115, 107, 32]⟩ : ByteArray) ++ a0_0) ++ (⟨#[32, 99, 61]⟩ : ByteArray)) ++ t168) ++ (⟨#[32, 116, 61]⟩ : ByteArray)) ++ t169) ++ (⟨#[32, 100, 61]⟩ : ByteArray)) ++ t170) ++ (⟨#[32, 106, 61]⟩ : ByteArray)) ++ t171) ++ (⟨#[32, 113, 61]⟩ : ByteArray)) ++ t172).size + 3 ≤ 9223372036854775807) = true := decide_eq_true c18
  try have c18b2 : (9223372036854775807 < ((((((((((((⟨#[116, 97, 115, 107, 32]⟩ : ByteArray) ++ a0_0) ++ (⟨#[32, 99, 61]⟩ : ByteArray)) ++ t168) ++ (⟨#[32, 116, 61]⟩ : ByteArray)) ++ t169) ++ (⟨#[32, 100, 61]⟩ : ByteArray)) ++ t170) ++ (⟨#[32, 106, 61]⟩ : ByteArray)) ++ t171) ++ (⟨#[32, 113, 61]⟩ : ByteArray)) ++ t172).size + 3) = False := eq_false (Nat.not_lt.2 c18)
  try have c18b7 := c18b2
  try simp only [ByteArray.size_append, show ((⟨#[116, 97, 115, 107, 32]⟩ : ByteArray)).size = 5 from rfl, show ((⟨#[32, 100, 61]⟩ : ByteArray)).size = 3 from rfl, show ((⟨#[32, 106, 61]⟩ : ByteArray)).size = 3 from rfl, show ((⟨#[32, 113, 61]⟩ : ByteArray)).size = 3 from rfl, show ((⟨#[32, 116, 61]⟩ : ByteArray)).size = 3 from rfl, show ((⟨#[32, 99, 61]⟩ : ByteArray)).size = 3 from rfl] at c18b7
  replace H := Option.bind_eq_some_iff.mp H
  obtain ⟨t173, A190, H⟩ := H
  replace H : (if (((((((((((((⟨#[116, 97, 115, 107, 32]⟩ : ByteArray) ++ a0_0) ++ (⟨#[32, 99, 61]⟩ : ByteArray)) ++ t168) ++ (⟨#[32, 116, 61]⟩ : ByteArray)) ++ t169) ++ (⟨#[32, 100, 61]⟩ : ByteArray)) ++ t170) ++ (⟨#[32, 106, 61]⟩ : ByteArray)) ++ t171) ++ (⟨#[32, 113, 61]⟩ : ByteArray)) ++ t172) ++ (⟨#[32, 112, 61]⟩ : ByteArray)).size + t173.size ≤ 9223372036854775807 then ((some (([10] : List Int) : List Int)).bind fun y174 => (if ((((((((((((((⟨#[116, 97, 115, 107, 32]⟩ : ByteArray) ++ a0_0) ++ (⟨#[32, 99, 61]⟩ : ByteArray)) ++ t168) ++ (⟨#[32, 116, 61]⟩ : ByteArray)) ++ t169) ++ (⟨#[32, 100, 61]⟩ : ByteArray)) ++ t170) ++ (⟨#[32, 106, 61]⟩ : ByteArray)) ++ t171) ++ (⟨#[32, 113, 61]⟩ : ByteArray)) ++ t172) ++ (⟨#[32, 112, 61]⟩ : ByteArray)) ++ t173).size + (strOfNums y174).size ≤ 9223372036854775807 then (some (((((((((((((((⟨#[116, 97, 115, 107, 32]⟩ : ByteArray) ++ a0_0) ++ (⟨#[32, 99, 61]⟩ : ByteArray)) ++ t168) ++ (⟨#[32, 116, 61]⟩ : ByteArray)) ++ t169) ++ (⟨#[32, 100, 61]⟩ : ByteArray)) ++ t170) ++ (⟨#[32, 106, 61]⟩ : ByteArray)) ++ t171) ++ (⟨#[32, 113, 61]⟩ : ByteArray)) ++ t172) ++ (⟨#[32, 112, 61]⟩ : ByteArray)) ++ t173) ++ (strOfNums y174))) else (none))) else (none)) = some r := H
  have A19 := Aside0.mk A190
  clear A190
  by_cases c20 : (((((((((((((⟨#[116, 97, 115, 107, 32]⟩ : ByteArray) ++ a0_0) ++ (⟨#[32, 99, 61]⟩ : ByteArray)) ++ t168) ++ (⟨#[32, 116, 61]⟩ : ByteArray)) ++ t169) ++ (⟨#[32, 100, 61]⟩ : ByteArray)) ++ t170) ++ (⟨#[32, 106, 61]⟩ : ByteArray)) ++ t171) ++ (⟨#[32, 113, 61]⟩ : ByteArray)) ++ t172) ++ (⟨#[32, 112, 61]⟩ : ByteArray)).size + t173.size ≤ 9223372036854775807
  rotate_left
  · rw [if_neg c20] at H
    exact absurd H (by simp)
  rw [if_pos c20] at H
  have c20b0 := eq_true c20
  have c20b1 : decide ((((((((((((((⟨#[116, 97, 115, 107, 32]⟩ : ByteArray) ++ a0_0) ++ (⟨#[32, 99, 61]⟩ : ByteArray)) ++ t168) ++ (⟨#[32, 116, 61]⟩ : ByteArray)) ++ t169) ++ (⟨#[32, 100, 61]⟩ : ByteArray)) ++ t170) ++ (⟨#[32, 106, 61]⟩ : ByteArray)) ++ t171) ++ (⟨#[32, 113, 61]⟩ : ByteArray)) ++ t172) ++ (⟨#[32, 112, 61]⟩ : ByteArray)).size + t173.size ≤ 9223372036854775807) = true := decide_eq_true c20
  try have c20b2 : (9223372036854775807 < (((((((((((((⟨#[116, 97, 115, 107, 32]⟩ : ByteArray) ++ a0_0) ++ (⟨#[32, 99, 61]⟩ : ByteArray)) ++ t168) ++ (⟨#[32, 116, 61]⟩ : ByteArray)) ++ t169) ++ (⟨#[32, 100, 61]⟩ : ByteArray)) ++ t170) ++ (⟨#[32, 106, 61]⟩ : ByteArray)) ++ t171) ++ (⟨#[32, 113, 61]⟩ : ByteArray)) ++ t172) ++ (⟨#[32, 112, 61]⟩ : ByteArray)).size + t173.size) = False := eq_false (Nat.not_lt.2 c20)
  try have c20b7 := c20b2
  try simp only [ByteArray.size_append, show ((⟨#[116, 97, 115, 107, 32]⟩ : ByteArray)).size = 5 from rfl, show ((⟨#[32, 100, 61]⟩ : ByteArray)).size = 3 from rfl, show ((⟨#[32, 106, 61]⟩ : ByteArray)).size = 3 from rfl, show ((⟨#[32, 112, 61]⟩ : ByteArray)).size = 3 from rfl, show ((⟨#[32, 113, 61]⟩ : ByteArray)).size = 3 from rfl, show ((⟨#[32, 116, 61]⟩ : ByteArray)).size = 3 from rfl, show ((⟨#[32, 99, 61]⟩ : ByteArray)).size = 3 from rfl] at c20b7
  obtain ⟨y174, hy174⟩ : ∃ y_ : List Int, y_ = (([10] : List Int)) := ⟨_, rfl⟩
  replace H : (if ((((((((((((((⟨#[116, 97, 115, 107, 32]⟩ : ByteArray) ++ a0_0) ++ (⟨#[32, 99, 61]⟩ : ByteArray)) ++ t168) ++ (⟨#[32, 116, 61]⟩ : ByteArray)) ++ t169) ++ (⟨#[32, 100, 61]⟩ : ByteArray)) ++ t170) ++ (⟨#[32, 106, 61]⟩ : ByteArray)) ++ t171) ++ (⟨#[32, 113, 61]⟩ : ByteArray)) ++ t172) ++ (⟨#[32, 112, 61]⟩ : ByteArray)) ++ t173).size + (strOfNums y174).size ≤ 9223372036854775807 then (some (((((((((((((((⟨#[116, 97, 115, 107, 32]⟩ : ByteArray) ++ a0_0) ++ (⟨#[32, 99, 61]⟩ : ByteArray)) ++ t168) ++ (⟨#[32, 116, 61]⟩ : ByteArray)) ++ t169) ++ (⟨#[32, 100, 61]⟩ : ByteArray)) ++ t170) ++ (⟨#[32, 106, 61]⟩ : ByteArray)) ++ t171) ++ (⟨#[32, 113, 61]⟩ : ByteArray)) ++ t172) ++ (⟨#[32, 112, 61]⟩ : ByteArray)) ++ t173) ++ (strOfNums y174))) else (none)) = some r := by first | (rw [hy174]; with_reducible exact H) | (have H2_ := (Option.bind_some _ _).symm.trans H; rw [hy174]; with_reducible exact H2_) | (have H2_ := (Option.bind_some _ _).symm.trans H; with_reducible exact H2_) | with_reducible exact H | (rw [hy174]; exact H) | exact H
  have Ny174 := Aside0.mk hy174
  clear hy174
  by_cases c21 : ((((((((((((((⟨#[116, 97, 115, 107, 32]⟩ : ByteArray) ++ a0_0) ++ (⟨#[32, 99, 61]⟩ : ByteArray)) ++ t168) ++ (⟨#[32, 116, 61]⟩ : ByteArray)) ++ t169) ++ (⟨#[32, 100, 61]⟩ : ByteArray)) ++ t170) ++ (⟨#[32, 106, 61]⟩ : ByteArray)) ++ t171) ++ (⟨#[32, 113, 61]⟩ : ByteArray)) ++ t172) ++ (⟨#[32, 112, 61]⟩ : ByteArray)) ++ t173).size + (strOfNums y174).size ≤ 9223372036854775807
  rotate_left
  · rw [if_neg c21] at H
    exact absurd H (by simp)
  rw [if_pos c21] at H
  have c21b0 := eq_true c21
  have c21b1 : decide (((((((((((((((⟨#[116, 97, 115, 107, 32]⟩ : ByteArray) ++ a0_0) ++ (⟨#[32, 99, 61]⟩ : ByteArray)) ++ t168) ++ (⟨#[32, 116, 61]⟩ : ByteArray)) ++ t169) ++ (⟨#[32, 100, 61]⟩ : ByteArray)) ++ t170) ++ (⟨#[32, 106, 61]⟩ : ByteArray)) ++ t171) ++ (⟨#[32, 113, 61]⟩ : ByteArray)) ++ t172) ++ (⟨#[32, 112, 61]⟩ : ByteArray)) ++ t173).size + (strOfNums y174).size ≤ 9223372036854775807) = true := decide_eq_true c21
  try have c21b2 : (9223372036854775807 < ((((((((((((((⟨#[116, 97, 115, 107, 32]⟩ : ByteArray) ++ a0_0) ++ (⟨#[32, 99, 61]⟩ : ByteArray)) ++ t168) ++ (⟨#[32, 116, 61]⟩ : ByteArray)) ++ t169) ++ (⟨#[32, 100, 61]⟩ : ByteArray)) ++ t170) ++ (⟨#[32, 106, 61]⟩ : ByteArray)) ++ t171) ++ (⟨#[32, 113, 61]⟩ : ByteArray)) ++ t172) ++ (⟨#[32, 112, 61]⟩ : ByteArray)) ++ t173).size + (strOfNums y174).size) = False := eq_false (Nat.not_lt.2 c21)
  try have c21b7 := c21b2
  try simp only [ByteArray.size_append, show ((⟨#[116, 97, 115, 107, 32]⟩ : ByteArray)).size = 5 from rfl, show ((⟨#[32, 100, 61]⟩ : ByteArray)).size = 3 from rfl, show ((⟨#[32, 106, 61]⟩ : ByteArray)).size = 3 from rfl, show ((⟨#[32, 112, 61]⟩ : ByteArray)).size = 3 from rfl, show ((⟨#[32, 113, 61]⟩ : ByteArray)).size = 3 from rfl, show ((⟨#[32, 116, 61]⟩ : ByteArray)).size = 3 from rfl, show ((⟨#[32, 99, 61]⟩ : ByteArray)).size = 3 from rfl] at c21b7
  obtain rfl := Option.some.inj H
  go_enter Tryd.func12, Tryd.ntmps12
  try go_wp2_with (first | ((with_reducible refine gate_dst (N := 1) rfl ?_); refine box_event ?hg (N := 1) ?hd (cs := #[.string a0_0, .int .i64 a0_1, .int .i64 a0_2, .int .i64 a0_3, .int .i64 a0_4, .int .i64 a0_5, .int .i64 a0_6]) (t := 29) ?hr ?_; (case hd => rfl); (case hg => rfl); (case hr => first | (go_simp; done) | (go_simp; rfl)); intro gb167 hg w22 hbox hb; have n0_ := Aside0.mk (below_step (by repeat (first | (with_reducible first | exact HB.out | apply below_alloc | apply pw_below_drewN | apply below_drew1) | exact HB.out)) hb); have n1_ := Aside0.mk (hbox); have n2_ := Aside0.mk ((by rw [hg]; exact (below_size (by repeat (first | (with_reducible first | exact HB.out | apply below_alloc | apply pw_below_drewN | apply below_drew1) | exact HB.out))) : w.heap.size ≤ gb167)); have n3_ := Aside0.mk ((by rw [hg]; exact (below_size (by repeat (first | (with_reducible first | exact HB.out | apply below_alloc | apply pw_below_drewN | apply below_drew1) | exact HB.out))) : w.heap.size ≤ gb167)); clear HB; have HB := n0_; have BK167 := n1_; have GW167 := n2_; have GE167 := n3_; clear n0_ n1_ n2_ n3_; clear hb hbox hg))
  have n0_ := Aside0.mk (blk_drew BK167.out)
  have n1_ := Aside0.mk (below_drew1 HB.out)
  clear BK167
  clear HB
  have BK167 := n0_
  have HB := n1_
  clear n0_ n1_
  refine start_ (n := 37) (S := fun w' => w'.cell? ⟨gb167, 0, none⟩ = some (.string a0_0) ∧ w'.cell? ⟨gb167, 1, none⟩ = some (.int .i64 a0_1) ∧ w'.cell? ⟨gb167, 2, none⟩ = some (.int .i64 a0_2) ∧ w'.cell? ⟨gb167, 3, none⟩ = some (.int .i64 a0_3) ∧ w'.cell? ⟨gb167, 4, none⟩ = some (.int .i64 a0_4) ∧ w'.cell? ⟨gb167, 5, none⟩ = some (.int .i64 a0_5) ∧ w'.cell? ⟨gb167, 6, none⟩ = some (.int .i64 a0_6)) (ds := []) #[false, false, false, false, false, false, false, false, false, false, false, false, false, false, false, false, false, false, false, false, false, false, false, false, false, false, false, false, false, false, false, false, false, false, false, false, false] (by kernel_rfl) rfl rfl ⟨(blk_cell BK167.out 0).trans rfl, (blk_cell BK167.out 1).trans rfl, (blk_cell BK167.out 2).trans rfl, (blk_cell BK167.out 3).trans rfl, (blk_cell BK167.out 4).trans rfl, (blk_cell BK167.out 5).trans rfl, (blk_cell BK167.out 6).trans rfl⟩ (fun hHeld => ?_); refine with_tabW cadencyref05_Line.tab1 cadencyref05_Line.bits1 (fun HT_ HW_ => ?_)
  generalize w22.drew = w23 at BK167 HB hHeld ⊢
  refine pure_ (i := 0) (N := some 3) (v := ?_) (a' := ?_) #[true, false, false, false, false, false, false, false, false, false, false, false, false, false, false, false, false, false, false, false, false, false, false, false, false, false, false, false, false, false, false, false, false, false, false, false, false] rfl rfl (any_of HT_.out (by kernel_rfl)) (fun _ _ _ h => h) (Or.inl ⟨by rfl, ?_⟩) ?_ ?_
  rotate_left
  · intro w'
    go_simp
    with_reducible rfl
  rotate_left
  · simp only [Act.put, List.setIfInBounds_toArray, List.set_cons_zero, List.set_cons_succ, i64_w, i32_w]
    rfl
  refine pure_ (i := 4) (N := some 7) (v := ?_) (a' := ?_) #[true, false, false, false, true, false, false, false, false, false, false, false, false, false, false, false, false, false, false, false, false, false, false, false, false, false, false, false, false, false, false, false, false, false, false, false, false] rfl rfl (any_of HT_.out (by kernel_rfl)) (fun _ _ _ h => h) (Or.inl ⟨by rfl, ?_⟩) ?_ ?_
  rotate_left
  · intro w'
    go_simp
    with_reducible rfl
  rotate_left
  · simp only [Act.put, List.setIfInBounds_toArray, List.set_cons_zero, List.set_cons_succ, i64_w, i32_w]
    rfl
  refine pure_ (i := 9) (N := some 12) (v := ?_) (a' := ?_) #[true, false, false, false, true, false, false, false, false, true, false, false, false, false, false, false, false, false, false, false, false, false, false, false, false, false, false, false, false, false, false, false, false, false, false, false, false] rfl rfl (any_of HT_.out (by kernel_rfl)) (fun _ _ _ h => h) (Or.inl ⟨by rfl, ?_⟩) ?_ ?_
  rotate_left
  · intro w'
    go_simp
    with_reducible rfl
  rotate_left
  · simp only [Act.put, List.setIfInBounds_toArray, List.set_cons_zero, List.set_cons_succ, i64_w, i32_w]
    rfl
  refine pure_ (i := 14) (N := some 17) (v := ?_) (a' := ?_) #[true, false, false, false, true, false, false, false, false, true, false, false, false, false, true, false, false, false, false, false, false, false, false, false, false, false, false, false, false, false, false, false, false, false, false, false, false] rfl rfl (any_of HT_.out (by kernel_rfl)) (fun _ _ _ h => h) (Or.inl ⟨by rfl, ?_⟩) ?_ ?_
  rotate_left
  · intro w'
    go_simp
    with_reducible rfl
  rotate_left
  · simp only [Act.put, List.setIfInBounds_toArray, List.set_cons_zero, List.set_cons_succ, i64_w, i32_w]
    rfl
  refine pure_ (i := 19) (N := some 22) (v := ?_) (a' := ?_) #[true, false, false, false, true, false, false, false, false, true, false, false, false, false, true, false, false, false, false, true, false, false, false, false, false, false, false, false, false, false, false, false, false, false, false, false, false] rfl rfl (any_of HT_.out (by kernel_rfl)) (fun _ _ _ h => h) (Or.inl ⟨by rfl, ?_⟩) ?_ ?_
  rotate_left
  · intro w'
    go_simp
    with_reducible rfl
  rotate_left
  · simp only [Act.put, List.setIfInBounds_toArray, List.set_cons_zero, List.set_cons_succ, i64_w, i32_w]
    rfl
  refine pure_ (i := 24) (N := some 27) (v := ?_) (a' := ?_) #[true, false, false, false, true, false, false, false, false, true, false, false, false, false, true, false, false, false, false, true, false, false, false, false, true, false, false, false, false, false, false, false, false, false, false, false, false] rfl rfl (any_of HT_.out (by kernel_rfl)) (fun _ _ _ h => h) (Or.inl ⟨by rfl, ?_⟩) ?_ ?_
  rotate_left
  · intro w'
    go_simp
    with_reducible rfl
  rotate_left
  · simp only [Act.put, List.setIfInBounds_toArray, List.set_cons_zero, List.set_cons_succ, i64_w, i32_w]
    rfl
  refine pure_ (i := 29) (N := some 32) (v := ?_) (a' := ?_) #[true, false, false, false, true, false, false, false, false, true, false, false, false, false, true, false, false, false, false, true, false, false, false, false, true, false, false, false, false, true, false, false, false, false, false, false, false] rfl rfl (any_of HT_.out (by kernel_rfl)) (fun _ _ _ h => h) (Or.inl ⟨by rfl, ?_⟩) ?_ ?_
  rotate_left
  · intro w'
    go_simp
    with_reducible rfl
  rotate_left
  · simp only [Act.put, List.setIfInBounds_toArray, List.set_cons_zero, List.set_cons_succ, i64_w, i32_w]
    rfl
  refine take_ (i := 1) (N := some 4) (v := ?_) (a' := ?_) #[true, true, false, false, true, false, false, false, false, true, false, false, false, false, true, false, false, false, false, true, false, false, false, false, true, false, false, false, false, true, false, false, false, false, false, false, false] rfl rfl (take_ofW HT_.out HW_.out (by kernel_rfl)) (fun _ _ _ h => h) (Or.inl ⟨by rfl, ?_⟩) hHeld ?_ ?_
  rotate_left
  · rintro w' ⟨s0, s1, s2, s3, s4, s5, s6⟩
    go_simp
    with_reducible rfl
  rotate_left
  · simp only [Act.put, List.setIfInBounds_toArray, List.set_cons_zero, List.set_cons_succ, i64_w, i32_w]
    rfl
  refine pure_ (i := 2) (N := some 5) (v := ?_) (a' := ?_) #[true, true, true, false, true, false, false, false, false, true, false, false, false, false, true, false, false, false, false, true, false, false, false, false, true, false, false, false, false, true, false, false, false, false, false, false, false] rfl rfl (any_of HT_.out (by kernel_rfl)) (fun _ _ _ h => h) (Or.inl ⟨by rfl, ?_⟩) ?_ ?_
  rotate_left
  · intro w'
    go_simp
    with_reducible rfl
  rotate_left
  · simp only [Act.put, List.setIfInBounds_toArray, List.set_cons_zero, List.set_cons_succ, i64_w, i32_w]
    rfl
  refine pure_ (i := 3) (N := some 6) (v := ?_) (a' := ?_) #[true, true, true, true, true, false, false, false, false, true, false, false, false, false, true, false, false, false, false, true, false, false, false, false, true, false, false, false, false, true, false, false, false, false, false, false, false] rfl rfl (any_of HT_.out (by kernel_rfl)) (fun _ _ _ h => h) (Or.inl ⟨by rfl, ?_⟩) ?_ ?_
  rotate_left
  · intro w'
    go_simp
    with_reducible rfl
  rotate_left
  · simp only [Act.put, List.setIfInBounds_toArray, List.set_cons_zero, List.set_cons_succ, i64_w, i32_w]
    rfl
  refine take_ (i := 5) (N := some 8) (v := ?_) (a' := ?_) #[true, true, true, true, true, true, false, false, false, true, false, false, false, false, true, false, false, false, false, true, false, false, false, false, true, false, false, false, false, true, false, false, false, false, false, false, false] rfl rfl (take_ofW HT_.out HW_.out (by kernel_rfl)) (fun _ _ _ h => h) (Or.inl ⟨by rfl, ?_⟩) hHeld ?_ ?_
  rotate_left
  · rintro w' ⟨s0, s1, s2, s3, s4, s5, s6⟩
    go_simp
    with_reducible rfl
  rotate_left
  · simp only [Act.put, List.setIfInBounds_toArray, List.set_cons_zero, List.set_cons_succ, i64_w, i32_w]
    rfl
  refine take_ (i := 10) (N := some 13) (v := ?_) (a' := ?_) #[true, true, true, true, true, true, false, false, false, true, true, false, false, false, true, false, false, false, false, true, false, false, false, false, true, false, false, false, false, true, false, false, false, false, false, false, false] rfl rfl (take_ofW HT_.out HW_.out (by kernel_rfl)) (fun _ _ _ h => h) (Or.inl ⟨by rfl, ?_⟩) hHeld ?_ ?_
  rotate_left
  · rintro w' ⟨s0, s1, s2, s3, s4, s5, s6⟩
    go_simp
    with_reducible rfl
  rotate_left
  · simp only [Act.put, List.setIfInBounds_toArray, List.set_cons_zero, List.set_cons_succ, i64_w, i32_w]
    rfl
  refine take_ (i := 15) (N := some 18) (v := ?_) (a' := ?_) #[true, true, true, true, true, true, false, false, false, true, true, false, false, false, true, true, false, false, false, true, false, false, false, false, true, false, false, false, false, true, false, false, false, false, false, false, false] rfl rfl (take_ofW HT_.out HW_.out (by kernel_rfl)) (fun _ _ _ h => h) (Or.inl ⟨by rfl, ?_⟩) hHeld ?_ ?_
  rotate_left
  · rintro w' ⟨s0, s1, s2, s3, s4, s5, s6⟩
    go_simp
    with_reducible rfl
  rotate_left
  · simp only [Act.put, List.setIfInBounds_toArray, List.set_cons_zero, List.set_cons_succ, i64_w, i32_w]
    rfl
  refine take_ (i := 20) (N := some 23) (v := ?_) (a' := ?_) #[true, true, true, true, true, true, false, false, false, true, true, false, false, false, true, true, false, false, false, true, true, false, false, false, true, false, false, false, false, true, false, false, false, false, false, false, false] rfl rfl (take_ofW HT_.out HW_.out (by kernel_rfl)) (fun _ _ _ h => h) (Or.inl ⟨by rfl, ?_⟩) hHeld ?_ ?_
  rotate_left
  · rintro w' ⟨s0, s1, s2, s3, s4, s5, s6⟩
    go_simp
    with_reducible rfl
  rotate_left
  · simp only [Act.put, List.setIfInBounds_toArray, List.set_cons_zero, List.set_cons_succ, i64_w, i32_w]
    rfl
  refine take_ (i := 25) (N := some 28) (v := ?_) (a' := ?_) #[true, true, true, true, true, true, false, false, false, true, true, false, false, false, true, true, false, false, false, true, true, false, false, false, true, true, false, false, false, true, false, false, false, false, false, false, false] rfl rfl (take_ofW HT_.out HW_.out (by kernel_rfl)) (fun _ _ _ h => h) (Or.inl ⟨by rfl, ?_⟩) hHeld ?_ ?_
  rotate_left
  · rintro w' ⟨s0, s1, s2, s3, s4, s5, s6⟩
    go_simp
    with_reducible rfl
  rotate_left
  · simp only [Act.put, List.setIfInBounds_toArray, List.set_cons_zero, List.set_cons_succ, i64_w, i32_w]
    rfl
  refine take_ (i := 30) (N := some 33) (v := ?_) (a' := ?_) #[true, true, true, true, true, true, false, false, false, true, true, false, false, false, true, true, false, false, false, true, true, false, false, false, true, true, false, false, false, true, true, false, false, false, false, false, false] rfl rfl (take_ofW HT_.out HW_.out (by kernel_rfl)) (fun _ _ _ h => h) (Or.inl ⟨by rfl, ?_⟩) hHeld ?_ ?_
  rotate_left
  · rintro w' ⟨s0, s1, s2, s3, s4, s5, s6⟩
    go_simp
    with_reducible rfl
  rotate_left
  · simp only [Act.put, List.setIfInBounds_toArray, List.set_cons_zero, List.set_cons_succ, i64_w, i32_w]
    rfl
  refine join_ (σ := Value) 2 #[true, true, true, true, true, true, true, true, true, true, true, true, true, true, true, true, true, true, true, true, true, true, true, true, true, true, true, true, true, true, true, true, true, true, true, false, false] (fun s_ => [(9, .string t168), (14, .string t169), (19, .string t170), (24, .string t171), (29, .string t172), (34, .string t173), (36, s_), (37, .string (strOfNums y174)), (10, .string ((((⟨#[116, 97, 115, 107, 32]⟩ : ByteArray) ++ a0_0) ++ (⟨#[32, 99, 61]⟩ : ByteArray)) ++ t168)), (11, .string (((((⟨#[116, 97, 115, 107, 32]⟩ : ByteArray) ++ a0_0) ++ (⟨#[32, 99, 61]⟩ : ByteArray)) ++ t168) ++ (⟨#[32, 116, 61]⟩ : ByteArray))), (15, .string ((((((⟨#[116, 97, 115, 107, 32]⟩ : ByteArray) ++ a0_0) ++ (⟨#[32, 99, 61]⟩ : ByteArray)) ++ t168) ++ (⟨#[32, 116, 61]⟩ : ByteArray)) ++ t169)), (16, .string (((((((⟨#[116, 97, 115, 107, 32]⟩ : ByteArray) ++ a0_0) ++ (⟨#[32, 99, 61]⟩ : ByteArray)) ++ t168) ++ (⟨#[32, 116, 61]⟩ : ByteArray)) ++ t169) ++ (⟨#[32, 100, 61]⟩ : ByteArray))), (20, .string ((((((((⟨#[116, 97, 115, 107, 32]⟩ : ByteArray) ++ a0_0) ++ (⟨#[32, 99, 61]⟩ : ByteArray)) ++ t168) ++ (⟨#[32, 116, 61]⟩ : ByteArray)) ++ t169) ++ (⟨#[32, 100, 61]⟩ : ByteArray)) ++ t170)), (21, .string (((((((((⟨#[116, 97, 115, 107, 32]⟩ : ByteArray) ++ a0_0) ++ (⟨#[32, 99, 61]⟩ : ByteArray)) ++ t168) ++ (⟨#[32, 116, 61]⟩ : ByteArray)) ++ t169) ++ (⟨#[32, 100, 61]⟩ : ByteArray)) ++ t170) ++ (⟨#[32, 106, 61]⟩ : ByteArray))), (25, .string ((((((((((⟨#[116, 97, 115, 107, 32]⟩ : ByteArray) ++ a0_0) ++ (⟨#[32, 99, 61]⟩ : ByteArray)) ++ t168) ++ (⟨#[32, 116, 61]⟩ : ByteArray)) ++ t169) ++ (⟨#[32, 100, 61]⟩ : ByteArray)) ++ t170) ++ (⟨#[32, 106, 61]⟩ : ByteArray)) ++ t171)), (26, .string (((((((((((⟨#[116, 97, 115, 107, 32]⟩ : ByteArray) ++ a0_0) ++ (⟨#[32, 99, 61]⟩ : ByteArray)) ++ t168) ++ (⟨#[32, 116, 61]⟩ : ByteArray)) ++ t169) ++ (⟨#[32, 100, 61]⟩ : ByteArray)) ++ t170) ++ (⟨#[32, 106, 61]⟩ : ByteArray)) ++ t171) ++ (⟨#[32, 113, 61]⟩ : ByteArray))), (30, .string ((((((((((((⟨#[116, 97, 115, 107, 32]⟩ : ByteArray) ++ a0_0) ++ (⟨#[32, 99, 61]⟩ : ByteArray)) ++ t168) ++ (⟨#[32, 116, 61]⟩ : ByteArray)) ++ t169) ++ (⟨#[32, 100, 61]⟩ : ByteArray)) ++ t170) ++ (⟨#[32, 106, 61]⟩ : ByteArray)) ++ t171) ++ (⟨#[32, 113, 61]⟩ : ByteArray)) ++ t172)), (31, .string (((((((((((((⟨#[116, 97, 115, 107, 32]⟩ : ByteArray) ++ a0_0) ++ (⟨#[32, 99, 61]⟩ : ByteArray)) ++ t168) ++ (⟨#[32, 116, 61]⟩ : ByteArray)) ++ t169) ++ (⟨#[32, 100, 61]⟩ : ByteArray)) ++ t170) ++ (⟨#[32, 106, 61]⟩ : ByteArray)) ++ t171) ++ (⟨#[32, 113, 61]⟩ : ByteArray)) ++ t172) ++ (⟨#[32, 112, 61]⟩ : ByteArray))), (35, .string ((((((((((((((⟨#[116, 97, 115, 107, 32]⟩ : ByteArray) ++ a0_0) ++ (⟨#[32, 99, 61]⟩ : ByteArray)) ++ t168) ++ (⟨#[32, 116, 61]⟩ : ByteArray)) ++ t169) ++ (⟨#[32, 100, 61]⟩ : ByteArray)) ++ t170) ++ (⟨#[32, 106, 61]⟩ : ByteArray)) ++ t171) ++ (⟨#[32, 113, 61]⟩ : ByteArray)) ++ t172) ++ (⟨#[32, 112, 61]⟩ : ByteArray)) ++ t173))]) (fun s_ w' => (w'.cell? ⟨gb167, 0, none⟩ = some (.string a0_0) ∧ w'.cell? ⟨gb167, 1, none⟩ = some (.int .i64 a0_1) ∧ w'.cell? ⟨gb167, 2, none⟩ = some (.int .i64 a0_2) ∧ w'.cell? ⟨gb167, 3, none⟩ = some (.int .i64 a0_3) ∧ w'.cell? ⟨gb167, 4, none⟩ = some (.int .i64 a0_4) ∧ w'.cell? ⟨gb167, 5, none⟩ = some (.int .i64 a0_5) ∧ w'.cell? ⟨gb167, 6, none⟩ = some (.int .i64 a0_6)) ∧ (Kd.R (Kd.int .u8) 5 w' w.heap.size (fun _ => True) s_ y174) ∧ (w'.heap[gb167]? = some (.cells #[.string a0_0, .int .i64 a0_1, .int .i64 a0_2, .int .i64 a0_3, .int .i64 a0_4, .int .i64 a0_5, .int .i64 a0_6] 29 (0, 0))) ∧ (Below w.heap.size w w')) ?_ ?_
  rotate_left
  · intro hJ6_11_16_21_26_31_33_34
    refine join_ (σ := Value) 3 #[true, true, true, true, true, true, true, true, true, true, true, true, true, true, true, true, true, true, true, true, true, true, true, true, true, true, true, true, true, true, true, true, true, true, false, false, false] (fun s_ => [(9, .string t168), (14, .string t169), (19, .string t170), (24, .string t171), (29, .string t172), (34, .string t173), (36, s_), (10, .string ((((⟨#[116, 97, 115, 107, 32]⟩ : ByteArray) ++ a0_0) ++ (⟨#[32, 99, 61]⟩ : ByteArray)) ++ t168)), (11, .string (((((⟨#[116, 97, 115, 107, 32]⟩ : ByteArray) ++ a0_0) ++ (⟨#[32, 99, 61]⟩ : ByteArray)) ++ t168) ++ (⟨#[32, 116, 61]⟩ : ByteArray))), (15, .string ((((((⟨#[116, 97, 115, 107, 32]⟩ : ByteArray) ++ a0_0) ++ (⟨#[32, 99, 61]⟩ : ByteArray)) ++ t168) ++ (⟨#[32, 116, 61]⟩ : ByteArray)) ++ t169)), (16, .string (((((((⟨#[116, 97, 115, 107, 32]⟩ : ByteArray) ++ a0_0) ++ (⟨#[32, 99, 61]⟩ : ByteArray)) ++ t168) ++ (⟨#[32, 116, 61]⟩ : ByteArray)) ++ t169) ++ (⟨#[32, 100, 61]⟩ : ByteArray))), (20, .string ((((((((⟨#[116, 97, 115, 107, 32]⟩ : ByteArray) ++ a0_0) ++ (⟨#[32, 99, 61]⟩ : ByteArray)) ++ t168) ++ (⟨#[32, 116, 61]⟩ : ByteArray)) ++ t169) ++ (⟨#[32, 100, 61]⟩ : ByteArray)) ++ t170)), (21, .string (((((((((⟨#[116, 97, 115, 107, 32]⟩ : ByteArray) ++ a0_0) ++ (⟨#[32, 99, 61]⟩ : ByteArray)) ++ t168) ++ (⟨#[32, 116, 61]⟩ : ByteArray)) ++ t169) ++ (⟨#[32, 100, 61]⟩ : ByteArray)) ++ t170) ++ (⟨#[32, 106, 61]⟩ : ByteArray))), (25, .string ((((((((((⟨#[116, 97, 115, 107, 32]⟩ : ByteArray) ++ a0_0) ++ (⟨#[32, 99, 61]⟩ : ByteArray)) ++ t168) ++ (⟨#[32, 116, 61]⟩ : ByteArray)) ++ t169) ++ (⟨#[32, 100, 61]⟩ : ByteArray)) ++ t170) ++ (⟨#[32, 106, 61]⟩ : ByteArray)) ++ t171)), (26, .string (((((((((((⟨#[116, 97, 115, 107, 32]⟩ : ByteArray) ++ a0_0) ++ (⟨#[32, 99, 61]⟩ : ByteArray)) ++ t168) ++ (⟨#[32, 116, 61]⟩ : ByteArray)) ++ t169) ++ (⟨#[32, 100, 61]⟩ : ByteArray)) ++ t170) ++ (⟨#[32, 106, 61]⟩ : ByteArray)) ++ t171) ++ (⟨#[32, 113, 61]⟩ : ByteArray))), (30, .string ((((((((((((⟨#[116, 97, 115, 107, 32]⟩ : ByteArray) ++ a0_0) ++ (⟨#[32, 99, 61]⟩ : ByteArray)) ++ t168) ++ (⟨#[32, 116, 61]⟩ : ByteArray)) ++ t169) ++ (⟨#[32, 100, 61]⟩ : ByteArray)) ++ t170) ++ (⟨#[32, 106, 61]⟩ : ByteArray)) ++ t171) ++ (⟨#[32, 113, 61]⟩ : ByteArray)) ++ t172)), (31, .string (((((((((((((⟨#[116, 97, 115, 107, 32]⟩ : ByteArray) ++ a0_0) ++ (⟨#[32, 99, 61]⟩ : ByteArray)) ++ t168) ++ (⟨#[32, 116, 61]⟩ : ByteArray)) ++ t169) ++ (⟨#[32, 100, 61]⟩ : ByteArray)) ++ t170) ++ (⟨#[32, 106, 61]⟩ : ByteArray)) ++ t171) ++ (⟨#[32, 113, 61]⟩ : ByteArray)) ++ t172) ++ (⟨#[32, 112, 61]⟩ : ByteArray))), (35, .string ((((((((((((((⟨#[116, 97, 115, 107, 32]⟩ : ByteArray) ++ a0_0) ++ (⟨#[32, 99, 61]⟩ : ByteArray)) ++ t168) ++ (⟨#[32, 116, 61]⟩ : ByteArray)) ++ t169) ++ (⟨#[32, 100, 61]⟩ : ByteArray)) ++ t170) ++ (⟨#[32, 106, 61]⟩ : ByteArray)) ++ t171) ++ (⟨#[32, 113, 61]⟩ : ByteArray)) ++ t172) ++ (⟨#[32, 112, 61]⟩ : ByteArray)) ++ t173))]) (fun s_ w' => (w'.cell? ⟨gb167, 0, none⟩ = some (.string a0_0) ∧ w'.cell? ⟨gb167, 1, none⟩ = some (.int .i64 a0_1) ∧ w'.cell? ⟨gb167, 2, none⟩ = some (.int .i64 a0_2) ∧ w'.cell? ⟨gb167, 3, none⟩ = some (.int .i64 a0_3) ∧ w'.cell? ⟨gb167, 4, none⟩ = some (.int .i64 a0_4) ∧ w'.cell? ⟨gb167, 5, none⟩ = some (.int .i64 a0_5) ∧ w'.cell? ⟨gb167, 6, none⟩ = some (.int .i64 a0_6)) ∧ (Kd.R (Kd.int .u8) 5 w' w.heap.size (fun _ => True) s_ y174) ∧ (w'.heap[gb167]? = some (.cells #[.string a0_0, .int .i64 a0_1, .int .i64 a0_2, .int .i64 a0_3, .int .i64 a0_4, .int .i64 a0_5, .int .i64 a0_6] 29 (0, 0))) ∧ (Below w.heap.size w w')) ?_ ?_
    rotate_left
    · intro hJ6_11_16_21_26_31_33
      refine join_ (σ := Value) 4 #[true, true, true, true, true, true, true, true, true, true, true, true, true, true, true, true, true, true, true, true, true, true, true, true, true, true, true, true, true, true, true, false, false, true, true, false, false] (fun s_ => [(9, .string t168), (14, .string t169), (19, .string t170), (24, .string t171), (29, .string t172), (36, s_), (37, .string (strOfNums y174)), (10, .string ((((⟨#[116, 97, 115, 107, 32]⟩ : ByteArray) ++ a0_0) ++ (⟨#[32, 99, 61]⟩ : ByteArray)) ++ t168)), (11, .string (((((⟨#[116, 97, 115, 107, 32]⟩ : ByteArray) ++ a0_0) ++ (⟨#[32, 99, 61]⟩ : ByteArray)) ++ t168) ++ (⟨#[32, 116, 61]⟩ : ByteArray))), (15, .string ((((((⟨#[116, 97, 115, 107, 32]⟩ : ByteArray) ++ a0_0) ++ (⟨#[32, 99, 61]⟩ : ByteArray)) ++ t168) ++ (⟨#[32, 116, 61]⟩ : ByteArray)) ++ t169)), (16, .string (((((((⟨#[116, 97, 115, 107, 32]⟩ : ByteArray) ++ a0_0) ++ (⟨#[32, 99, 61]⟩ : ByteArray)) ++ t168) ++ (⟨#[32, 116, 61]⟩ : ByteArray)) ++ t169) ++ (⟨#[32, 100, 61]⟩ : ByteArray))), (20, .string ((((((((⟨#[116, 97, 115, 107, 32]⟩ : ByteArray) ++ a0_0) ++ (⟨#[32, 99, 61]⟩ : ByteArray)) ++ t168) ++ (⟨#[32, 116, 61]⟩ : ByteArray)) ++ t169) ++ (⟨#[32, 100, 61]⟩ : ByteArray)) ++ t170)), (21, .string (((((((((⟨#[116, 97, 115, 107, 32]⟩ : ByteArray) ++ a0_0) ++ (⟨#[32, 99, 61]⟩ : ByteArray)) ++ t168) ++ (⟨#[32, 116, 61]⟩ : ByteArray)) ++ t169) ++ (⟨#[32, 100, 61]⟩ : ByteArray)) ++ t170) ++ (⟨#[32, 106, 61]⟩ : ByteArray))), (25, .string ((((((((((⟨#[116, 97, 115, 107, 32]⟩ : ByteArray) ++ a0_0) ++ (⟨#[32, 99, 61]⟩ : ByteArray)) ++ t168) ++ (⟨#[32, 116, 61]⟩ : ByteArray)) ++ t169) ++ (⟨#[32, 100, 61]⟩ : ByteArray)) ++ t170) ++ (⟨#[32, 106, 61]⟩ : ByteArray)) ++ t171)), (26, .string (((((((((((⟨#[116, 97, 115, 107, 32]⟩ : ByteArray) ++ a0_0) ++ (⟨#[32, 99, 61]⟩ : ByteArray)) ++ t168) ++ (⟨#[32, 116, 61]⟩ : ByteArray)) ++ t169) ++ (⟨#[32, 100, 61]⟩ : ByteArray)) ++ t170) ++ (⟨#[32, 106, 61]⟩ : ByteArray)) ++ t171) ++ (⟨#[32, 113, 61]⟩ : ByteArray))), (30, .string ((((((((((((⟨#[116, 97, 115, 107, 32]⟩ : ByteArray) ++ a0_0) ++ (⟨#[32, 99, 61]⟩ : ByteArray)) ++ t168) ++ (⟨#[32, 116, 61]⟩ : ByteArray)) ++ t169) ++ (⟨#[32, 100, 61]⟩ : ByteArray)) ++ t170) ++ (⟨#[32, 106, 61]⟩ : ByteArray)) ++ t171) ++ (⟨#[32, 113, 61]⟩ : ByteArray)) ++ t172)), (31, .string (((((((((((((⟨#[116, 97, 115, 107, 32]⟩ : ByteArray) ++ a0_0) ++ (⟨#[32, 99, 61]⟩ : ByteArray)) ++ t168) ++ (⟨#[32, 116, 61]⟩ : ByteArray)) ++ t169) ++ (⟨#[32, 100, 61]⟩ : ByteArray)) ++ t170) ++ (⟨#[32, 106, 61]⟩ : ByteArray)) ++ t171) ++ (⟨#[32, 113, 61]⟩ : ByteArray)) ++ t172) ++ (⟨#[32, 112, 61]⟩ : ByteArray)))]) (fun s_ w' => (w'.cell? ⟨gb167, 0, none⟩ = some (.string a0_0) ∧ w'.cell? ⟨gb167, 1, none⟩ = some (.int .i64 a0_1) ∧ w'.cell? ⟨gb167, 2, none⟩ = some (.int .i64 a0_2) ∧ w'.cell? ⟨gb167, 3, none⟩ = some (.int .i64 a0_3) ∧ w'.cell? ⟨gb167, 4, none⟩ = some (.int .i64 a0_4) ∧ w'.cell? ⟨gb167, 5, none⟩ = some (.int .i64 a0_5) ∧ w'.cell? ⟨gb167, 6, none⟩ = some (.int .i64 a0_6)) ∧ (Kd.R (Kd.int .u8) 5 w' w.heap.size (fun _ => True) s_ y174) ∧ (w'.heap[gb167]? = some (.cells #[.string a0_0, .int .i64 a0_1, .int .i64 a0_2, .int .i64 a0_3, .int .i64 a0_4, .int .i64 a0_5, .int .i64 a0_6] 29 (0, 0))) ∧ (Below w.heap.size w w')) ?_ ?_
      rotate_left
      · intro hJ6_11_16_21_26_33_34
        refine join_ (σ := Unit) 4 #[true, true, true, true, true, true, true, true, true, true, true, true, true, true, true, true, true, true, true, true, true, true, true, true, true, true, true, true, true, true, true, true, true, false, false, false, false] (fun s_ => [(9, .string t168), (14, .string t169), (19, .string t170), (24, .string t171), (29, .string t172), (34, .string t173), (10, .string ((((⟨#[116, 97, 115, 107, 32]⟩ : ByteArray) ++ a0_0) ++ (⟨#[32, 99, 61]⟩ : ByteArray)) ++ t168)), (11, .string (((((⟨#[116, 97, 115, 107, 32]⟩ : ByteArray) ++ a0_0) ++ (⟨#[32, 99, 61]⟩ : ByteArray)) ++ t168) ++ (⟨#[32, 116, 61]⟩ : ByteArray))), (15, .string ((((((⟨#[116, 97, 115, 107, 32]⟩ : ByteArray) ++ a0_0) ++ (⟨#[32, 99, 61]⟩ : ByteArray)) ++ t168) ++ (⟨#[32, 116, 61]⟩ : ByteArray)) ++ t169)), (16, .string (((((((⟨#[116, 97, 115, 107, 32]⟩ : ByteArray) ++ a0_0) ++ (⟨#[32, 99, 61]⟩ : ByteArray)) ++ t168) ++ (⟨#[32, 116, 61]⟩ : ByteArray)) ++ t169) ++ (⟨#[32, 100, 61]⟩ : ByteArray))), (20, .string ((((((((⟨#[116, 97, 115, 107, 32]⟩ : ByteArray) ++ a0_0) ++ (⟨#[32, 99, 61]⟩ : ByteArray)) ++ t168) ++ (⟨#[32, 116, 61]⟩ : ByteArray)) ++ t169) ++ (⟨#[32, 100, 61]⟩ : ByteArray)) ++ t170)), (21, .string (((((((((⟨#[116, 97, 115, 107, 32]⟩ : ByteArray) ++ a0_0) ++ (⟨#[32, 99, 61]⟩ : ByteArray)) ++ t168) ++ (⟨#[32, 116, 61]⟩ : ByteArray)) ++ t169) ++ (⟨#[32, 100, 61]⟩ : ByteArray)) ++ t170) ++ (⟨#[32, 106, 61]⟩ : ByteArray))), (25, .string ((((((((((⟨#[116, 97, 115, 107, 32]⟩ : ByteArray) ++ a0_0) ++ (⟨#[32, 99, 61]⟩ : ByteArray)) ++ t168) ++ (⟨#[32, 116, 61]⟩ : ByteArray)) ++ t169) ++ (⟨#[32, 100, 61]⟩ : ByteArray)) ++ t170) ++ (⟨#[32, 106, 61]⟩ : ByteArray)) ++ t171)), (26, .string (((((((((((⟨#[116, 97, 115, 107, 32]⟩ : ByteArray) ++ a0_0) ++ (⟨#[32, 99, 61]⟩ : ByteArray)) ++ t168) ++ (⟨#[32, 116, 61]⟩ : ByteArray)) ++ t169) ++ (⟨#[32, 100, 61]⟩ : ByteArray)) ++ t170) ++ (⟨#[32, 106, 61]⟩ : ByteArray)) ++ t171) ++ (⟨#[32, 113, 61]⟩ : ByteArray))), (30, .string ((((((((((((⟨#[116, 97, 115, 107, 32]⟩ : ByteArray) ++ a0_0) ++ (⟨#[32, 99, 61]⟩ : ByteArray)) ++ t168) ++ (⟨#[32, 116, 61]⟩ : ByteArray)) ++ t169) ++ (⟨#[32, 100, 61]⟩ : ByteArray)) ++ t170) ++ (⟨#[32, 106, 61]⟩ : ByteArray)) ++ t171) ++ (⟨#[32, 113, 61]⟩ : ByteArray)) ++ t172)), (31, .string (((((((((((((⟨#[116, 97, 115, 107, 32]⟩ : ByteArray) ++ a0_0) ++ (⟨#[32, 99, 61]⟩ : ByteArray)) ++ t168) ++ (⟨#[32, 116, 61]⟩ : ByteArray)) ++ t169) ++ (⟨#[32, 100, 61]⟩ : ByteArray)) ++ t170) ++ (⟨#[32, 106, 61]⟩ : ByteArray)) ++ t171) ++ (⟨#[32, 113, 61]⟩ : ByteArray)) ++ t172) ++ (⟨#[32, 112, 61]⟩ : ByteArray))), (35, .string ((((((((((((((⟨#[116, 97, 115, 107, 32]⟩ : ByteArray) ++ a0_0) ++ (⟨#[32, 99, 61]⟩ : ByteArray)) ++ t168) ++ (⟨#[32, 116, 61]⟩ : ByteArray)) ++ t169) ++ (⟨#[32, 100, 61]⟩ : ByteArray)) ++ t170) ++ (⟨#[32, 106, 61]⟩ : ByteArray)) ++ t171) ++ (⟨#[32, 113, 61]⟩ : ByteArray)) ++ t172) ++ (⟨#[32, 112, 61]⟩ : ByteArray)) ++ t173))]) (fun s_ w' => (w'.cell? ⟨gb167, 0, none⟩ = some (.string a0_0) ∧ w'.cell? ⟨gb167, 1, none⟩ = some (.int .i64 a0_1) ∧ w'.cell? ⟨gb167, 2, none⟩ = some (.int .i64 a0_2) ∧ w'.cell? ⟨gb167, 3, none⟩ = some (.int .i64 a0_3) ∧ w'.cell? ⟨gb167, 4, none⟩ = some (.int .i64 a0_4) ∧ w'.cell? ⟨gb167, 5, none⟩ = some (.int .i64 a0_5) ∧ w'.cell? ⟨gb167, 6, none⟩ = some (.int .i64 a0_6)) ∧ (w'.heap[gb167]? = some (.cells #[.string a0_0, .int .i64 a0_1, .int .i64 a0_2, .int .i64 a0_3, .int .i64 a0_4, .int .i64 a0_5, .int .i64 a0_6] 29 (0, 0))) ∧ (Below w.heap.size w w')) ?_ ?_
        rotate_left
        · intro hJ6_11_16_21_26_31
          refine join_ (σ := Value) 5 #[true, true, true, true, true, true, true, true, true, true, true, true, true, true, true, true, true, true, true, true, true, true, true, true, true, true, true, true, true, true, true, false, false, true, false, false, false] (fun s_ => [(9, .string t168), (14, .string t169), (19, .string t170), (24, .string t171), (29, .string t172), (36, s_), (10, .string ((((⟨#[116, 97, 115, 107, 32]⟩ : ByteArray) ++ a0_0) ++ (⟨#[32, 99, 61]⟩ : ByteArray)) ++ t168)), (11, .string (((((⟨#[116, 97, 115, 107, 32]⟩ : ByteArray) ++ a0_0) ++ (⟨#[32, 99, 61]⟩ : ByteArray)) ++ t168) ++ (⟨#[32, 116, 61]⟩ : ByteArray))), (15, .string ((((((⟨#[116, 97, 115, 107, 32]⟩ : ByteArray) ++ a0_0) ++ (⟨#[32, 99, 61]⟩ : ByteArray)) ++ t168) ++ (⟨#[32, 116, 61]⟩ : ByteArray)) ++ t169)), (16, .string (((((((⟨#[116, 97, 115, 107, 32]⟩ : ByteArray) ++ a0_0) ++ (⟨#[32, 99, 61]⟩ : ByteArray)) ++ t168) ++ (⟨#[32, 116, 61]⟩ : ByteArray)) ++ t169) ++ (⟨#[32, 100, 61]⟩ : ByteArray))), (20, .string ((((((((⟨#[116, 97, 115, 107, 32]⟩ : ByteArray) ++ a0_0) ++ (⟨#[32, 99, 61]⟩ : ByteArray)) ++ t168) ++ (⟨#[32, 116, 61]⟩ : ByteArray)) ++ t169) ++ (⟨#[32, 100, 61]⟩ : ByteArray)) ++ t170)), (21, .string (((((((((⟨#[116, 97, 115, 107, 32]⟩ : ByteArray) ++ a0_0) ++ (⟨#[32, 99, 61]⟩ : ByteArray)) ++ t168) ++ (⟨#[32, 116, 61]⟩ : ByteArray)) ++ t169) ++ (⟨#[32, 100, 61]⟩ : ByteArray)) ++ t170) ++ (⟨#[32, 106, 61]⟩ : ByteArray))), (25, .string ((((((((((⟨#[116, 97, 115, 107, 32]⟩ : ByteArray) ++ a0_0) ++ (⟨#[32, 99, 61]⟩ : ByteArray)) ++ t168) ++ (⟨#[32, 116, 61]⟩ : ByteArray)) ++ t169) ++ (⟨#[32, 100, 61]⟩ : ByteArray)) ++ t170) ++ (⟨#[32, 106, 61]⟩ : ByteArray)) ++ t171)), (26, .string (((((((((((⟨#[116, 97, 115, 107, 32]⟩ : ByteArray) ++ a0_0) ++ (⟨#[32, 99, 61]⟩ : ByteArray)) ++ t168) ++ (⟨#[32, 116, 61]⟩ : ByteArray)) ++ t169) ++ (⟨#[32, 100, 61]⟩ : ByteArray)) ++ t170) ++ (⟨#[32, 106, 61]⟩ : ByteArray)) ++ t171) ++ (⟨#[32, 113, 61]⟩ : ByteArray))), (30, .string ((((((((((((⟨#[116, 97, 115, 107, 32]⟩ : ByteArray) ++ a0_0) ++ (⟨#[32, 99, 61]⟩ : ByteArray)) ++ t168) ++ (⟨#[32, 116, 61]⟩ : ByteArray)) ++ t169) ++ (⟨#[32, 100, 61]⟩ : ByteArray)) ++ t170) ++ (⟨#[32, 106, 61]⟩ : ByteArray)) ++ t171) ++ (⟨#[32, 113, 61]⟩ : ByteArray)) ++ t172)), (31, .string (((((((((((((⟨#[116, 97, 115, 107, 32]⟩ : ByteArray) ++ a0_0) ++ (⟨#[32, 99, 61]⟩ : ByteArray)) ++ t168) ++ (⟨#[32, 116, 61]⟩ : ByteArray)) ++ t169) ++ (⟨#[32, 100, 61]⟩ : ByteArray)) ++ t170) ++ (⟨#[32, 106, 61]⟩ : ByteArray)) ++ t171) ++ (⟨#[32, 113, 61]⟩ : ByteArray)) ++ t172) ++ (⟨#[32, 112, 61]⟩ : ByteArray)))]) (fun s_ w' => (w'.cell? ⟨gb167, 0, none⟩ = some (.string a0_0) ∧ w'.cell? ⟨gb167, 1, none⟩ = some (.int .i64 a0_1) ∧ w'.cell? ⟨gb167, 2, none⟩ = some (.int .i64 a0_2) ∧ w'.cell? ⟨gb167, 3, none⟩ = some (.int .i64 a0_3) ∧ w'.cell? ⟨gb167, 4, none⟩ = some (.int .i64 a0_4) ∧ w'.cell? ⟨gb167, 5, none⟩ = some (.int .i64 a0_5) ∧ w'.cell? ⟨gb167, 6, none⟩ = some (.int .i64 a0_6)) ∧ (Kd.R (Kd.int .u8) 5 w' w.heap.size (fun _ => True) s_ y174) ∧ (w'.heap[gb167]? = some (.cells #[.string a0_0, .int .i64 a0_1, .int .i64 a0_2, .int .i64 a0_3, .int .i64 a0_4, .int .i64 a0_5, .int .i64 a0_6] 29 (0, 0))) ∧ (Below w.heap.size w w')) ?_ ?_
          rotate_left
          · intro hJ6_11_16_21_26_33
            refine join_ (σ := Value) 7 #[true, true, true, true, true, true, true, true, true, true, true, true, true, true, true, true, true, true, true, true, true, true, true, true, true, true, false, false, false, true, true, false, false, true, true, false, false] (fun s_ => [(9, .string t168), (14, .string t169), (19, .string t170), (24, .string t171), (36, s_), (37, .string (strOfNums y174)), (10, .string ((((⟨#[116, 97, 115, 107, 32]⟩ : ByteArray) ++ a0_0) ++ (⟨#[32, 99, 61]⟩ : ByteArray)) ++ t168)), (11, .string (((((⟨#[116, 97, 115, 107, 32]⟩ : ByteArray) ++ a0_0) ++ (⟨#[32, 99, 61]⟩ : ByteArray)) ++ t168) ++ (⟨#[32, 116, 61]⟩ : ByteArray))), (15, .string ((((((⟨#[116, 97, 115, 107, 32]⟩ : ByteArray) ++ a0_0) ++ (⟨#[32, 99, 61]⟩ : ByteArray)) ++ t168) ++ (⟨#[32, 116, 61]⟩ : ByteArray)) ++ t169)), (16, .string (((((((⟨#[116, 97, 115, 107, 32]⟩ : ByteArray) ++ a0_0) ++ (⟨#[32, 99, 61]⟩ : ByteArray)) ++ t168) ++ (⟨#[32, 116, 61]⟩ : ByteArray)) ++ t169) ++ (⟨#[32, 100, 61]⟩ : ByteArray))), (20, .string ((((((((⟨#[116, 97, 115, 107, 32]⟩ : ByteArray) ++ a0_0) ++ (⟨#[32, 99, 61]⟩ : ByteArray)) ++ t168) ++ (⟨#[32, 116, 61]⟩ : ByteArray)) ++ t169) ++ (⟨#[32, 100, 61]⟩ : ByteArray)) ++ t170)), (21, .string (((((((((⟨#[116, 97, 115, 107, 32]⟩ : ByteArray) ++ a0_0) ++ (⟨#[32, 99, 61]⟩ : ByteArray)) ++ t168) ++ (⟨#[32, 116, 61]⟩ : ByteArray)) ++ t169) ++ (⟨#[32, 100, 61]⟩ : ByteArray)) ++ t170) ++ (⟨#[32, 106, 61]⟩ : ByteArray))), (25, .string ((((((((((⟨#[116, 97, 115, 107, 32]⟩ : ByteArray) ++ a0_0) ++ (⟨#[32, 99, 61]⟩ : ByteArray)) ++ t168) ++ (⟨#[32, 116, 61]⟩ : ByteArray)) ++ t169) ++ (⟨#[32, 100, 61]⟩ : ByteArray)) ++ t170) ++ (⟨#[32, 106, 61]⟩ : ByteArray)) ++ t171)), (26, .string (((((((((((⟨#[116, 97, 115, 107, 32]⟩ : ByteArray) ++ a0_0) ++ (⟨#[32, 99, 61]⟩ : ByteArray)) ++ t168) ++ (⟨#[32, 116, 61]⟩ : ByteArray)) ++ t169) ++ (⟨#[32, 100, 61]⟩ : ByteArray)) ++ t170) ++ (⟨#[32, 106, 61]⟩ : ByteArray)) ++ t171) ++ (⟨#[32, 113, 61]⟩ : ByteArray)))]) (fun s_ w' => (w'.cell? ⟨gb167, 0, none⟩ = some (.string a0_0) ∧ w'.cell? ⟨gb167, 1, none⟩ = some (.int .i64 a0_1) ∧ w'.cell? ⟨gb167, 2, none⟩ = some (.int .i64 a0_2) ∧ w'.cell? ⟨gb167, 3, none⟩ = some (.int .i64 a0_3) ∧ w'.cell? ⟨gb167, 4, none⟩ = some (.int .i64 a0_4) ∧ w'.cell? ⟨gb167, 5, none⟩ = some (.int .i64 a0_5) ∧ w'.cell? ⟨gb167, 6, none⟩ = some (.int .i64 a0_6)) ∧ (Kd.R (Kd.int .u8) 5 w' w.heap.size (fun _ => True) s_ y174) ∧ (w'.heap[gb167]? = some (.cells #[.string a0_0, .int .i64 a0_1, .int .i64 a0_2, .int .i64 a0_3, .int .i64 a0_4, .int .i64 a0_5, .int .i64 a0_6] 29 (0, 0))) ∧ (Below w.heap.size w w')) ?_ ?_
            rotate_left
            · intro hJ6_11_16_21_33_34
              refine join_ (σ := Unit) 6 #[true, true, true, true, true, true, true, true, true, true, true, true, true, true, true, true, true, true, true, true, true, true, true, true, true, true, true, true, true, true, true, false, false, false, false, false, false] (fun s_ => [(9, .string t168), (14, .string t169), (19, .string t170), (24, .string t171), (29, .string t172), (10, .string ((((⟨#[116, 97, 115, 107, 32]⟩ : ByteArray) ++ a0_0) ++ (⟨#[32, 99, 61]⟩ : ByteArray)) ++ t168)), (11, .string (((((⟨#[116, 97, 115, 107, 32]⟩ : ByteArray) ++ a0_0) ++ (⟨#[32, 99, 61]⟩ : ByteArray)) ++ t168) ++ (⟨#[32, 116, 61]⟩ : ByteArray))), (15, .string ((((((⟨#[116, 97, 115, 107, 32]⟩ : ByteArray) ++ a0_0) ++ (⟨#[32, 99, 61]⟩ : ByteArray)) ++ t168) ++ (⟨#[32, 116, 61]⟩ : ByteArray)) ++ t169)), (16, .string (((((((⟨#[116, 97, 115, 107, 32]⟩ : ByteArray) ++ a0_0) ++ (⟨#[32, 99, 61]⟩ : ByteArray)) ++ t168) ++ (⟨#[32, 116, 61]⟩ : ByteArray)) ++ t169) ++ (⟨#[32, 100, 61]⟩ : ByteArray))), (20, .string ((((((((⟨#[116, 97, 115, 107, 32]⟩ : ByteArray) ++ a0_0) ++ (⟨#[32, 99, 61]⟩ : ByteArray)) ++ t168) ++ (⟨#[32, 116, 61]⟩ : ByteArray)) ++ t169) ++ (⟨#[32, 100, 61]⟩ : ByteArray)) ++ t170)), (21, .string (((((((((⟨#[116, 97, 115, 107, 32]⟩ : ByteArray) ++ a0_0) ++ (⟨#[32, 99, 61]⟩ : ByteArray)) ++ t168) ++ (⟨#[32, 116, 61]⟩ : ByteArray)) ++ t169) ++ (⟨#[32, 100, 61]⟩ : ByteArray)) ++ t170) ++ (⟨#[32, 106, 61]⟩ : ByteArray))), (25, .string ((((((((((⟨#[116, 97, 115, 107, 32]⟩ : ByteArray) ++ a0_0) ++ (⟨#[32, 99, 61]⟩ : ByteArray)) ++ t168) ++ (⟨#[32, 116, 61]⟩ : ByteArray)) ++ t169) ++ (⟨#[32, 100, 61]⟩ : ByteArray)) ++ t170) ++ (⟨#[32, 106, 61]⟩ : ByteArray)) ++ t171)), (26, .string (((((((((((⟨#[116, 97, 115, 107, 32]⟩ : ByteArray) ++ a0_0) ++ (⟨#[32, 99, 61]⟩ : ByteArray)) ++ t168) ++ (⟨#[32, 116, 61]⟩ : ByteArray)) ++ t169) ++ (⟨#[32, 100, 61]⟩ : ByteArray)) ++ t170) ++ (⟨#[32, 106, 61]⟩ : ByteArray)) ++ t171) ++ (⟨#[32, 113, 61]⟩ : ByteArray))), (30, .string ((((((((((((⟨#[116, 97, 115, 107, 32]⟩ : ByteArray) ++ a0_0) ++ (⟨#[32, 99, 61]⟩ : ByteArray)) ++ t168) ++ (⟨#[32, 116, 61]⟩ : ByteArray)) ++ t169) ++ (⟨#[32, 100, 61]⟩ : ByteArray)) ++ t170) ++ (⟨#[32, 106, 61]⟩ : ByteArray)) ++ t171) ++ (⟨#[32, 113, 61]⟩ : ByteArray)) ++ t172)), (31, .string (((((((((((((⟨#[116, 97, 115, 107, 32]⟩ : ByteArray) ++ a0_0) ++ (⟨#[32, 99, 61]⟩ : ByteArray)) ++ t168) ++ (⟨#[32, 116, 61]⟩ : ByteArray)) ++ t169) ++ (⟨#[32, 100, 61]⟩ : ByteArray)) ++ t170) ++ (⟨#[32, 106, 61]⟩ : ByteArray)) ++ t171) ++ (⟨#[32, 113, 61]⟩ : ByteArray)) ++ t172) ++ (⟨#[32, 112, 61]⟩ : ByteArray)))]) (fun s_ w' => (w'.cell? ⟨gb167, 0, none⟩ = some (.string a0_0) ∧ w'.cell? ⟨gb167, 1, none⟩ = some (.int .i64 a0_1) ∧ w'.cell? ⟨gb167, 2, none⟩ = some (.int .i64 a0_2) ∧ w'.cell? ⟨gb167, 3, none⟩ = some (.int .i64 a0_3) ∧ w'.cell? ⟨gb167, 4, none⟩ = some (.int .i64 a0_4) ∧ w'.cell? ⟨gb167, 5, none⟩ = some (.int .i64 a0_5) ∧ w'.cell? ⟨gb167, 6, none⟩ = some (.int .i64 a0_6)) ∧ (w'.heap[gb167]? = some (.cells #[.string a0_0, .int .i64 a0_1, .int .i64 a0_2, .int .i64 a0_3, .int .i64 a0_4, .int .i64 a0_5, .int .i64 a0_6] 29 (0, 0))) ∧ (Below w.heap.size w w')) ?_ ?_
              rotate_left
              · intro hJ6_11_16_21_26
                refine join_ (σ := Value) 8 #[true, true, true, true, true, true, true, true, true, true, true, true, true, true, true, true, true, true, true, true, true, true, true, true, true, true, false, false, false, true, true, false, false, true, false, false, false] (fun s_ => [(9, .string t168), (14, .string t169), (19, .string t170), (24, .string t171), (36, s_), (10, .string ((((⟨#[116, 97, 115, 107, 32]⟩ : ByteArray) ++ a0_0) ++ (⟨#[32, 99, 61]⟩ : ByteArray)) ++ t168)), (11, .string (((((⟨#[116, 97, 115, 107, 32]⟩ : ByteArray) ++ a0_0) ++ (⟨#[32, 99, 61]⟩ : ByteArray)) ++ t168) ++ (⟨#[32, 116, 61]⟩ : ByteArray))), (15, .string ((((((⟨#[116, 97, 115, 107, 32]⟩ : ByteArray) ++ a0_0) ++ (⟨#[32, 99, 61]⟩ : ByteArray)) ++ t168) ++ (⟨#[32, 116, 61]⟩ : ByteArray)) ++ t169)), (16, .string (((((((⟨#[116, 97, 115, 107, 32]⟩ : ByteArray) ++ a0_0) ++ (⟨#[32, 99, 61]⟩ : ByteArray)) ++ t168) ++ (⟨#[32, 116, 61]⟩ : ByteArray)) ++ t169) ++ (⟨#[32, 100, 61]⟩ : ByteArray))), (20, .string ((((((((⟨#[116, 97, 115, 107, 32]⟩ : ByteArray) ++ a0_0) ++ (⟨#[32, 99, 61]⟩ : ByteArray)) ++ t168) ++ (⟨#[32, 116, 61]⟩ : ByteArray)) ++ t169) ++ (⟨#[32, 100, 61]⟩ : ByteArray)) ++ t170)), (21, .string (((((((((⟨#[116, 97, 115, 107, 32]⟩ : ByteArray) ++ a0_0) ++ (⟨#[32, 99, 61]⟩ : ByteArray)) ++ t168) ++ (⟨#[32, 116, 61]⟩ : ByteArray)) ++ t169) ++ (⟨#[32, 100, 61]⟩ : ByteArray)) ++ t170) ++ (⟨#[32, 106, 61]⟩ : ByteArray))), (25, .string ((((((((((⟨#[116, 97, 115, 107, 32]⟩ : ByteArray) ++ a0_0) ++ (⟨#[32, 99, 61]⟩ : ByteArray)) ++ t168) ++ (⟨#[32, 116, 61]⟩ : ByteArray)) ++ t169) ++ (⟨#[32, 100, 61]⟩ : ByteArray)) ++ t170) ++ (⟨#[32, 106, 61]⟩ : ByteArray)) ++ t171)), (26, .string (((((((((((⟨#[116, 97, 115, 107, 32]⟩ : ByteArray) ++ a0_0) ++ (⟨#[32, 99, 61]⟩ : ByteArray)) ++ t168) ++ (⟨#[32, 116, 61]⟩ : ByteArray)) ++ t169) ++ (⟨#[32, 100, 61]⟩ : ByteArray)) ++ t170) ++ (⟨#[32, 106, 61]⟩ : ByteArray)) ++ t171) ++ (⟨#[32, 113, 61]⟩ : ByteArray)))]) (fun s_ w' => (w'.cell? ⟨gb167, 0, none⟩ = some (.string a0_0) ∧ w'.cell? ⟨gb167, 1, none⟩ = some (.int .i64 a0_1) ∧ w'.cell? ⟨gb167, 2, none⟩ = some (.int .i64 a0_2) ∧ w'.cell? ⟨gb167, 3, none⟩ = some (.int .i64 a0_3) ∧ w'.cell? ⟨gb167, 4, none⟩ = some (.int .i64 a0_4) ∧ w'.cell? ⟨gb167, 5, none⟩ = some (.int .i64 a0_5) ∧ w'.cell? ⟨gb167, 6, none⟩ = some (.int .i64 a0_6)) ∧ (Kd.R (Kd.int .u8) 5 w' w.heap.size (fun _ => True) s_ y174) ∧ (w'.heap[gb167]? = some (.cells #[.string a0_0, .int .i64 a0_1, .int .i64 a0_2, .int .i64 a0_3, .int .i64 a0_4, .int .i64 a0_5, .int .i64 a0_6] 29 (0, 0))) ∧ (Below w.heap.size w w')) ?_ ?_
                rotate_left
                · intro hJ6_11_16_21_33
                  refine join_ (σ := Value) 10 #[true, true, true, true, true, true, true, true, true, true, true, true, true, true, true, true, true, true, true, true, true, false, false, false, true, true, false, false, false, true, true, false, false, true, true, false, false] (fun s_ => [(9, .string t168), (14, .string t169), (19, .string t170), (36, s_), (37, .string (strOfNums y174)), (10, .string ((((⟨#[116, 97, 115, 107, 32]⟩ : ByteArray) ++ a0_0) ++ (⟨#[32, 99, 61]⟩ : ByteArray)) ++ t168)), (11, .string (((((⟨#[116, 97, 115, 107, 32]⟩ : ByteArray) ++ a0_0) ++ (⟨#[32, 99, 61]⟩ : ByteArray)) ++ t168) ++ (⟨#[32, 116, 61]⟩ : ByteArray))), (15, .string ((((((⟨#[116, 97, 115, 107, 32]⟩ : ByteArray) ++ a0_0) ++ (⟨#[32, 99, 61]⟩ : ByteArray)) ++ t168) ++ (⟨#[32, 116, 61]⟩ : ByteArray)) ++ t169)), (16, .string (((((((⟨#[116, 97, 115, 107, 32]⟩ : ByteArray) ++ a0_0) ++ (⟨#[32, 99, 61]⟩ : ByteArray)) ++ t168) ++ (⟨#[32, 116, 61]⟩ : ByteArray)) ++ t169) ++ (⟨#[32, 100, 61]⟩ : ByteArray))), (20, .string ((((((((⟨#[116, 97, 115, 107, 32]⟩ : ByteArray) ++ a0_0) ++ (⟨#[32, 99, 61]⟩ : ByteArray)) ++ t168) ++ (⟨#[32, 116, 61]⟩ : ByteArray)) ++ t169) ++ (⟨#[32, 100, 61]⟩ : ByteArray)) ++ t170)), (21, .string (((((((((⟨#[116, 97, 115, 107, 32]⟩ : ByteArray) ++ a0_0) ++ (⟨#[32, 99, 61]⟩ : ByteArray)) ++ t168) ++ (⟨#[32, 116, 61]⟩ : ByteArray)) ++ t169) ++ (⟨#[32, 100, 61]⟩ : ByteArray)) ++ t170) ++ (⟨#[32, 106, 61]⟩ : ByteArray)))]) (fun s_ w' => (w'.cell? ⟨gb167, 0, none⟩ = some (.string a0_0) ∧ w'.cell? ⟨gb167, 1, none⟩ = some (.int .i64 a0_1) ∧ w'.cell? ⟨gb167, 2, none⟩ = some (.int .i64 a0_2) ∧ w'.cell? ⟨gb167, 3, none⟩ = some (.int .i64 a0_3) ∧ w'.cell? ⟨gb167, 4, none⟩ = some (.int .i64 a0_4) ∧ w'.cell? ⟨gb167, 5, none⟩ = some (.int .i64 a0_5) ∧ w'.cell? ⟨gb167, 6, none⟩ = some (.int .i64 a0_6)) ∧ (Kd.R (Kd.int .u8) 5 w' w.heap.size (fun _ => True) s_ y174) ∧ (w'.heap[gb167]? = some (.cells #[.string a0_0, .int .i64 a0_1, .int .i64 a0_2, .int .i64 a0_3, .int .i64 a0_4, .int .i64 a0_5, .int .i64 a0_6] 29 (0, 0))) ∧ (Below w.heap.size w w')) ?_ ?_
                  rotate_left
                  · intro hJ6_11_16_33_34
                    refine join_ (σ := Unit) 9 #[true, true, true, true, true, true, true, true, true, true, true, true, true, true, true, true, true, true, true, true, true, true, true, true, true, true, false, false, false, true, true, false, false, false, false, false, false] (fun s_ => [(9, .string t168), (14, .string t169), (19, .string t170), (24, .string t171), (10, .string ((((⟨#[116, 97, 115, 107, 32]⟩ : ByteArray) ++ a0_0) ++ (⟨#[32, 99, 61]⟩ : ByteArray)) ++ t168)), (11, .string (((((⟨#[116, 97, 115, 107, 32]⟩ : ByteArray) ++ a0_0) ++ (⟨#[32, 99, 61]⟩ : ByteArray)) ++ t168) ++ (⟨#[32, 116, 61]⟩ : ByteArray))), (15, .string ((((((⟨#[116, 97, 115, 107, 32]⟩ : ByteArray) ++ a0_0) ++ (⟨#[32, 99, 61]⟩ : ByteArray)) ++ t168) ++ (⟨#[32, 116, 61]⟩ : ByteArray)) ++ t169)), (16, .string (((((((⟨#[116, 97, 115, 107, 32]⟩ : ByteArray) ++ a0_0) ++ (⟨#[32, 99, 61]⟩ : ByteArray)) ++ t168) ++ (⟨#[32, 116, 61]⟩ : ByteArray)) ++ t169) ++ (⟨#[32, 100, 61]⟩ : ByteArray))), (20, .string ((((((((⟨#[116, 97, 115, 107, 32]⟩ : ByteArray) ++ a0_0) ++ (⟨#[32, 99, 61]⟩ : ByteArray)) ++ t168) ++ (⟨#[32, 116, 61]⟩ : ByteArray)) ++ t169) ++ (⟨#[32, 100, 61]⟩ : ByteArray)) ++ t170)), (21, .string (((((((((⟨#[116, 97, 115, 107, 32]⟩ : ByteArray) ++ a0_0) ++ (⟨#[32, 99, 61]⟩ : ByteArray)) ++ t168) ++ (⟨#[32, 116, 61]⟩ : ByteArray)) ++ t169) ++ (⟨#[32, 100, 61]⟩ : ByteArray)) ++ t170) ++ (⟨#[32, 106, 61]⟩ : ByteArray))), (25, .string ((((((((((⟨#[116, 97, 115, 107, 32]⟩ : ByteArray) ++ a0_0) ++ (⟨#[32, 99, 61]⟩ : ByteArray)) ++ t168) ++ (⟨#[32, 116, 61]⟩ : ByteArray)) ++ t169) ++ (⟨#[32, 100, 61]⟩ : ByteArray)) ++ t170) ++ (⟨#[32, 106, 61]⟩ : ByteArray)) ++ t171)), (26, .string (((((((((((⟨#[116, 97, 115, 107, 32]⟩ : ByteArray) ++ a0_0) ++ (⟨#[32, 99, 61]⟩ : ByteArray)) ++ t168) ++ (⟨#[32, 116, 61]⟩ : ByteArray)) ++ t169) ++ (⟨#[32, 100, 61]⟩ : ByteArray)) ++ t170) ++ (⟨#[32, 106, 61]⟩ : ByteArray)) ++ t171) ++ (⟨#[32, 113, 61]⟩ : ByteArray)))]) (fun s_ w' => (w'.cell? ⟨gb167, 0, none⟩ = some (.string a0_0) ∧ w'.cell? ⟨gb167, 1, none⟩ = some (.int .i64 a0_1) ∧ w'.cell? ⟨gb167, 2, none⟩ = some (.int .i64 a0_2) ∧ w'.cell? ⟨gb167, 3, none⟩ = some (.int .i64 a0_3) ∧ w'.cell? ⟨gb167, 4, none⟩ = some (.int .i64 a0_4) ∧ w'.cell? ⟨gb167, 5, none⟩ = some (.int .i64 a0_5) ∧ w'.cell? ⟨gb167, 6, none⟩ = some (.int .i64 a0_6)) ∧ (w'.heap[gb167]? = some (.cells #[.string a0_0, .int .i64 a0_1, .int .i64 a0_2, .int .i64 a0_3, .int .i64 a0_4, .int .i64 a0_5, .int .i64 a0_6] 29 (0, 0))) ∧ (Below w.heap.size w w')) ?_ ?_
                    rotate_left
                    · intro hJ6_11_16_21
                      refine join_ (σ := Value) 11 #[true, true, true, true, true, true, true, true, true, true, true, true, true, true, true, true, true, true, true, true, true, false, false, false, true, true, false, false, false, true, true, false, false, true, false, false, false] (fun s_ => [(9, .string t168), (14, .string t169), (19, .string t170), (36, s_), (10, .string ((((⟨#[116, 97, 115, 107, 32]⟩ : ByteArray) ++ a0_0) ++ (⟨#[32, 99, 61]⟩ : ByteArray)) ++ t168)), (11, .string (((((⟨#[116, 97, 115, 107, 32]⟩ : ByteArray) ++ a0_0) ++ (⟨#[32, 99, 61]⟩ : ByteArray)) ++ t168) ++ (⟨#[32, 116, 61]⟩ : ByteArray))), (15, .string ((((((⟨#[116, 97, 115, 107, 32]⟩ : ByteArray) ++ a0_0) ++ (⟨#[32, 99, 61]⟩ : ByteArray)) ++ t168) ++ (⟨#[32, 116, 61]⟩ : ByteArray)) ++ t169)), (16, .string (((((((⟨#[116, 97, 115, 107, 32]⟩ : ByteArray) ++ a0_0) ++ (⟨#[32, 99, 61]⟩ : ByteArray)) ++ t168) ++ (⟨#[32, 116, 61]⟩ : ByteArray)) ++ t169) ++ (⟨#[32, 100, 61]⟩ : ByteArray))), (20, .string ((((((((⟨#[116, 97, 115, 107, 32]⟩ : ByteArray) ++ a0_0) ++ (⟨#[32, 99, 61]⟩ : ByteArray)) ++ t168) ++ (⟨#[32, 116, 61]⟩ : ByteArray)) ++ t169) ++ (⟨#[32, 100, 61]⟩ : ByteArray)) ++ t170)), (21, .string (((((((((⟨#[116, 97, 115, 107, 32]⟩ : ByteArray) ++ a0_0) ++ (⟨#[32, 99, 61]⟩ : ByteArray)) ++ t168) ++ (⟨#[32, 116, 61]⟩ : ByteArray)) ++ t169) ++ (⟨#[32, 100, 61]⟩ : ByteArray)) ++ t170) ++ (⟨#[32, 106, 61]⟩ : ByteArray)))]) (fun s_ w' => (w'.cell? ⟨gb167, 0, none⟩ = some (.string a0_0) ∧ w'.cell? ⟨gb167, 1, none⟩ = some (.int .i64 a0_1) ∧ w'.cell? ⟨gb167, 2, none⟩ = some (.int .i64 a0_2) ∧ w'.cell? ⟨gb167, 3, none⟩ = some (.int .i64 a0_3) ∧ w'.cell? ⟨gb167, 4, none⟩ = some (.int .i64 a0_4) ∧ w'.cell? ⟨gb167, 5, none⟩ = some (.int .i64 a0_5) ∧ w'.cell? ⟨gb167, 6, none⟩ = some (.int .i64 a0_6)) ∧ (Kd.R (Kd.int .u8) 5 w' w.heap.size (fun _ => True) s_ y174) ∧ (w'.heap[gb167]? = some (.cells #[.string a0_0, .int .i64 a0_1, .int .i64 a0_2, .int .i64 a0_3, .int .i64 a0_4, .int .i64 a0_5, .int .i64 a0_6] 29 (0, 0))) ∧ (Below w.heap.size w w')) ?_ ?_
                      rotate_left
                      · intro hJ6_11_16_33
                        refine join_ (σ := Value) 13 #[true, true, true, true, true, true, true, true, true, true, true, true, true, true, true, true, false, false, false, true, true, false, false, false, true, true, false, false, false, true, true, false, false, true, true, false, false] (fun s_ => [(9, .string t168), (14, .string t169), (36, s_), (37, .string (strOfNums y174)), (10, .string ((((⟨#[116, 97, 115, 107, 32]⟩ : ByteArray) ++ a0_0) ++ (⟨#[32, 99, 61]⟩ : ByteArray)) ++ t168)), (11, .string (((((⟨#[116, 97, 115, 107, 32]⟩ : ByteArray) ++ a0_0) ++ (⟨#[32, 99, 61]⟩ : ByteArray)) ++ t168) ++ (⟨#[32, 116, 61]⟩ : ByteArray))), (15, .string ((((((⟨#[116, 97, 115, 107, 32]⟩ : ByteArray) ++ a0_0) ++ (⟨#[32, 99, 61]⟩ : ByteArray)) ++ t168) ++ (⟨#[32, 116, 61]⟩ : ByteArray)) ++ t169)), (16, .string (((((((⟨#[116, 97, 115, 107, 32]⟩ : ByteArray) ++ a0_0) ++ (⟨#[32, 99, 61]⟩ : ByteArray)) ++ t168) ++ (⟨#[32, 116, 61]⟩ : ByteArray)) ++ t169) ++ (⟨#[32, 100, 61]⟩ : ByteArray)))]) (fun s_ w' => (w'.cell? ⟨gb167, 0, none⟩ = some (.string a0_0) ∧ w'.cell? ⟨gb167, 1, none⟩ = some (.int .i64 a0_1) ∧ w'.cell? ⟨gb167, 2, none⟩ = some (.int .i64 a0_2) ∧ w'.cell? ⟨gb167, 3, none⟩ = some (.int .i64 a0_3) ∧ w'.cell? ⟨gb167, 4, none⟩ = some (.int .i64 a0_4) ∧ w'.cell? ⟨gb167, 5, none⟩ = some (.int .i64 a0_5) ∧ w'.cell? ⟨gb167, 6, none⟩ = some (.int .i64 a0_6)) ∧ (Kd.R (Kd.int .u8) 5 w' w.heap.size (fun _ => True) s_ y174) ∧ (w'.heap[gb167]? = some (.cells #[.string a0_0, .int .i64 a0_1, .int .i64 a0_2, .int .i64 a0_3, .int .i64 a0_4, .int .i64 a0_5, .int .i64 a0_6] 29 (0, 0))) ∧ (Below w.heap.size w w')) ?_ ?_
                        rotate_left
                        · intro hJ6_11_33_34
                          refine join_ (σ := Unit) 12 #[true, true, true, true, true, true, true, true, true, true, true, true, true, true, true, true, true, true, true, true, true, false, false, false, true, true, false, false, false, true, true, false, false, false, false, false, false] (fun s_ => [(9, .string t168), (14, .string t169), (19, .string t170), (10, .string ((((⟨#[116, 97, 115, 107, 32]⟩ : ByteArray) ++ a0_0) ++ (⟨#[32, 99, 61]⟩ : ByteArray)) ++ t168)), (11, .string (((((⟨#[116, 97, 115, 107, 32]⟩ : ByteArray) ++ a0_0) ++ (⟨#[32, 99, 61]⟩ : ByteArray)) ++ t168) ++ (⟨#[32, 116, 61]⟩ : ByteArray))), (15, .string ((((((⟨#[116, 97, 115, 107, 32]⟩ : ByteArray) ++ a0_0) ++ (⟨#[32, 99, 61]⟩ : ByteArray)) ++ t168) ++ (⟨#[32, 116, 61]⟩ : ByteArray)) ++ t169)), (16, .string (((((((⟨#[116, 97, 115, 107, 32]⟩ : ByteArray) ++ a0_0) ++ (⟨#[32, 99, 61]⟩ : ByteArray)) ++ t168) ++ (⟨#[32, 116, 61]⟩ : ByteArray)) ++ t169) ++ (⟨#[32, 100, 61]⟩ : ByteArray))), (20, .string ((((((((⟨#[116, 97, 115, 107, 32]⟩ : ByteArray) ++ a0_0) ++ (⟨#[32, 99, 61]⟩ : ByteArray)) ++ t168) ++ (⟨#[32, 116, 61]⟩ : ByteArray)) ++ t169) ++ (⟨#[32, 100, 61]⟩ : ByteArray)) ++ t170)), (21, .string (((((((((⟨#[116, 97, 115, 107, 32]⟩ : ByteArray) ++ a0_0) ++ (⟨#[32, 99, 61]⟩ : ByteArray)) ++ t168) ++ (⟨#[32, 116, 61]⟩ : ByteArray)) ++ t169) ++ (⟨#[32, 100, 61]⟩ : ByteArray)) ++ t170) ++ (⟨#[32, 106, 61]⟩ : ByteArray)))]) (fun s_ w' => (w'.cell? ⟨gb167, 0, none⟩ = some (.string a0_0) ∧ w'.cell? ⟨gb167, 1, none⟩ = some (.int .i64 a0_1) ∧ w'.cell? ⟨gb167, 2, none⟩ = some (.int .i64 a0_2) ∧ w'.cell? ⟨gb167, 3, none⟩ = some (.int .i64 a0_3) ∧ w'.cell? ⟨gb167, 4, none⟩ = some (.int .i64 a0_4) ∧ w'.cell? ⟨gb167, 5, none⟩ = some (.int .i64 a0_5) ∧ w'.cell? ⟨gb167, 6, none⟩ = some (.int .i64 a0_6)) ∧ (w'.heap[gb167]? = some (.cells #[.string a0_0, .int .i64 a0_1, .int .i64 a0_2, .int .i64 a0_3, .int .i64 a0_4, .int .i64 a0_5, .int .i64 a0_6] 29 (0, 0))) ∧ (Below w.heap.size w w')) ?_ ?_
                          rotate_left
                          · intro hJ6_11_16
                            refine join_ (σ := Value) 14 #[true, true, true, true, true, true, true, true, true, true, true, true, true, true, true, true, false, false, false, true, true, false, false, false, true, true, false, false, false, true, true, false, false, true, false, false, false] (fun s_ => [(9, .string t168), (14, .string t169), (36, s_), (10, .string ((((⟨#[116, 97, 115, 107, 32]⟩ : ByteArray) ++ a0_0) ++ (⟨#[32, 99, 61]⟩ : ByteArray)) ++ t168)), (11, .string (((((⟨#[116, 97, 115, 107, 32]⟩ : ByteArray) ++ a0_0) ++ (⟨#[32, 99, 61]⟩ : ByteArray)) ++ t168) ++ (⟨#[32, 116, 61]⟩ : ByteArray))), (15, .string ((((((⟨#[116, 97, 115, 107, 32]⟩ : ByteArray) ++ a0_0) ++ (⟨#[32, 99, 61]⟩ : ByteArray)) ++ t168) ++ (⟨#[32, 116, 61]⟩ : ByteArray)) ++ t169)), (16, .string (((((((⟨#[116, 97, 115, 107, 32]⟩ : ByteArray) ++ a0_0) ++ (⟨#[32, 99, 61]⟩ : ByteArray)) ++ t168) ++ (⟨#[32, 116, 61]⟩ : ByteArray)) ++ t169) ++ (⟨#[32, 100, 61]⟩ : ByteArray)))]) (fun s_ w' => (w'.cell? ⟨gb167, 0, none⟩ = some (.string a0_0) ∧ w'.cell? ⟨gb167, 1, none⟩ = some (.int .i64 a0_1) ∧ w'.cell? ⟨gb167, 2, none⟩ = some (.int .i64 a0_2) ∧ w'.cell? ⟨gb167, 3, none⟩ = some (.int .i64 a0_3) ∧ w'.cell? ⟨gb167, 4, none⟩ = some (.int .i64 a0_4) ∧ w'.cell? ⟨gb167, 5, none⟩ = some (.int .i64 a0_5) ∧ w'.cell? ⟨gb167, 6, none⟩ = some (.int .i64 a0_6)) ∧ (Kd.R (Kd.int .u8) 5 w' w.heap.size (fun _ => True) s_ y174) ∧ (w'.heap[gb167]? = some (.cells #[.string a0_0, .int .i64 a0_1, .int .i64 a0_2, .int .i64 a0_3, .int .i64 a0_4, .int .i64 a0_5, .int .i64 a0_6] 29 (0, 0))) ∧ (Below w.heap.size w w')) ?_ ?_
                            rotate_left
                            · intro hJ6_11_33
                              refine join_ (σ := Value) 16 #[true, true, true, true, true, true, true, true, true, true, true, false, false, false, true, true, false, false, false, true, true, false, false, false, true, true, false, false, false, true, true, false, false, true, true, false, false] (fun s_ => [(9, .string t168), (36, s_), (37, .string (strOfNums y174)), (10, .string ((((⟨#[116, 97, 115, 107, 32]⟩ : ByteArray) ++ a0_0) ++ (⟨#[32, 99, 61]⟩ : ByteArray)) ++ t168)), (11, .string (((((⟨#[116, 97, 115, 107, 32]⟩ : ByteArray) ++ a0_0) ++ (⟨#[32, 99, 61]⟩ : ByteArray)) ++ t168) ++ (⟨#[32, 116, 61]⟩ : ByteArray)))]) (fun s_ w' => (w'.cell? ⟨gb167, 0, none⟩ = some (.string a0_0) ∧ w'.cell? ⟨gb167, 1, none⟩ = some (.int .i64 a0_1) ∧ w'.cell? ⟨gb167, 2, none⟩ = some (.int .i64 a0_2) ∧ w'.cell? ⟨gb167, 3, none⟩ = some (.int .i64 a0_3) ∧ w'.cell? ⟨gb167, 4, none⟩ = some (.int .i64 a0_4) ∧ w'.cell? ⟨gb167, 5, none⟩ = some (.int .i64 a0_5) ∧ w'.cell? ⟨gb167, 6, none⟩ = some (.int .i64 a0_6)) ∧ (Kd.R (Kd.int .u8) 5 w' w.heap.size (fun _ => True) s_ y174) ∧ (w'.heap[gb167]? = some (.cells #[.string a0_0, .int .i64 a0_1, .int .i64 a0_2, .int .i64 a0_3, .int .i64 a0_4, .int .i64 a0_5, .int .i64 a0_6] 29 (0, 0))) ∧ (Below w.heap.size w w')) ?_ ?_
                              rotate_left
                              · intro hJ6_33_34
                                refine join_ (σ := Unit) 15 #[true, true, true, true, true, true, true, true, true, true, true, true, true, true, true, true, false, false, false, true, true, false, false, false, true, true, false, false, false, true, true, false, false, false, false, false, false] (fun s_ => [(9, .string t168), (14, .string t169), (10, .string ((((⟨#[116, 97, 115, 107, 32]⟩ : ByteArray) ++ a0_0) ++ (⟨#[32, 99, 61]⟩ : ByteArray)) ++ t168)), (11, .string (((((⟨#[116, 97, 115, 107, 32]⟩ : ByteArray) ++ a0_0) ++ (⟨#[32, 99, 61]⟩ : ByteArray)) ++ t168) ++ (⟨#[32, 116, 61]⟩ : ByteArray))), (15, .string ((((((⟨#[116, 97, 115, 107, 32]⟩ : ByteArray) ++ a0_0) ++ (⟨#[32, 99, 61]⟩ : ByteArray)) ++ t168) ++ (⟨#[32, 116, 61]⟩ : ByteArray)) ++ t169)), (16, .string (((((((⟨#[116, 97, 115, 107, 32]⟩ : ByteArray) ++ a0_0) ++ (⟨#[32, 99, 61]⟩ : ByteArray)) ++ t168) ++ (⟨#[32, 116, 61]⟩ : ByteArray)) ++ t169) ++ (⟨#[32, 100, 61]⟩ : ByteArray)))]) (fun s_ w' => (w'.cell? ⟨gb167, 0, none⟩ = some (.string a0_0) ∧ w'.cell? ⟨gb167, 1, none⟩ = some (.int .i64 a0_1) ∧ w'.cell? ⟨gb167, 2, none⟩ = some (.int .i64 a0_2) ∧ w'.cell? ⟨gb167, 3, none⟩ = some (.int .i64 a0_3) ∧ w'.cell? ⟨gb167, 4, none⟩ = some (.int .i64 a0_4) ∧ w'.cell? ⟨gb167, 5, none⟩ = some (.int .i64 a0_5) ∧ w'.cell? ⟨gb167, 6, none⟩ = some (.int .i64 a0_6)) ∧ (w'.heap[gb167]? = some (.cells #[.string a0_0, .int .i64 a0_1, .int .i64 a0_2, .int .i64 a0_3, .int .i64 a0_4, .int .i64 a0_5, .int .i64 a0_6] 29 (0, 0))) ∧ (Below w.heap.size w w')) ?_ ?_
                                rotate_left
                                · intro hJ6_11
                                  refine join_ (σ := Value) 17 #[true, true, true, true, true, true, true, true, true, true, true, false, false, false, true, true, false, false, false, true, true, false, false, false, true, true, false, false, false, true, true, false, false, true, false, false, false] (fun s_ => [(9, .string t168), (36, s_), (10, .string ((((⟨#[116, 97, 115, 107, 32]⟩ : ByteArray) ++ a0_0) ++ (⟨#[32, 99, 61]⟩ : ByteArray)) ++ t168)), (11, .string (((((⟨#[116, 97, 115, 107, 32]⟩ : ByteArray) ++ a0_0) ++ (⟨#[32, 99, 61]⟩ : ByteArray)) ++ t168) ++ (⟨#[32, 116, 61]⟩ : ByteArray)))]) (fun s_ w' => (w'.cell? ⟨gb167, 0, none⟩ = some (.string a0_0) ∧ w'.cell? ⟨gb167, 1, none⟩ = some (.int .i64 a0_1) ∧ w'.cell? ⟨gb167, 2, none⟩ = some (.int .i64 a0_2) ∧ w'.cell? ⟨gb167, 3, none⟩ = some (.int .i64 a0_3) ∧ w'.cell? ⟨gb167, 4, none⟩ = some (.int .i64 a0_4) ∧ w'.cell? ⟨gb167, 5, none⟩ = some (.int .i64 a0_5) ∧ w'.cell? ⟨gb167, 6, none⟩ = some (.int .i64 a0_6)) ∧ (Kd.R (Kd.int .u8) 5 w' w.heap.size (fun _ => True) s_ y174) ∧ (w'.heap[gb167]? = some (.cells #[.string a0_0, .int .i64 a0_1, .int .i64 a0_2, .int .i64 a0_3, .int .i64 a0_4, .int .i64 a0_5, .int .i64 a0_6] 29 (0, 0))) ∧ (Below w.heap.size w w')) ?_ ?_
                                  rotate_left
                                  · intro hJ6_33
                                    refine join_ (σ := Value) 19 #[true, true, true, true, true, true, false, false, false, true, true, false, false, false, true, true, false, false, false, true, true, false, false, false, true, true, false, false, false, true, true, false, false, true, true, false, false] (fun s_ => [(36, s_), (37, .string (strOfNums y174))]) (fun s_ w' => (w'.cell? ⟨gb167, 0, none⟩ = some (.string a0_0) ∧ w'.cell? ⟨gb167, 1, none⟩ = some (.int .i64 a0_1) ∧ w'.cell? ⟨gb167, 2, none⟩ = some (.int .i64 a0_2) ∧ w'.cell? ⟨gb167, 3, none⟩ = some (.int .i64 a0_3) ∧ w'.cell? ⟨gb167, 4, none⟩ = some (.int .i64 a0_4) ∧ w'.cell? ⟨gb167, 5, none⟩ = some (.int .i64 a0_5) ∧ w'.cell? ⟨gb167, 6, none⟩ = some (.int .i64 a0_6)) ∧ (Kd.R (Kd.int .u8) 5 w' w.heap.size (fun _ => True) s_ y174) ∧ (w'.heap[gb167]? = some (.cells #[.string a0_0, .int .i64 a0_1, .int .i64 a0_2, .int .i64 a0_3, .int .i64 a0_4, .int .i64 a0_5, .int .i64 a0_6] 29 (0, 0))) ∧ (Below w.heap.size w w')) ?_ ?_
                                    rotate_left
                                    · intro hJ33_34
                                      refine join_ (σ := Unit) 18 #[true, true, true, true, true, true, true, true, true, true, true, false, false, false, true, true, false, false, false, true, true, false, false, false, true, true, false, false, false, true, true, false, false, false, false, false, false] (fun s_ => [(9, .string t168), (10, .string ((((⟨#[116, 97, 115, 107, 32]⟩ : ByteArray) ++ a0_0) ++ (⟨#[32, 99, 61]⟩ : ByteArray)) ++ t168)), (11, .string (((((⟨#[116, 97, 115, 107, 32]⟩ : ByteArray) ++ a0_0) ++ (⟨#[32, 99, 61]⟩ : ByteArray)) ++ t168) ++ (⟨#[32, 116, 61]⟩ : ByteArray)))]) (fun s_ w' => (w'.cell? ⟨gb167, 0, none⟩ = some (.string a0_0) ∧ w'.cell? ⟨gb167, 1, none⟩ = some (.int .i64 a0_1) ∧ w'.cell? ⟨gb167, 2, none⟩ = some (.int .i64 a0_2) ∧ w'.cell? ⟨gb167, 3, none⟩ = some (.int .i64 a0_3) ∧ w'.cell? ⟨gb167, 4, none⟩ = some (.int .i64 a0_4) ∧ w'.cell? ⟨gb167, 5, none⟩ = some (.int .i64 a0_5) ∧ w'.cell? ⟨gb167, 6, none⟩ = some (.int .i64 a0_6)) ∧ (w'.heap[gb167]? = some (.cells #[.string a0_0, .int .i64 a0_1, .int .i64 a0_2, .int .i64 a0_3, .int .i64 a0_4, .int .i64 a0_5, .int .i64 a0_6] 29 (0, 0))) ∧ (Below w.heap.size w w')) ?_ ?_
                                      rotate_left
                                      · intro hJ6
                                        refine join_ (σ := Value) 20 #[true, true, true, true, true, true, false, false, false, true, true, false, false, false, true, true, false, false, false, true, true, false, false, false, true, true, false, false, false, true, true, false, false, true, false, false, false] (fun s_ => [(36, s_)]) (fun s_ w' => (w'.cell? ⟨gb167, 0, none⟩ = some (.string a0_0) ∧ w'.cell? ⟨gb167, 1, none⟩ = some (.int .i64 a0_1) ∧ w'.cell? ⟨gb167, 2, none⟩ = some (.int .i64 a0_2) ∧ w'.cell? ⟨gb167, 3, none⟩ = some (.int .i64 a0_3) ∧ w'.cell? ⟨gb167, 4, none⟩ = some (.int .i64 a0_4) ∧ w'.cell? ⟨gb167, 5, none⟩ = some (.int .i64 a0_5) ∧ w'.cell? ⟨gb167, 6, none⟩ = some (.int .i64 a0_6)) ∧ (Kd.R (Kd.int .u8) 5 w' w.heap.size (fun _ => True) s_ y174) ∧ (w'.heap[gb167]? = some (.cells #[.string a0_0, .int .i64 a0_1, .int .i64 a0_2, .int .i64 a0_3, .int .i64 a0_4, .int .i64 a0_5, .int .i64 a0_6] 29 (0, 0))) ∧ (Below w.heap.size w w')) ?_ ?_
                                        rotate_left
                                        · intro hJ33
                                          refine two_ (i := 6) (j := 33) (Ni := some 9) (Nj := some 36) #[true, true, true, true, true, true, true, false, false, true, true, false, false, false, true, true, false, false, false, true, true, false, false, false, true, true, false, false, false, true, true, false, false, false, false, false, false] #[true, true, true, true, true, true, false, false, false, true, true, false, false, false, true, true, false, false, false, true, true, false, false, false, true, true, false, false, false, true, true, false, false, true, false, false, false] rfl rfl rfl rfl (two_of HT_.out (by kernel_rfl)) (by decide) (by decide) (fun K hK => ?_) (fun K hK => ?_)
                                          · skip
                                            refine goes_ Tryd.func27 (by kernel_rfl) rfl #[.int .i64 a0_1] (by rfl) rfl rfl (by (try simp only [List.map_toArray, List.map_cons, List.map_nil]); first | done | rfl | (simp only [List.length_drop, List.length_take]; rfl)) ?_
                                            with_reducible refine (cadencyref05_Digits.calls k a0_1 t168 _ A4.out).mono ?_
                                            rintro e w24 ⟨rfl, hb⟩
                                            refine ⟨_, rfl, ?_⟩
                                            have n0_ := Aside0.mk (blk_below (g := gb167) (o := .cells #[.string a0_0, .int .i64 a0_1, .int .i64 a0_2, .int .i64 a0_3, .int .i64 a0_4, .int .i64 a0_5, .int .i64 a0_6] 29 (0, 0)) (by (with_reducible repeat (first | refine blk_drewN ?_ _ | refine blk_drew ?_ | refine blk_alloc ?_ _)); exact BK167.out) hb)
                                            have n1_ := Aside0.mk (below_step (by repeat (first | (with_reducible first | exact HB.out | apply below_alloc | apply pw_below_drewN | apply below_drew1 | refine below_set ?_ GE167.out) | exact HB.out)) hb)
                                            clear BK167
                                            clear HB
                                            have BK167 := n0_
                                            have HB := n1_
                                            clear n0_ n1_
                                            (try clear hb)
                                            (try clear hb2)
                                            (try clear hk)
                                            (try clear hi)
                                            refine hK.out _ _ ⟨(blk_cell BK167.out 0).trans rfl, (blk_cell BK167.out 1).trans rfl, (blk_cell BK167.out 2).trans rfl, (blk_cell BK167.out 3).trans rfl, (blk_cell BK167.out 4).trans rfl, (blk_cell BK167.out 5).trans rfl, (blk_cell BK167.out 6).trans rfl⟩ (fun hHeld => ?_)
                                            clear hK K
                                            refine norm_ (a' := ?_) ?_ ?_
                                            rotate_left
                                            · show Act.put _ (some 9) _ = _
                                              simp only [Act.put, List.setIfInBounds_toArray, List.set_cons_zero, List.set_cons_succ, i64_w, i32_w]
                                              rfl
                                            refine pure_ (i := 7) (N := some 10) (v := ?_) (a' := ?_) #[true, true, true, true, true, true, true, true, false, true, true, false, false, false, true, true, false, false, false, true, true, false, false, false, true, true, false, false, false, true, true, false, false, false, false, false, false] rfl rfl (any_of HT_.out (by kernel_rfl)) (fun _ _ _ h => h) (Or.inl ⟨by rfl, ?_⟩) ?_ ?_
                                            rotate_left
                                            · intro w'
                                              go_simp
                                              with_reducible rfl
                                            rotate_left
                                            · simp only [Act.put, List.setIfInBounds_toArray, List.set_cons_zero, List.set_cons_succ, i64_w, i32_w]
                                              rfl
                                            refine pure_ (i := 8) (N := some 11) (v := ?_) (a' := ?_) #[true, true, true, true, true, true, true, true, true, true, true, false, false, false, true, true, false, false, false, true, true, false, false, false, true, true, false, false, false, true, true, false, false, false, false, false, false] rfl rfl (any_of HT_.out (by kernel_rfl)) (fun _ _ _ h => h) (Or.inl ⟨by rfl, ?_⟩) ?_ ?_
                                            rotate_left
                                            · intro w'
                                              go_simp
                                              with_reducible rfl
                                            rotate_left
                                            · simp only [Act.put, List.setIfInBounds_toArray, List.set_cons_zero, List.set_cons_succ, i64_w, i32_w]
                                              rfl
                                            exact norm_ (by first | (simp only [putAll, Act.put, List.setIfInBounds_toArray, List.set_cons_zero, List.set_cons_succ]; done) | (simp only [putAll, Act.put, List.setIfInBounds_toArray, List.set_cons_zero, List.set_cons_succ]; rfl)) (hJ6 () _ ⟨hHeld, (by (with_reducible repeat (first | refine blk_drewN ?_ _ | refine blk_drew ?_ | refine blk_alloc ?_ _)); exact BK167.out), (by repeat (first | (with_reducible first | exact HB.out | apply below_alloc | apply pw_below_drewN | apply below_drew1 | refine below_set ?_ GE167.out) | exact HB.out))⟩)
                                          · skip
                                            refine Kd.R_lit_step (Kd.int .u8) _ 5 ?hg (N := 36) ?hd (xs := ([10] : List Int)) (inner := [.int .u8 10]) (ok := fun _ => True) (okp := fun _ => True) ?hr ?hp (fun _ hk => hk) trivial (Below.refl _ _) (Nat.le_refl _) (by simp) ?_; (case hd => rfl); (case hg => rfl); (case hr => first | (go_simp; done) | (go_simp; rfl)); (case hp => exact (Reps.one (show Kd.M (Kd.int .u8) _ _ _ 10 [.int .u8 10] from rfl) (Reps.none _ _)))
                                            intro v175 w24 ho25 hb hg_ hnew_
                                            clear hg_ hnew_
                                            (first | rw [← Ny174.out] at ho25 | (simp only [Int.reduceToNat] at ho25; rw [← Ny174.out] at ho25))
                                            have n0_ := Aside0.mk (Kd.R_lower ho25 (below_size (by repeat (first | (with_reducible first | exact HB.out | apply below_alloc | apply pw_below_drewN | apply below_drew1 | refine below_set ?_ GE167.out) | exact HB.out))))
                                            have n1_ := Aside0.mk (blk_below (g := gb167) (o := .cells #[.string a0_0, .int .i64 a0_1, .int .i64 a0_2, .int .i64 a0_3, .int .i64 a0_4, .int .i64 a0_5, .int .i64 a0_6] 29 (0, 0)) (by (with_reducible repeat (first | refine blk_drewN ?_ _ | refine blk_drew ?_ | refine blk_alloc ?_ _)); exact BK167.out) hb)
                                            have n2_ := Aside0.mk (below_step (by repeat (first | (with_reducible first | exact HB.out | apply below_alloc | apply pw_below_drewN | apply below_drew1 | refine below_set ?_ GE167.out) | exact HB.out)) hb)
                                            clear BK167
                                            clear HB
                                            have HO176 := n0_
                                            have BK167 := n1_
                                            have HB := n2_
                                            clear n0_ n1_ n2_
                                            clear hb ho25
                                            refine hK.out _ _ ⟨(blk_cell BK167.out 0).trans rfl, (blk_cell BK167.out 1).trans rfl, (blk_cell BK167.out 2).trans rfl, (blk_cell BK167.out 3).trans rfl, (blk_cell BK167.out 4).trans rfl, (blk_cell BK167.out 5).trans rfl, (blk_cell BK167.out 6).trans rfl⟩ (fun hHeld => ?_)
                                            clear hK K
                                            refine norm_ (a' := ?_) ?_ ?_
                                            rotate_left
                                            · show Act.put _ (some 36) _ = _
                                              simp only [Act.put, List.setIfInBounds_toArray, List.set_cons_zero, List.set_cons_succ, i64_w, i32_w]
                                              rfl
                                            exact norm_ (by first | (simp only [putAll, Act.put, List.setIfInBounds_toArray, List.set_cons_zero, List.set_cons_succ]; done) | (simp only [putAll, Act.put, List.setIfInBounds_toArray, List.set_cons_zero, List.set_cons_succ]; rfl)) (hJ33 (v175) _ ⟨hHeld, (by (with_reducible repeat (first | apply Kd.R_alloc | apply Kd.R_drewN | apply Kd.R_drew)); exact HO176.out), (by (with_reducible repeat (first | refine blk_drewN ?_ _ | refine blk_drew ?_ | refine blk_alloc ?_ _)); exact BK167.out), (by repeat (first | (with_reducible first | exact HB.out | apply below_alloc | apply pw_below_drewN | apply below_drew1 | refine below_set ?_ GE167.out) | exact HB.out))⟩)
                                        · skip
                                          rintro v175 w26 ⟨hS_, h0_, h1_, h2_⟩
                                          have n0_ : Aside0 (Kd.R (Kd.int .u8) 5 w26 w.heap.size (fun _ => True) v175 y174) := ⟨h0_⟩
                                          have n1_ : Aside0 (w26.heap[gb167]? = some (.cells #[.string a0_0, .int .i64 a0_1, .int .i64 a0_2, .int .i64 a0_3, .int .i64 a0_4, .int .i64 a0_5, .int .i64 a0_6] 29 (0, 0))) := ⟨h1_⟩
                                          have n2_ : Aside0 (Below w.heap.size w w26) := ⟨h2_⟩
                                          clear BK167
                                          clear HB
                                          clear h0_ h1_ h2_
                                          have HO176 := n0_
                                          have BK167 := n1_
                                          have HB := n2_
                                          clear n0_ n1_ n2_
                                          have hHeld : w26.cell? ⟨gb167, 0, none⟩ = some (.string a0_0) ∧ w26.cell? ⟨gb167, 1, none⟩ = some (.int .i64 a0_1) ∧ w26.cell? ⟨gb167, 2, none⟩ = some (.int .i64 a0_2) ∧ w26.cell? ⟨gb167, 3, none⟩ = some (.int .i64 a0_3) ∧ w26.cell? ⟨gb167, 4, none⟩ = some (.int .i64 a0_4) ∧ w26.cell? ⟨gb167, 5, none⟩ = some (.int .i64 a0_5) ∧ w26.cell? ⟨gb167, 6, none⟩ = some (.int .i64 a0_6) := hS_
                                          refine norm_ (a' := ?_) ?_ ?_
                                          rotate_left
                                          · simp only [putAll, Act.put, List.setIfInBounds_toArray, List.set_cons_zero, List.set_cons_succ]
                                            rfl
                                          refine two_ (i := 6) (j := 34) (Ni := some 9) (Nj := some 37) #[true, true, true, true, true, true, true, false, false, true, true, false, false, false, true, true, false, false, false, true, true, false, false, false, true, true, false, false, false, true, true, false, false, true, false, false, false] #[true, true, true, true, true, true, false, false, false, true, true, false, false, false, true, true, false, false, false, true, true, false, false, false, true, true, false, false, false, true, true, false, false, true, true, false, false] rfl rfl rfl rfl (two_of HT_.out (by kernel_rfl)) (by decide) (by decide) (fun K hK => ?_) (fun K hK => ?_)
                                          · skip
                                            refine goes_ Tryd.func27 (by kernel_rfl) rfl #[.int .i64 a0_1] (by rfl) rfl rfl (by (try simp only [List.map_toArray, List.map_cons, List.map_nil]); first | done | rfl | (simp only [List.length_drop, List.length_take]; rfl)) ?_
                                            with_reducible refine (cadencyref05_Digits.calls k a0_1 t168 _ A4.out).mono ?_
                                            rintro e w27 ⟨rfl, hb⟩
                                            refine ⟨_, rfl, ?_⟩
                                            have n0_ := Aside0.mk (Kd.R_below (by (with_reducible repeat (first | apply Kd.R_alloc | apply Kd.R_drewN | apply Kd.R_drew)); exact HO176.out) hb)
                                            have n1_ := Aside0.mk (blk_below (g := gb167) (o := .cells #[.string a0_0, .int .i64 a0_1, .int .i64 a0_2, .int .i64 a0_3, .int .i64 a0_4, .int .i64 a0_5, .int .i64 a0_6] 29 (0, 0)) (by (with_reducible repeat (first | refine blk_drewN ?_ _ | refine blk_drew ?_ | refine blk_alloc ?_ _)); exact BK167.out) hb)
                                            have n2_ := Aside0.mk (below_step (by repeat (first | (with_reducible first | exact HB.out | apply below_alloc | apply pw_below_drewN | apply below_drew1 | refine below_set ?_ GE167.out) | exact HB.out)) hb)
                                            clear HO176
                                            clear BK167
                                            clear HB
                                            have HO176 := n0_
                                            have BK167 := n1_
                                            have HB := n2_
                                            clear n0_ n1_ n2_
                                            (try clear hb)
                                            (try clear hb2)
                                            (try clear hk)
                                            (try clear hi)
                                            refine hK.out _ _ ⟨(blk_cell BK167.out 0).trans rfl, (blk_cell BK167.out 1).trans rfl, (blk_cell BK167.out 2).trans rfl, (blk_cell BK167.out 3).trans rfl, (blk_cell BK167.out 4).trans rfl, (blk_cell BK167.out 5).trans rfl, (blk_cell BK167.out 6).trans rfl⟩ (fun hHeld => ?_)
                                            clear hK K
                                            refine norm_ (a' := ?_) ?_ ?_
                                            rotate_left
                                            · show Act.put _ (some 9) _ = _
                                              simp only [Act.put, List.setIfInBounds_toArray, List.set_cons_zero, List.set_cons_succ, i64_w, i32_w]
                                              rfl
                                            refine pure_ (i := 7) (N := some 10) (v := ?_) (a' := ?_) #[true, true, true, true, true, true, true, true, false, true, true, false, false, false, true, true, false, false, false, true, true, false, false, false, true, true, false, false, false, true, true, false, false, true, false, false, false] rfl rfl (any_of HT_.out (by kernel_rfl)) (fun _ _ _ h => h) (Or.inl ⟨by rfl, ?_⟩) ?_ ?_
                                            rotate_left
                                            · intro w'
                                              go_simp
                                              with_reducible rfl
                                            rotate_left
                                            · simp only [Act.put, List.setIfInBounds_toArray, List.set_cons_zero, List.set_cons_succ, i64_w, i32_w]
                                              rfl
                                            refine pure_ (i := 8) (N := some 11) (v := ?_) (a' := ?_) #[true, true, true, true, true, true, true, true, true, true, true, false, false, false, true, true, false, false, false, true, true, false, false, false, true, true, false, false, false, true, true, false, false, true, false, false, false] rfl rfl (any_of HT_.out (by kernel_rfl)) (fun _ _ _ h => h) (Or.inl ⟨by rfl, ?_⟩) ?_ ?_
                                            rotate_left
                                            · intro w'
                                              go_simp
                                              with_reducible rfl
                                            rotate_left
                                            · simp only [Act.put, List.setIfInBounds_toArray, List.set_cons_zero, List.set_cons_succ, i64_w, i32_w]
                                              rfl
                                            exact norm_ (by first | (simp only [putAll, Act.put, List.setIfInBounds_toArray, List.set_cons_zero, List.set_cons_succ]; done) | (simp only [putAll, Act.put, List.setIfInBounds_toArray, List.set_cons_zero, List.set_cons_succ]; rfl)) (hJ6_33 (v175) _ ⟨hHeld, (by (with_reducible repeat (first | apply Kd.R_alloc | apply Kd.R_drewN | apply Kd.R_drew)); exact HO176.out), (by (with_reducible repeat (first | refine blk_drewN ?_ _ | refine blk_drew ?_ | refine blk_alloc ?_ _)); exact BK167.out), (by repeat (first | (with_reducible first | exact HB.out | apply below_alloc | apply pw_below_drewN | apply below_drew1 | refine below_set ?_ GE167.out) | exact HB.out))⟩)
                                          · skip
                                            have hcv27 := own_string (P := Tryd.prog) Tryd.underlying45 Tryd.underlying5 Tryd.underlying9 (Kd.own_of_R HO176.out)
                                            refine value_ (w1 := ?_) (v := ?_) (by rfl) rfl ?_ ?_
                                            rotate_left 2
                                            · go_simp
                                              constructor
                                              · rfl
                                              · rfl
                                            clear hcv27
                                            refine hK.out _ _ ⟨(blk_cell BK167.out 0).trans rfl, (blk_cell BK167.out 1).trans rfl, (blk_cell BK167.out 2).trans rfl, (blk_cell BK167.out 3).trans rfl, (blk_cell BK167.out 4).trans rfl, (blk_cell BK167.out 5).trans rfl, (blk_cell BK167.out 6).trans rfl⟩ (fun hHeld => ?_)
                                            clear hK K
                                            refine norm_ (a' := ?_) ?_ ?_
                                            rotate_left
                                            · show Act.put _ (some 37) _ = _
                                              simp only [Act.put, List.setIfInBounds_toArray, List.set_cons_zero, List.set_cons_succ, i64_w, i32_w]
                                              rfl
                                            exact norm_ (by first | (simp only [putAll, Act.put, List.setIfInBounds_toArray, List.set_cons_zero, List.set_cons_succ]; done) | (simp only [putAll, Act.put, List.setIfInBounds_toArray, List.set_cons_zero, List.set_cons_succ]; rfl)) (hJ33_34 (v175) _ ⟨hHeld, (by (with_reducible repeat (first | apply Kd.R_alloc | apply Kd.R_drewN | apply Kd.R_drew)); exact HO176.out), (by (with_reducible repeat (first | refine blk_drewN ?_ _ | refine blk_drew ?_ | refine blk_alloc ?_ _)); exact BK167.out), (by repeat (first | (with_reducible first | exact HB.out | apply below_alloc | apply pw_below_drewN | apply below_drew1 | refine below_set ?_ GE167.out) | exact HB.out))⟩)
                                      · skip
                                        rintro _ w25 ⟨hS_, h0_, h1_⟩
                                        have n0_ : Aside0 (w25.heap[gb167]? = some (.cells #[.string a0_0, .int .i64 a0_1, .int .i64 a0_2, .int .i64 a0_3, .int .i64 a0_4, .int .i64 a0_5, .int .i64 a0_6] 29 (0, 0))) := ⟨h0_⟩
                                        have n1_ : Aside0 (Below w.heap.size w w25) := ⟨h1_⟩
                                        clear BK167
                                        clear HB
                                        clear h0_ h1_
                                        have BK167 := n0_
                                        have HB := n1_
                                        clear n0_ n1_
                                        have hHeld : w25.cell? ⟨gb167, 0, none⟩ = some (.string a0_0) ∧ w25.cell? ⟨gb167, 1, none⟩ = some (.int .i64 a0_1) ∧ w25.cell? ⟨gb167, 2, none⟩ = some (.int .i64 a0_2) ∧ w25.cell? ⟨gb167, 3, none⟩ = some (.int .i64 a0_3) ∧ w25.cell? ⟨gb167, 4, none⟩ = some (.int .i64 a0_4) ∧ w25.cell? ⟨gb167, 5, none⟩ = some (.int .i64 a0_5) ∧ w25.cell? ⟨gb167, 6, none⟩ = some (.int .i64 a0_6) := hS_
                                        refine norm_ (a' := ?_) ?_ ?_
                                        rotate_left
                                        · simp only [putAll, Act.put, List.setIfInBounds_toArray, List.set_cons_zero, List.set_cons_succ]
                                          rfl
                                        refine two_ (i := 11) (j := 33) (Ni := some 14) (Nj := some 36) #[true, true, true, true, true, true, true, true, true, true, true, true, false, false, true, true, false, false, false, true, true, false, false, false, true, true, false, false, false, true, true, false, false, false, false, false, false] #[true, true, true, true, true, true, true, true, true, true, true, false, false, false, true, true, false, false, false, true, true, false, false, false, true, true, false, false, false, true, true, false, false, true, false, false, false] rfl rfl rfl rfl (two_of HT_.out (by kernel_rfl)) (by decide) (by decide) (fun K hK => ?_) (fun K hK => ?_)
                                        · skip
                                          refine goes_ Tryd.func27 (by kernel_rfl) rfl #[.int .i64 a0_2] (by rfl) rfl rfl (by (try simp only [List.map_toArray, List.map_cons, List.map_nil]); first | done | rfl | (simp only [List.length_drop, List.length_take]; rfl)) ?_
                                          with_reducible refine (cadencyref05_Digits.calls k a0_2 t169 _ A7.out).mono ?_
                                          rintro e w26 ⟨rfl, hb⟩
                                          refine ⟨_, rfl, ?_⟩
                                          have n0_ := Aside0.mk (blk_below (g := gb167) (o := .cells #[.string a0_0, .int .i64 a0_1, .int .i64 a0_2, .int .i64 a0_3, .int .i64 a0_4, .int .i64 a0_5, .int .i64 a0_6] 29 (0, 0)) (by (with_reducible repeat (first | refine blk_drewN ?_ _ | refine blk_drew ?_ | refine blk_alloc ?_ _)); exact BK167.out) hb)
                                          have n1_ := Aside0.mk (below_step (by repeat (first | (with_reducible first | exact HB.out | apply below_alloc | apply pw_below_drewN | apply below_drew1 | refine below_set ?_ GE167.out) | exact HB.out)) hb)
                                          clear BK167
                                          clear HB
                                          have BK167 := n0_
                                          have HB := n1_
                                          clear n0_ n1_
                                          (try clear hb)
                                          (try clear hb2)
                                          (try clear hk)
                                          (try clear hi)
                                          refine hK.out _ _ ⟨(blk_cell BK167.out 0).trans rfl, (blk_cell BK167.out 1).trans rfl, (blk_cell BK167.out 2).trans rfl, (blk_cell BK167.out 3).trans rfl, (blk_cell BK167.out 4).trans rfl, (blk_cell BK167.out 5).trans rfl, (blk_cell BK167.out 6).trans rfl⟩ (fun hHeld => ?_)
                                          clear hK K
                                          refine norm_ (a' := ?_) ?_ ?_
                                          rotate_left
                                          · show Act.put _ (some 14) _ = _
                                            simp only [Act.put, List.setIfInBounds_toArray, List.set_cons_zero, List.set_cons_succ, i64_w, i32_w]
                                            rfl
                                          refine pure_ (i := 12) (N := some 15) (v := ?_) (a' := ?_) #[true, true, true, true, true, true, true, true, true, true, true, true, true, false, true, true, false, false, false, true, true, false, false, false, true, true, false, false, false, true, true, false, false, false, false, false, false] rfl rfl (any_of HT_.out (by kernel_rfl)) (fun _ _ _ h => h) (Or.inl ⟨by rfl, ?_⟩) ?_ ?_
                                          rotate_left
                                          · intro w'
                                            go_simp
                                            with_reducible rfl
                                          rotate_left
                                          · simp only [Act.put, List.setIfInBounds_toArray, List.set_cons_zero, List.set_cons_succ, i64_w, i32_w]
                                            rfl
                                          refine pure_ (i := 13) (N := some 16) (v := ?_) (a' := ?_) #[true, true, true, true, true, true, true, true, true, true, true, true, true, true, true, true, false, false, false, true, true, false, false, false, true, true, false, false, false, true, true, false, false, false, false, false, false] rfl rfl (any_of HT_.out (by kernel_rfl)) (fun _ _ _ h => h) (Or.inl ⟨by rfl, ?_⟩) ?_ ?_
                                          rotate_left
                                          · intro w'
                                            go_simp
                                            with_reducible rfl
                                          rotate_left
                                          · simp only [Act.put, List.setIfInBounds_toArray, List.set_cons_zero, List.set_cons_succ, i64_w, i32_w]
                                            rfl
                                          exact norm_ (by first | (simp only [putAll, Act.put, List.setIfInBounds_toArray, List.set_cons_zero, List.set_cons_succ]; done) | (simp only [putAll, Act.put, List.setIfInBounds_toArray, List.set_cons_zero, List.set_cons_succ]; rfl)) (hJ6_11 () _ ⟨hHeld, (by (with_reducible repeat (first | refine blk_drewN ?_ _ | refine blk_drew ?_ | refine blk_alloc ?_ _)); exact BK167.out), (by repeat (first | (with_reducible first | exact HB.out | apply below_alloc | apply pw_below_drewN | apply below_drew1 | refine below_set ?_ GE167.out) | exact HB.out))⟩)
                                        · skip
                                          refine Kd.R_lit_step (Kd.int .u8) _ 5 ?hg (N := 36) ?hd (xs := ([10] : List Int)) (inner := [.int .u8 10]) (ok := fun _ => True) (okp := fun _ => True) ?hr ?hp (fun _ hk => hk) trivial (Below.refl _ _) (Nat.le_refl _) (by simp) ?_; (case hd => rfl); (case hg => rfl); (case hr => first | (go_simp; done) | (go_simp; rfl)); (case hp => exact (Reps.one (show Kd.M (Kd.int .u8) _ _ _ 10 [.int .u8 10] from rfl) (Reps.none _ _)))
                                          intro v175 w26 ho27 hb hg_ hnew_
                                          clear hg_ hnew_
                                          (first | rw [← Ny174.out] at ho27 | (simp only [Int.reduceToNat] at ho27; rw [← Ny174.out] at ho27))
                                          have n0_ := Aside0.mk (Kd.R_lower ho27 (below_size (by repeat (first | (with_reducible first | exact HB.out | apply below_alloc | apply pw_below_drewN | apply below_drew1 | refine below_set ?_ GE167.out) | exact HB.out))))
                                          have n1_ := Aside0.mk (blk_below (g := gb167) (o := .cells #[.string a0_0, .int .i64 a0_1, .int .i64 a0_2, .int .i64 a0_3, .int .i64 a0_4, .int .i64 a0_5, .int .i64 a0_6] 29 (0, 0)) (by (with_reducible repeat (first | refine blk_drewN ?_ _ | refine blk_drew ?_ | refine blk_alloc ?_ _)); exact BK167.out) hb)
                                          have n2_ := Aside0.mk (below_step (by repeat (first | (with_reducible first | exact HB.out | apply below_alloc | apply pw_below_drewN | apply below_drew1 | refine below_set ?_ GE167.out) | exact HB.out)) hb)
                                          clear BK167
                                          clear HB
                                          have HO176 := n0_
                                          have BK167 := n1_
                                          have HB := n2_
                                          clear n0_ n1_ n2_
                                          clear hb ho27
                                          refine hK.out _ _ ⟨(blk_cell BK167.out 0).trans rfl, (blk_cell BK167.out 1).trans rfl, (blk_cell BK167.out 2).trans rfl, (blk_cell BK167.out 3).trans rfl, (blk_cell BK167.out 4).trans rfl, (blk_cell BK167.out 5).trans rfl, (blk_cell BK167.out 6).trans rfl⟩ (fun hHeld => ?_)
                                          clear hK K
                                          refine norm_ (a' := ?_) ?_ ?_
                                          rotate_left
                                          · show Act.put _ (some 36) _ = _
                                            simp only [Act.put, List.setIfInBounds_toArray, List.set_cons_zero, List.set_cons_succ, i64_w, i32_w]
                                            rfl
                                          exact norm_ (by first | (simp only [putAll, Act.put, List.setIfInBounds_toArray, List.set_cons_zero, List.set_cons_succ]; done) | (simp only [putAll, Act.put, List.setIfInBounds_toArray, List.set_cons_zero, List.set_cons_succ]; rfl)) (hJ6_33 (v175) _ ⟨hHeld, (by (with_reducible repeat (first | apply Kd.R_alloc | apply Kd.R_drewN | apply Kd.R_drew)); exact HO176.out), (by (with_reducible repeat (first | refine blk_drewN ?_ _ | refine blk_drew ?_ | refine blk_alloc ?_ _)); exact BK167.out), (by repeat (first | (with_reducible first | exact HB.out | apply below_alloc | apply pw_below_drewN | apply below_drew1 | refine below_set ?_ GE167.out) | exact HB.out))⟩)
                                    · skip
                                      rintro v175 w27 ⟨hS_, h0_, h1_, h2_⟩
                                      have n0_ : Aside0 (Kd.R (Kd.int .u8) 5 w27 w.heap.size (fun _ => True) v175 y174) := ⟨h0_⟩
                                      have n1_ : Aside0 (w27.heap[gb167]? = some (.cells #[.string a0_0, .int .i64 a0_1, .int .i64 a0_2, .int .i64 a0_3, .int .i64 a0_4, .int .i64 a0_5, .int .i64 a0_6] 29 (0, 0))) := ⟨h1_⟩
                                      have n2_ : Aside0 (Below w.heap.size w w27) := ⟨h2_⟩
                                      clear BK167
                                      clear HB
                                      clear h0_ h1_ h2_
                                      have HO176 := n0_
                                      have BK167 := n1_
                                      have HB := n2_
                                      clear n0_ n1_ n2_
                                      have hHeld : w27.cell? ⟨gb167, 0, none⟩ = some (.string a0_0) ∧ w27.cell? ⟨gb167, 1, none⟩ = some (.int .i64 a0_1) ∧ w27.cell? ⟨gb167, 2, none⟩ = some (.int .i64 a0_2) ∧ w27.cell? ⟨gb167, 3, none⟩ = some (.int .i64 a0_3) ∧ w27.cell? ⟨gb167, 4, none⟩ = some (.int .i64 a0_4) ∧ w27.cell? ⟨gb167, 5, none⟩ = some (.int .i64 a0_5) ∧ w27.cell? ⟨gb167, 6, none⟩ = some (.int .i64 a0_6) := hS_
                                      refine norm_ (a' := ?_) ?_ ?_
                                      rotate_left
                                      · simp only [putAll, Act.put, List.setIfInBounds_toArray, List.set_cons_zero, List.set_cons_succ]
                                        rfl
                                      refine one_ (i := 6) (N := some 9) #[true, true, true, true, true, true, true, false, false, true, true, false, false, false, true, true, false, false, false, true, true, false, false, false, true, true, false, false, false, true, true, false, false, true, true, false, false] rfl rfl (one_of HT_.out (by kernel_rfl)) (by decide) (fun K hK => ?_)
                                      refine goes_ Tryd.func27 (by kernel_rfl) rfl #[.int .i64 a0_1] (by rfl) rfl rfl (by (try simp only [List.map_toArray, List.map_cons, List.map_nil]); first | done | rfl | (simp only [List.length_drop, List.length_take]; rfl)) ?_
                                      with_reducible refine (cadencyref05_Digits.calls k a0_1 t168 _ A4.out).mono ?_
                                      rintro e w28 ⟨rfl, hb⟩
                                      refine ⟨_, rfl, ?_⟩
                                      have n0_ := Aside0.mk (Kd.R_below (by (with_reducible repeat (first | apply Kd.R_alloc | apply Kd.R_drewN | apply Kd.R_drew)); exact HO176.out) hb)
                                      have n1_ := Aside0.mk (blk_below (g := gb167) (o := .cells #[.string a0_0, .int .i64 a0_1, .int .i64 a0_2, .int .i64 a0_3, .int .i64 a0_4, .int .i64 a0_5, .int .i64 a0_6] 29 (0, 0)) (by (with_reducible repeat (first | refine blk_drewN ?_ _ | refine blk_drew ?_ | refine blk_alloc ?_ _)); exact BK167.out) hb)
                                      have n2_ := Aside0.mk (below_step (by repeat (first | (with_reducible first | exact HB.out | apply below_alloc | apply pw_below_drewN | apply below_drew1 | refine below_set ?_ GE167.out) | exact HB.out)) hb)
                                      clear HO176
                                      clear BK167
                                      clear HB
                                      have HO176 := n0_
                                      have BK167 := n1_
                                      have HB := n2_
                                      clear n0_ n1_ n2_
                                      (try clear hb)
                                      (try clear hb2)
                                      (try clear hk)
                                      (try clear hi)
                                      refine hK.out _ _ ⟨(blk_cell BK167.out 0).trans rfl, (blk_cell BK167.out 1).trans rfl, (blk_cell BK167.out 2).trans rfl, (blk_cell BK167.out 3).trans rfl, (blk_cell BK167.out 4).trans rfl, (blk_cell BK167.out 5).trans rfl, (blk_cell BK167.out 6).trans rfl⟩ (fun hHeld => ?_)
                                      clear hK K
                                      refine norm_ (a' := ?_) ?_ ?_
                                      rotate_left
                                      · show Act.put _ (some 9) _ = _
                                        simp only [Act.put, List.setIfInBounds_toArray, List.set_cons_zero, List.set_cons_succ, i64_w, i32_w]
                                        rfl
                                      refine pure_ (i := 7) (N := some 10) (v := ?_) (a' := ?_) #[true, true, true, true, true, true, true, true, false, true, true, false, false, false, true, true, false, false, false, true, true, false, false, false, true, true, false, false, false, true, true, false, false, true, true, false, false] rfl rfl (any_of HT_.out (by kernel_rfl)) (fun _ _ _ h => h) (Or.inl ⟨by rfl, ?_⟩) ?_ ?_
                                      rotate_left
                                      · intro w'
                                        go_simp
                                        with_reducible rfl
                                      rotate_left
                                      · simp only [Act.put, List.setIfInBounds_toArray, List.set_cons_zero, List.set_cons_succ, i64_w, i32_w]
                                        rfl
                                      refine pure_ (i := 8) (N := some 11) (v := ?_) (a' := ?_) #[true, true, true, true, true, true, true, true, true, true, true, false, false, false, true, true, false, false, false, true, true, false, false, false, true, true, false, false, false, true, true, false, false, true, true, false, false] rfl rfl (any_of HT_.out (by kernel_rfl)) (fun _ _ _ h => h) (Or.inl ⟨by rfl, ?_⟩) ?_ ?_
                                      rotate_left
                                      · intro w'
                                        go_simp
                                        with_reducible rfl
                                      rotate_left
                                      · simp only [Act.put, List.setIfInBounds_toArray, List.set_cons_zero, List.set_cons_succ, i64_w, i32_w]
                                        rfl
                                      exact norm_ (by first | (simp only [putAll, Act.put, List.setIfInBounds_toArray, List.set_cons_zero, List.set_cons_succ]; done) | (simp only [putAll, Act.put, List.setIfInBounds_toArray, List.set_cons_zero, List.set_cons_succ]; rfl)) (hJ6_33_34 (v175) _ ⟨hHeld, (by (with_reducible repeat (first | apply Kd.R_alloc | apply Kd.R_drewN | apply Kd.R_drew)); exact HO176.out), (by (with_reducible repeat (first | refine blk_drewN ?_ _ | refine blk_drew ?_ | refine blk_alloc ?_ _)); exact BK167.out), (by repeat (first | (with_reducible first | exact HB.out | apply below_alloc | apply pw_below_drewN | apply below_drew1 | refine below_set ?_ GE167.out) | exact HB.out))⟩)
                                  · skip
                                    rintro v175 w27 ⟨hS_, h0_, h1_, h2_⟩
                                    have n0_ : Aside0 (Kd.R (Kd.int .u8) 5 w27 w.heap.size (fun _ => True) v175 y174) := ⟨h0_⟩
                                    have n1_ : Aside0 (w27.heap[gb167]? = some (.cells #[.string a0_0, .int .i64 a0_1, .int .i64 a0_2, .int .i64 a0_3, .int .i64 a0_4, .int .i64 a0_5, .int .i64 a0_6] 29 (0, 0))) := ⟨h1_⟩
                                    have n2_ : Aside0 (Below w.heap.size w w27) := ⟨h2_⟩
                                    clear BK167
                                    clear HB
                                    clear h0_ h1_ h2_
                                    have HO176 := n0_
                                    have BK167 := n1_
                                    have HB := n2_
                                    clear n0_ n1_ n2_
                                    have hHeld : w27.cell? ⟨gb167, 0, none⟩ = some (.string a0_0) ∧ w27.cell? ⟨gb167, 1, none⟩ = some (.int .i64 a0_1) ∧ w27.cell? ⟨gb167, 2, none⟩ = some (.int .i64 a0_2) ∧ w27.cell? ⟨gb167, 3, none⟩ = some (.int .i64 a0_3) ∧ w27.cell? ⟨gb167, 4, none⟩ = some (.int .i64 a0_4) ∧ w27.cell? ⟨gb167, 5, none⟩ = some (.int .i64 a0_5) ∧ w27.cell? ⟨gb167, 6, none⟩ = some (.int .i64 a0_6) := hS_
                                    refine norm_ (a' := ?_) ?_ ?_
                                    rotate_left
                                    · simp only [putAll, Act.put, List.setIfInBounds_toArray, List.set_cons_zero, List.set_cons_succ]
                                      rfl
                                    refine two_ (i := 11) (j := 34) (Ni := some 14) (Nj := some 37) #[true, true, true, true, true, true, true, true, true, true, true, true, false, false, true, true, false, false, false, true, true, false, false, false, true, true, false, false, false, true, true, false, false, true, false, false, false] #[true, true, true, true, true, true, true, true, true, true, true, false, false, false, true, true, false, false, false, true, true, false, false, false, true, true, false, false, false, true, true, false, false, true, true, false, false] rfl rfl rfl rfl (two_of HT_.out (by kernel_rfl)) (by decide) (by decide) (fun K hK => ?_) (fun K hK => ?_)
                                    · skip
                                      refine goes_ Tryd.func27 (by kernel_rfl) rfl #[.int .i64 a0_2] (by rfl) rfl rfl (by (try simp only [List.map_toArray, List.map_cons, List.map_nil]); first | done | rfl | (simp only [List.length_drop, List.length_take]; rfl)) ?_
                                      with_reducible refine (cadencyref05_Digits.calls k a0_2 t169 _ A7.out).mono ?_
                                      rintro e w28 ⟨rfl, hb⟩
                                      refine ⟨_, rfl, ?_⟩
                                      have n0_ := Aside0.mk (Kd.R_below (by (with_reducible repeat (first | apply Kd.R_alloc | apply Kd.R_drewN | apply Kd.R_drew)); exact HO176.out) hb)
                                      have n1_ := Aside0.mk (blk_below (g := gb167) (o := .cells #[.string a0_0, .int .i64 a0_1, .int .i64 a0_2, .int .i64 a0_3, .int .i64 a0_4, .int .i64 a0_5, .int .i64 a0_6] 29 (0, 0)) (by (with_reducible repeat (first | refine blk_drewN ?_ _ | refine blk_drew ?_ | refine blk_alloc ?_ _)); exact BK167.out) hb)
                                      have n2_ := Aside0.mk (below_step (by repeat (first | (with_reducible first | exact HB.out | apply below_alloc | apply pw_below_drewN | apply below_drew1 | refine below_set ?_ GE167.out) | exact HB.out)) hb)
                                      clear HO176
                                      clear BK167
                                      clear HB
                                      have HO176 := n0_
                                      have BK167 := n1_
                                      have HB := n2_
                                      clear n0_ n1_ n2_
                                      (try clear hb)
                                      (try clear hb2)
                                      (try clear hk)
                                      (try clear hi)
                                      refine hK.out _ _ ⟨(blk_cell BK167.out 0).trans rfl, (blk_cell BK167.out 1).trans rfl, (blk_cell BK167.out 2).trans rfl, (blk_cell BK167.out 3).trans rfl, (blk_cell BK167.out 4).trans rfl, (blk_cell BK167.out 5).trans rfl, (blk_cell BK167.out 6).trans rfl⟩ (fun hHeld => ?_)
                                      clear hK K
                                      refine norm_ (a' := ?_) ?_ ?_
                                      rotate_left
                                      · show Act.put _ (some 14) _ = _
                                        simp only [Act.put, List.setIfInBounds_toArray, List.set_cons_zero, List.set_cons_succ, i64_w, i32_w]
                                        rfl
                                      refine pure_ (i := 12) (N := some 15) (v := ?_) (a' := ?_) #[true, true, true, true, true, true, true, true, true, true, true, true, true, false, true, true, false, false, false, true, true, false, false, false, true, true, false, false, false, true, true, false, false, true, false, false, false] rfl rfl (any_of HT_.out (by kernel_rfl)) (fun _ _ _ h => h) (Or.inl ⟨by rfl, ?_⟩) ?_ ?_
                                      rotate_left
                                      · intro w'
                                        go_simp
                                        with_reducible rfl
                                      rotate_left
                                      · simp only [Act.put, List.setIfInBounds_toArray, List.set_cons_zero, List.set_cons_succ, i64_w, i32_w]
                                        rfl
                                      refine pure_ (i := 13) (N := some 16) (v := ?_) (a' := ?_) #[true, true, true, true, true, true, true, true, true, true, true, true, true, true, true, true, false, false, false, true, true, false, false, false, true, true, false, false, false, true, true, false, false, true, false, false, false] rfl rfl (any_of HT_.out (by kernel_rfl)) (fun _ _ _ h => h) (Or.inl ⟨by rfl, ?_⟩) ?_ ?_
                                      rotate_left
                                      · intro w'
                                        go_simp
                                        with_reducible rfl
                                      rotate_left
                                      · simp only [Act.put, List.setIfInBounds_toArray, List.set_cons_zero, List.set_cons_succ, i64_w, i32_w]
                                        rfl
                                      exact norm_ (by first | (simp only [putAll, Act.put, List.setIfInBounds_toArray, List.set_cons_zero, List.set_cons_succ]; done) | (simp only [putAll, Act.put, List.setIfInBounds_toArray, List.set_cons_zero, List.set_cons_succ]; rfl)) (hJ6_11_33 (v175) _ ⟨hHeld, (by (with_reducible repeat (first | apply Kd.R_alloc | apply Kd.R_drewN | apply Kd.R_drew)); exact HO176.out), (by (with_reducible repeat (first | refine blk_drewN ?_ _ | refine blk_drew ?_ | refine blk_alloc ?_ _)); exact BK167.out), (by repeat (first | (with_reducible first | exact HB.out | apply below_alloc | apply pw_below_drewN | apply below_drew1 | refine below_set ?_ GE167.out) | exact HB.out))⟩)
                                    · skip
                                      have hcv28 := own_string (P := Tryd.prog) Tryd.underlying45 Tryd.underlying5 Tryd.underlying9 (Kd.own_of_R HO176.out)
                                      refine value_ (w1 := ?_) (v := ?_) (by rfl) rfl ?_ ?_
                                      rotate_left 2
                                      · go_simp
                                        constructor
                                        · rfl
                                        · rfl
                                      clear hcv28
                                      refine hK.out _ _ ⟨(blk_cell BK167.out 0).trans rfl, (blk_cell BK167.out 1).trans rfl, (blk_cell BK167.out 2).trans rfl, (blk_cell BK167.out 3).trans rfl, (blk_cell BK167.out 4).trans rfl, (blk_cell BK167.out 5).trans rfl, (blk_cell BK167.out 6).trans rfl⟩ (fun hHeld => ?_)
                                      clear hK K
                                      refine norm_ (a' := ?_) ?_ ?_
                                      rotate_left
                                      · show Act.put _ (some 37) _ = _
                                        simp only [Act.put, List.setIfInBounds_toArray, List.set_cons_zero, List.set_cons_succ, i64_w, i32_w]
                                        rfl
                                      exact norm_ (by first | (simp only [putAll, Act.put, List.setIfInBounds_toArray, List.set_cons_zero, List.set_cons_succ]; done) | (simp only [putAll, Act.put, List.setIfInBounds_toArray, List.set_cons_zero, List.set_cons_succ]; rfl)) (hJ6_33_34 (v175) _ ⟨hHeld, (by (with_reducible repeat (first | apply Kd.R_alloc | apply Kd.R_drewN | apply Kd.R_drew)); exact HO176.out), (by (with_reducible repeat (first | refine blk_drewN ?_ _ | refine blk_drew ?_ | refine blk_alloc ?_ _)); exact BK167.out), (by repeat (first | (with_reducible first | exact HB.out | apply below_alloc | apply pw_below_drewN | apply below_drew1 | refine below_set ?_ GE167.out) | exact HB.out))⟩)
                                · skip
                                  rintro _ w26 ⟨hS_, h0_, h1_⟩
                                  have n0_ : Aside0 (w26.heap[gb167]? = some (.cells #[.string a0_0, .int .i64 a0_1, .int .i64 a0_2, .int .i64 a0_3, .int .i64 a0_4, .int .i64 a0_5, .int .i64 a0_6] 29 (0, 0))) := ⟨h0_⟩
                                  have n1_ : Aside0 (Below w.heap.size w w26) := ⟨h1_⟩
                                  clear BK167
                                  clear HB
                                  clear h0_ h1_
                                  have BK167 := n0_
                                  have HB := n1_
                                  clear n0_ n1_
                                  have hHeld : w26.cell? ⟨gb167, 0, none⟩ = some (.string a0_0) ∧ w26.cell? ⟨gb167, 1, none⟩ = some (.int .i64 a0_1) ∧ w26.cell? ⟨gb167, 2, none⟩ = some (.int .i64 a0_2) ∧ w26.cell? ⟨gb167, 3, none⟩ = some (.int .i64 a0_3) ∧ w26.cell? ⟨gb167, 4, none⟩ = some (.int .i64 a0_4) ∧ w26.cell? ⟨gb167, 5, none⟩ = some (.int .i64 a0_5) ∧ w26.cell? ⟨gb167, 6, none⟩ = some (.int .i64 a0_6) := hS_
                                  refine norm_ (a' := ?_) ?_ ?_
                                  rotate_left
                                  · simp only [putAll, Act.put, List.setIfInBounds_toArray, List.set_cons_zero, List.set_cons_succ]
                                    rfl
                                  refine two_ (i := 16) (j := 33) (Ni := some 19) (Nj := some 36) #[true, true, true, true, true, true, true, true, true, true, true, true, true, true, true, true, true, false, false, true, true, false, false, false, true, true, false, false, false, true, true, false, false, false, false, false, false] #[true, true, true, true, true, true, true, true, true, true, true, true, true, true, true, true, false, false, false, true, true, false, false, false, true, true, false, false, false, true, true, false, false, true, false, false, false] rfl rfl rfl rfl (two_of HT_.out (by kernel_rfl)) (by decide) (by decide) (fun K hK => ?_) (fun K hK => ?_)
                                  · skip
                                    refine goes_ Tryd.func27 (by kernel_rfl) rfl #[.int .i64 a0_3] (by rfl) rfl rfl (by (try simp only [List.map_toArray, List.map_cons, List.map_nil]); first | done | rfl | (simp only [List.length_drop, List.length_take]; rfl)) ?_
                                    with_reducible refine (cadencyref05_Digits.calls k a0_3 t170 _ A10.out).mono ?_
                                    rintro e w27 ⟨rfl, hb⟩
                                    refine ⟨_, rfl, ?_⟩
                                    have n0_ := Aside0.mk (blk_below (g := gb167) (o := .cells #[.string a0_0, .int .i64 a0_1, .int .i64 a0_2, .int .i64 a0_3, .int .i64 a0_4, .int .i64 a0_5, .int .i64 a0_6] 29 (0, 0)) (by (with_reducible repeat (first | refine blk_drewN ?_ _ | refine blk_drew ?_ | refine blk_alloc ?_ _)); exact BK167.out) hb)
                                    have n1_ := Aside0.mk (below_step (by repeat (first | (with_reducible first | exact HB.out | apply below_alloc | apply pw_below_drewN | apply below_drew1 | refine below_set ?_ GE167.out) | exact HB.out)) hb)
                                    clear BK167
                                    clear HB
                                    have BK167 := n0_
                                    have HB := n1_
                                    clear n0_ n1_
                                    (try clear hb)
                                    (try clear hb2)
                                    (try clear hk)
                                    (try clear hi)
                                    refine hK.out _ _ ⟨(blk_cell BK167.out 0).trans rfl, (blk_cell BK167.out 1).trans rfl, (blk_cell BK167.out 2).trans rfl, (blk_cell BK167.out 3).trans rfl, (blk_cell BK167.out 4).trans rfl, (blk_cell BK167.out 5).trans rfl, (blk_cell BK167.out 6).trans rfl⟩ (fun hHeld => ?_)
                                    clear hK K
                                    refine norm_ (a' := ?_) ?_ ?_
                                    rotate_left
                                    · show Act.put _ (some 19) _ = _
                                      simp only [Act.put, List.setIfInBounds_toArray, List.set_cons_zero, List.set_cons_succ, i64_w, i32_w]
                                      rfl
                                    refine pure_ (i := 17) (N := some 20) (v := ?_) (a' := ?_) #[true, true, true, true, true, true, true, true, true, true, true, true, true, true, true, true, true, true, false, true, true, false, false, false, true, true, false, false, false, true, true, false, false, false, false, false, false] rfl rfl (any_of HT_.out (by kernel_rfl)) (fun _ _ _ h => h) (Or.inl ⟨by rfl, ?_⟩) ?_ ?_
                                    rotate_left
                                    · intro w'
                                      go_simp
                                      with_reducible rfl
                                    rotate_left
                                    · simp only [Act.put, List.setIfInBounds_toArray, List.set_cons_zero, List.set_cons_succ, i64_w, i32_w]
                                      rfl
                                    refine pure_ (i := 18) (N := some 21) (v := ?_) (a' := ?_) #[true, true, true, true, true, true, true, true, true, true, true, true, true, true, true, true, true, true, true, true, true, false, false, false, true, true, false, false, false, true, true, false, false, false, false, false, false] rfl rfl (any_of HT_.out (by kernel_rfl)) (fun _ _ _ h => h) (Or.inl ⟨by rfl, ?_⟩) ?_ ?_
                                    rotate_left
                                    · intro w'
                                      go_simp
                                      with_reducible rfl
                                    rotate_left
                                    · simp only [Act.put, List.setIfInBounds_toArray, List.set_cons_zero, List.set_cons_succ, i64_w, i32_w]
                                      rfl
                                    exact norm_ (by first | (simp only [putAll, Act.put, List.setIfInBounds_toArray, List.set_cons_zero, List.set_cons_succ]; done) | (simp only [putAll, Act.put, List.setIfInBounds_toArray, List.set_cons_zero, List.set_cons_succ]; rfl)) (hJ6_11_16 () _ ⟨hHeld, (by (with_reducible repeat (first | refine blk_drewN ?_ _ | refine blk_drew ?_ | refine blk_alloc ?_ _)); exact BK167.out), (by repeat (first | (with_reducible first | exact HB.out | apply below_alloc | apply pw_below_drewN | apply below_drew1 | refine below_set ?_ GE167.out) | exact HB.out))⟩)
                                  · skip
                                    refine Kd.R_lit_step (Kd.int .u8) _ 5 ?hg (N := 36) ?hd (xs := ([10] : List Int)) (inner := [.int .u8 10]) (ok := fun _ => True) (okp := fun _ => True) ?hr ?hp (fun _ hk => hk) trivial (Below.refl _ _) (Nat.le_refl _) (by simp) ?_; (case hd => rfl); (case hg => rfl); (case hr => first | (go_simp; done) | (go_simp; rfl)); (case hp => exact (Reps.one (show Kd.M (Kd.int .u8) _ _ _ 10 [.int .u8 10] from rfl) (Reps.none _ _)))
                                    intro v175 w27 ho28 hb hg_ hnew_
                                    clear hg_ hnew_
                                    (first | rw [← Ny174.out] at ho28 | (simp only [Int.reduceToNat] at ho28; rw [← Ny174.out] at ho28))
                                    have n0_ := Aside0.mk (Kd.R_lower ho28 (below_size (by repeat (first | (with_reducible first | exact HB.out | apply below_alloc | apply pw_below_drewN | apply below_drew1 | refine below_set ?_ GE167.out) | exact HB.out))))
                                    have n1_ := Aside0.mk (blk_below (g := gb167) (o := .cells #[.string a0_0, .int .i64 a0_1, .int .i64 a0_2, .int .i64 a0_3, .int .i64 a0_4, .int .i64 a0_5, .int .i64 a0_6] 29 (0, 0)) (by (with_reducible repeat (first | refine blk_drewN ?_ _ | refine blk_drew ?_ | refine blk_alloc ?_ _)); exact BK167.out) hb)
                                    have n2_ := Aside0.mk (below_step (by repeat (first | (with_reducible first | exact HB.out | apply below_alloc | apply pw_below_drewN | apply below_drew1 | refine below_set ?_ GE167.out) | exact HB.out)) hb)
                                    clear BK167
                                    clear HB
                                    have HO176 := n0_
                                    have BK167 := n1_
                                    have HB := n2_
                                    clear n0_ n1_ n2_
                                    clear hb ho28
                                    refine hK.out _ _ ⟨(blk_cell BK167.out 0).trans rfl, (blk_cell BK167.out 1).trans rfl, (blk_cell BK167.out 2).trans rfl, (blk_cell BK167.out 3).trans rfl, (blk_cell BK167.out 4).trans rfl, (blk_cell BK167.out 5).trans rfl, (blk_cell BK167.out 6).trans rfl⟩ (fun hHeld => ?_)
                                    clear hK K
                                    refine norm_ (a' := ?_) ?_ ?_
                                    rotate_left
                                    · show Act.put _ (some 36) _ = _
                                      simp only [Act.put, List.setIfInBounds_toArray, List.set_cons_zero, List.set_cons_succ, i64_w, i32_w]
                                      rfl
                                    exact norm_ (by first | (simp only [putAll, Act.put, List.setIfInBounds_toArray, List.set_cons_zero, List.set_cons_succ]; done) | (simp only [putAll, Act.put, List.setIfInBounds_toArray, List.set_cons_zero, List.set_cons_succ]; rfl)) (hJ6_11_33 (v175) _ ⟨hHeld, (by (with_reducible repeat (first | apply Kd.R_alloc | apply Kd.R_drewN | apply Kd.R_drew)); exact HO176.out), (by (with_reducible repeat (first | refine blk_drewN ?_ _ | refine blk_drew ?_ | refine blk_alloc ?_ _)); exact BK167.out), (by repeat (first | (with_reducible first | exact HB.out | apply below_alloc | apply pw_below_drewN | apply below_drew1 | refine below_set ?_ GE167.out) | exact HB.out))⟩)
                              · skip
                                rintro v175 w28 ⟨hS_, h0_, h1_, h2_⟩
                                have n0_ : Aside0 (Kd.R (Kd.int .u8) 5 w28 w.heap.size (fun _ => True) v175 y174) := ⟨h0_⟩
                                have n1_ : Aside0 (w28.heap[gb167]? = some (.cells #[.string a0_0, .int .i64 a0_1, .int .i64 a0_2, .int .i64 a0_3, .int .i64 a0_4, .int .i64 a0_5, .int .i64 a0_6] 29 (0, 0))) := ⟨h1_⟩
                                have n2_ : Aside0 (Below w.heap.size w w28) := ⟨h2_⟩
                                clear BK167
                                clear HB
                                clear h0_ h1_ h2_
                                have HO176 := n0_
                                have BK167 := n1_
                                have HB := n2_
                                clear n0_ n1_ n2_
                                have hHeld : w28.cell? ⟨gb167, 0, none⟩ = some (.string a0_0) ∧ w28.cell? ⟨gb167, 1, none⟩ = some (.int .i64 a0_1) ∧ w28.cell? ⟨gb167, 2, none⟩ = some (.int .i64 a0_2) ∧ w28.cell? ⟨gb167, 3, none⟩ = some (.int .i64 a0_3) ∧ w28.cell? ⟨gb167, 4, none⟩ = some (.int .i64 a0_4) ∧ w28.cell? ⟨gb167, 5, none⟩ = some (.int .i64 a0_5) ∧ w28.cell? ⟨gb167, 6, none⟩ = some (.int .i64 a0_6) := hS_
                                refine norm_ (a' := ?_) ?_ ?_
                                rotate_left
                                · simp only [putAll, Act.put, List.setIfInBounds_toArray, List.set_cons_zero, List.set_cons_succ]
                                  rfl
                                refine one_ (i := 11) (N := some 14) #[true, true, true, true, true, true, true, true, true, true, true, true, false, false, true, true, false, false, false, true, true, false, false, false, true, true, false, false, false, true, true, false, false, true, true, false, false] rfl rfl (one_of HT_.out (by kernel_rfl)) (by decide) (fun K hK => ?_)
                                refine goes_ Tryd.func27 (by kernel_rfl) rfl #[.int .i64 a0_2] (by rfl) rfl rfl (by (try simp only [List.map_toArray, List.map_cons, List.map_nil]); first | done | rfl | (simp only [List.length_drop, List.length_take]; rfl)) ?_
                                with_reducible refine (cadencyref05_Digits.calls k a0_2 t169 _ A7.out).mono ?_
                                rintro e w29 ⟨rfl, hb⟩
                                refine ⟨_, rfl, ?_⟩
                                have n0_ := Aside0.mk (Kd.R_below (by (with_reducible repeat (first | apply Kd.R_alloc | apply Kd.R_drewN | apply Kd.R_drew)); exact HO176.out) hb)
                                have n1_ := Aside0.mk (blk_below (g := gb167) (o := .cells #[.string a0_0, .int .i64 a0_1, .int .i64 a0_2, .int .i64 a0_3, .int .i64 a0_4, .int .i64 a0_5, .int .i64 a0_6] 29 (0, 0)) (by (with_reducible repeat (first | refine blk_drewN ?_ _ | refine blk_drew ?_ | refine blk_alloc ?_ _)); exact BK167.out) hb)
                                have n2_ := Aside0.mk (below_step (by repeat (first | (with_reducible first | exact HB.out | apply below_alloc | apply pw_below_drewN | apply below_drew1 | refine below_set ?_ GE167.out) | exact HB.out)) hb)
                                clear HO176
                                clear BK167
                                clear HB
                                have HO176 := n0_
                                have BK167 := n1_
                                have HB := n2_
                                clear n0_ n1_ n2_
                                (try clear hb)
                                (try clear hb2)
                                (try clear hk)
                                (try clear hi)
                                refine hK.out _ _ ⟨(blk_cell BK167.out 0).trans rfl, (blk_cell BK167.out 1).trans rfl, (blk_cell BK167.out 2).trans rfl, (blk_cell BK167.out 3).trans rfl, (blk_cell BK167.out 4).trans rfl, (blk_cell BK167.out 5).trans rfl, (blk_cell BK167.out 6).trans rfl⟩ (fun hHeld => ?_)
                                clear hK K
                                refine norm_ (a' := ?_) ?_ ?_
                                rotate_left
                                · show Act.put _ (some 14) _ = _
                                  simp only [Act.put, List.setIfInBounds_toArray, List.set_cons_zero, List.set_cons_succ, i64_w, i32_w]
                                  rfl
                                refine pure_ (i := 12) (N := some 15) (v := ?_) (a' := ?_) #[true, true, true, true, true, true, true, true, true, true, true, true, true, false, true, true, false, false, false, true, true, false, false, false, true, true, false, false, false, true, true, false, false, true, true, false, false] rfl rfl (any_of HT_.out (by kernel_rfl)) (fun _ _ _ h => h) (Or.inl ⟨by rfl, ?_⟩) ?_ ?_
                                rotate_left
                                · intro w'
                                  go_simp
                                  with_reducible rfl
                                rotate_left
                                · simp only [Act.put, List.setIfInBounds_toArray, List.set_cons_zero, List.set_cons_succ, i64_w, i32_w]
                                  rfl
                                refine pure_ (i := 13) (N := some 16) (v := ?_) (a' := ?_) #[true, true, true, true, true, true, true, true, true, true, true, true, true, true, true, true, false, false, false, true, true, false, false, false, true, true, false, false, false, true, true, false, false, true, true, false, false] rfl rfl (any_of HT_.out (by kernel_rfl)) (fun _ _ _ h => h) (Or.inl ⟨by rfl, ?_⟩) ?_ ?_
                                rotate_left
                                · intro w'
                                  go_simp
                                  with_reducible rfl
                                rotate_left
                                · simp only [Act.put, List.setIfInBounds_toArray, List.set_cons_zero, List.set_cons_succ, i64_w, i32_w]
                                  rfl
                                exact norm_ (by first | (simp only [putAll, Act.put, List.setIfInBounds_toArray, List.set_cons_zero, List.set_cons_succ]; done) | (simp only [putAll, Act.put, List.setIfInBounds_toArray, List.set_cons_zero, List.set_cons_succ]; rfl)) (hJ6_11_33_34 (v175) _ ⟨hHeld, (by (with_reducible repeat (first | apply Kd.R_alloc | apply Kd.R_drewN | apply Kd.R_drew)); exact HO176.out), (by (with_reducible repeat (first | refine blk_drewN ?_ _ | refine blk_drew ?_ | refine blk_alloc ?_ _)); exact BK167.out), (by repeat (first | (with_reducible first | exact HB.out | apply below_alloc | apply pw_below_drewN | apply below_drew1 | refine below_set ?_ GE167.out) | exact HB.out))⟩)
                            · skip
                              rintro v175 w28 ⟨hS_, h0_, h1_, h2_⟩
                              have n0_ : Aside0 (Kd.R (Kd.int .u8) 5 w28 w.heap.size (fun _ => True) v175 y174) := ⟨h0_⟩
                              have n1_ : Aside0 (w28.heap[gb167]? = some (.cells #[.string a0_0, .int .i64 a0_1, .int .i64 a0_2, .int .i64 a0_3, .int .i64 a0_4, .int .i64 a0_5, .int .i64 a0_6] 29 (0, 0))) := ⟨h1_⟩
                              have n2_ : Aside0 (Below w.heap.size w w28) := ⟨h2_⟩
                              clear BK167
                              clear HB
                              clear h0_ h1_ h2_
                              have HO176 := n0_
                              have BK167 := n1_
                              have HB := n2_
                              clear n0_ n1_ n2_
                              have hHeld : w28.cell? ⟨gb167, 0, none⟩ = some (.string a0_0) ∧ w28.cell? ⟨gb167, 1, none⟩ = some (.int .i64 a0_1) ∧ w28.cell? ⟨gb167, 2, none⟩ = some (.int .i64 a0_2) ∧ w28.cell? ⟨gb167, 3, none⟩ = some (.int .i64 a0_3) ∧ w28.cell? ⟨gb167, 4, none⟩ = some (.int .i64 a0_4) ∧ w28.cell? ⟨gb167, 5, none⟩ = some (.int .i64 a0_5) ∧ w28.cell? ⟨gb167, 6, none⟩ = some (.int .i64 a0_6) := hS_
                              refine norm_ (a' := ?_) ?_ ?_
                              rotate_left
                              · simp only [putAll, Act.put, List.setIfInBounds_toArray, List.set_cons_zero, List.set_cons_succ]
                                rfl
                              refine two_ (i := 16) (j := 34) (Ni := some 19) (Nj := some 37) #[true, true, true, true, true, true, true, true, true, true, true, true, true, true, true, true, true, false, false, true, true, false, false, false, true, true, false, false, false, true, true, false, false, true, false, false, false] #[true, true, true, true, true, true, true, true, true, true, true, true, true, true, true, true, false, false, false, true, true, false, false, false, true, true, false, false, false, true, true, false, false, true, true, false, false] rfl rfl rfl rfl (two_of HT_.out (by kernel_rfl)) (by decide) (by decide) (fun K hK => ?_) (fun K hK => ?_)
                              · skip
                                refine goes_ Tryd.func27 (by kernel_rfl) rfl #[.int .i64 a0_3] (by rfl) rfl rfl (by (try simp only [List.map_toArray, List.map_cons, List.map_nil]); first | done | rfl | (simp only [List.length_drop, List.length_take]; rfl)) ?_
                                with_reducible refine (cadencyref05_Digits.calls k a0_3 t170 _ A10.out).mono ?_
                                rintro e w29 ⟨rfl, hb⟩
                                refine ⟨_, rfl, ?_⟩
                                have n0_ := Aside0.mk (Kd.R_below (by (with_reducible repeat (first | apply Kd.R_alloc | apply Kd.R_drewN | apply Kd.R_drew)); exact HO176.out) hb)
                                have n1_ := Aside0.mk (blk_below (g := gb167) (o := .cells #[.string a0_0, .int .i64 a0_1, .int .i64 a0_2, .int .i64 a0_3, .int .i64 a0_4, .int .i64 a0_5, .int .i64 a0_6] 29 (0, 0)) (by (with_reducible repeat (first | refine blk_drewN ?_ _ | refine blk_drew ?_ | refine blk_alloc ?_ _)); exact BK167.out) hb)
                                have n2_ := Aside0.mk (below_step (by repeat (first | (with_reducible first | exact HB.out | apply below_alloc | apply pw_below_drewN | apply below_drew1 | refine below_set ?_ GE167.out) | exact HB.out)) hb)
                                clear HO176
                                clear BK167
                                clear HB
                                have HO176 := n0_
                                have BK167 := n1_
                                have HB := n2_
                                clear n0_ n1_ n2_
                                (try clear hb)
                                (try clear hb2)
                                (try clear hk)
                                (try clear hi)
                                refine hK.out _ _ ⟨(blk_cell BK167.out 0).trans rfl, (blk_cell BK167.out 1).trans rfl, (blk_cell BK167.out 2).trans rfl, (blk_cell BK167.out 3).trans rfl, (blk_cell BK167.out 4).trans rfl, (blk_cell BK167.out 5).trans rfl, (blk_cell BK167.out 6).trans rfl⟩ (fun hHeld => ?_)
                                clear hK K
                                refine norm_ (a' := ?_) ?_ ?_
                                rotate_left
                                · show Act.put _ (some 19) _ = _
                                  simp only [Act.put, List.setIfInBounds_toArray, List.set_cons_zero, List.set_cons_succ, i64_w, i32_w]
                                  rfl
                                refine pure_ (i := 17) (N := some 20) (v := ?_) (a' := ?_) #[true, true, true, true, true, true, true, true, true, true, true, true, true, true, true, true, true, true, false, true, true, false, false, false, true, true, false, false, false, true, true, false, false, true, false, false, false] rfl rfl (any_of HT_.out (by kernel_rfl)) (fun _ _ _ h => h) (Or.inl ⟨by rfl, ?_⟩) ?_ ?_
                                rotate_left
                                · intro w'
                                  go_simp
                                  with_reducible rfl
                                rotate_left
                                · simp only [Act.put, List.setIfInBounds_toArray, List.set_cons_zero, List.set_cons_succ, i64_w, i32_w]
                                  rfl
                                refine pure_ (i := 18) (N := some 21) (v := ?_) (a' := ?_) #[true, true, true, true, true, true, true, true, true, true, true, true, true, true, true, true, true, true, true, true, true, false, false, false, true, true, false, false, false, true, true, false, false, true, false, false, false] rfl rfl (any_of HT_.out (by kernel_rfl)) (fun _ _ _ h => h) (Or.inl ⟨by rfl, ?_⟩) ?_ ?_
                                rotate_left
                                · intro w'
                                  go_simp
                                  with_reducible rfl
                                rotate_left
                                · simp only [Act.put, List.setIfInBounds_toArray, List.set_cons_zero, List.set_cons_succ, i64_w, i32_w]
                                  rfl
                                exact norm_ (by first | (simp only [putAll, Act.put, List.setIfInBounds_toArray, List.set_cons_zero, List.set_cons_succ]; done) | (simp only [putAll, Act.put, List.setIfInBounds_toArray, List.set_cons_zero, List.set_cons_succ]; rfl)) (hJ6_11_16_33 (v175) _ ⟨hHeld, (by (with_reducible repeat (first | apply Kd.R_alloc | apply Kd.R_drewN | apply Kd.R_drew)); exact HO176.out), (by (with_reducible repeat (first | refine blk_drewN ?_ _ | refine blk_drew ?_ | refine blk_alloc ?_ _)); exact BK167.out), (by repeat (first | (with_reducible first | exact HB.out | apply below_alloc | apply pw_below_drewN | apply below_drew1 | refine below_set ?_ GE167.out) | exact HB.out))⟩)
                              · skip
                                have hcv29 := own_string (P := Tryd.prog) Tryd.underlying45 Tryd.underlying5 Tryd.underlying9 (Kd.own_of_R HO176.out)
                                refine value_ (w1 := ?_) (v := ?_) (by rfl) rfl ?_ ?_
                                rotate_left 2
                                · go_simp
                                  constructor
                                  · rfl
                                  · rfl
                                clear hcv29
                                refine hK.out _ _ ⟨(blk_cell BK167.out 0).trans rfl, (blk_cell BK167.out 1).trans rfl, (blk_cell BK167.out 2).trans rfl, (blk_cell BK167.out 3).trans rfl, (blk_cell BK167.out 4).trans rfl, (blk_cell BK167.out 5).trans rfl, (blk_cell BK167.out 6).trans rfl⟩ (fun hHeld => ?_)
                                clear hK K
                                refine norm_ (a' := ?_) ?_ ?_
                                rotate_left
                                · show Act.put _ (some 37) _ = _
                                  simp only [Act.put, List.setIfInBounds_toArray, List.set_cons_zero, List.set_cons_succ, i64_w, i32_w]
                                  rfl
                                exact norm_ (by first | (simp only [putAll, Act.put, List.setIfInBounds_toArray, List.set_cons_zero, List.set_cons_succ]; done) | (simp only [putAll, Act.put, List.setIfInBounds_toArray, List.set_cons_zero, List.set_cons_succ]; rfl)) (hJ6_11_33_34 (v175) _ ⟨hHeld, (by (with_reducible repeat (first | apply Kd.R_alloc | apply Kd.R_drewN | apply Kd.R_drew)); exact HO176.out), (by (with_reducible repeat (first | refine blk_drewN ?_ _ | refine blk_drew ?_ | refine blk_alloc ?_ _)); exact BK167.out), (by repeat (first | (with_reducible first | exact HB.out | apply below_alloc | apply pw_below_drewN | apply below_drew1 | refine below_set ?_ GE167.out) | exact HB.out))⟩)
                          · skip
                            rintro _ w27 ⟨hS_, h0_, h1_⟩
                            have n0_ : Aside0 (w27.heap[gb167]? = some (.cells #[.string a0_0, .int .i64 a0_1, .int .i64 a0_2, .int .i64 a0_3, .int .i64 a0_4, .int .i64 a0_5, .int .i64 a0_6] 29 (0, 0))) := ⟨h0_⟩
                            have n1_ : Aside0 (Below w.heap.size w w27) := ⟨h1_⟩
                            clear BK167
                            clear HB
                            clear h0_ h1_
                            have BK167 := n0_
                            have HB := n1_
                            clear n0_ n1_
                            have hHeld : w27.cell? ⟨gb167, 0, none⟩ = some (.string a0_0) ∧ w27.cell? ⟨gb167, 1, none⟩ = some (.int .i64 a0_1) ∧ w27.cell? ⟨gb167, 2, none⟩ = some (.int .i64 a0_2) ∧ w27.cell? ⟨gb167, 3, none⟩ = some (.int .i64 a0_3) ∧ w27.cell? ⟨gb167, 4, none⟩ = some (.int .i64 a0_4) ∧ w27.cell? ⟨gb167, 5, none⟩ = some (.int .i64 a0_5) ∧ w27.cell? ⟨gb167, 6, none⟩ = some (.int .i64 a0_6) := hS_
                            refine norm_ (a' := ?_) ?_ ?_
                            rotate_left
                            · simp only [putAll, Act.put, List.setIfInBounds_toArray, List.set_cons_zero, List.set_cons_succ]
                              rfl
                            refine two_ (i := 21) (j := 33) (Ni := some 24) (Nj := some 36) #[true, true, true, true, true, true, true, true, true, true, true, true, true, true, true, true, true, true, true, true, true, true, false, false, true, true, false, false, false, true, true, false, false, false, false, false, false] #[true, true, true, true, true, true, true, true, true, true, true, true, true, true, true, true, true, true, true, true, true, false, false, false, true, true, false, false, false, true, true, false, false, true, false, false, false] rfl rfl rfl rfl (two_of HT_.out (by kernel_rfl)) (by decide) (by decide) (fun K hK => ?_) (fun K hK => ?_)
                            · skip
                              refine goes_ Tryd.func27 (by kernel_rfl) rfl #[.int .i64 a0_4] (by rfl) rfl rfl (by (try simp only [List.map_toArray, List.map_cons, List.map_nil]); first | done | rfl | (simp only [List.length_drop, List.length_take]; rfl)) ?_
                              with_reducible refine (cadencyref05_Digits.calls k a0_4 t171 _ A13.out).mono ?_
                              rintro e w28 ⟨rfl, hb⟩
                              refine ⟨_, rfl, ?_⟩
                              have n0_ := Aside0.mk (blk_below (g := gb167) (o := .cells #[.string a0_0, .int .i64 a0_1, .int .i64 a0_2, .int .i64 a0_3, .int .i64 a0_4, .int .i64 a0_5, .int .i64 a0_6] 29 (0, 0)) (by (with_reducible repeat (first | refine blk_drewN ?_ _ | refine blk_drew ?_ | refine blk_alloc ?_ _)); exact BK167.out) hb)
                              have n1_ := Aside0.mk (below_step (by repeat (first | (with_reducible first | exact HB.out | apply below_alloc | apply pw_below_drewN | apply below_drew1 | refine below_set ?_ GE167.out) | exact HB.out)) hb)
                              clear BK167
                              clear HB
                              have BK167 := n0_
                              have HB := n1_
                              clear n0_ n1_
                              (try clear hb)
                              (try clear hb2)
                              (try clear hk)
                              (try clear hi)
                              refine hK.out _ _ ⟨(blk_cell BK167.out 0).trans rfl, (blk_cell BK167.out 1).trans rfl, (blk_cell BK167.out 2).trans rfl, (blk_cell BK167.out 3).trans rfl, (blk_cell BK167.out 4).trans rfl, (blk_cell BK167.out 5).trans rfl, (blk_cell BK167.out 6).trans rfl⟩ (fun hHeld => ?_)
                              clear hK K
                              refine norm_ (a' := ?_) ?_ ?_
                              rotate_left
                              · show Act.put _ (some 24) _ = _
                                simp only [Act.put, List.setIfInBounds_toArray, List.set_cons_zero, List.set_cons_succ, i64_w, i32_w]
                                rfl
                              refine pure_ (i := 22) (N := some 25) (v := ?_) (a' := ?_) #[true, true, true, true, true, true, true, true, true, true, true, true, true, true, true, true, true, true, true, true, true, true, true, false, true, true, false, false, false, true, true, false, false, false, false, false, false] rfl rfl (any_of HT_.out (by kernel_rfl)) (fun _ _ _ h => h) (Or.inl ⟨by rfl, ?_⟩) ?_ ?_
                              rotate_left
                              · intro w'
                                go_simp
                                with_reducible rfl
                              rotate_left
                              · simp only [Act.put, List.setIfInBounds_toArray, List.set_cons_zero, List.set_cons_succ, i64_w, i32_w]
                                rfl
                              refine pure_ (i := 23) (N := some 26) (v := ?_) (a' := ?_) #[true, true, true, true, true, true, true, true, true, true, true, true, true, true, true, true, true, true, true, true, true, true, true, true, true, true, false, false, false, true, true, false, false, false, false, false, false] rfl rfl (any_of HT_.out (by kernel_rfl)) (fun _ _ _ h => h) (Or.inl ⟨by rfl, ?_⟩) ?_ ?_
                              rotate_left
                              · intro w'
                                go_simp
                                with_reducible rfl
                              rotate_left
                              · simp only [Act.put, List.setIfInBounds_toArray, List.set_cons_zero, List.set_cons_succ, i64_w, i32_w]
                                rfl
                              exact norm_ (by first | (simp only [putAll, Act.put, List.setIfInBounds_toArray, List.set_cons_zero, List.set_cons_succ]; done) | (simp only [putAll, Act.put, List.setIfInBounds_toArray, List.set_cons_zero, List.set_cons_succ]; rfl)) (hJ6_11_16_21 () _ ⟨hHeld, (by (with_reducible repeat (first | refine blk_drewN ?_ _ | refine blk_drew ?_ | refine blk_alloc ?_ _)); exact BK167.out), (by repeat (first | (with_reducible first | exact HB.out | apply below_alloc | apply pw_below_drewN | apply below_drew1 | refine below_set ?_ GE167.out) | exact HB.out))⟩)
                            · skip
                              refine Kd.R_lit_step (Kd.int .u8) _ 5 ?hg (N := 36) ?hd (xs := ([10] : List Int)) (inner := [.int .u8 10]) (ok := fun _ => True) (okp := fun _ => True) ?hr ?hp (fun _ hk => hk) trivial (Below.refl _ _) (Nat.le_refl _) (by simp) ?_; (case hd => rfl); (case hg => rfl); (case hr => first | (go_simp; done) | (go_simp; rfl)); (case hp => exact (Reps.one (show Kd.M (Kd.int .u8) _ _ _ 10 [.int .u8 10] from rfl) (Reps.none _ _)))
                              intro v175 w28 ho29 hb hg_ hnew_
                              clear hg_ hnew_
                              (first | rw [← Ny174.out] at ho29 | (simp only [Int.reduceToNat] at ho29; rw [← Ny174.out] at ho29))
                              have n0_ := Aside0.mk (Kd.R_lower ho29 (below_size (by repeat (first | (with_reducible first | exact HB.out | apply below_alloc | apply pw_below_drewN | apply below_drew1 | refine below_set ?_ GE167.out) | exact HB.out))))
                              have n1_ := Aside0.mk (blk_below (g := gb167) (o := .cells #[.string a0_0, .int .i64 a0_1, .int .i64 a0_2, .int .i64 a0_3, .int .i64 a0_4, .int .i64 a0_5, .int .i64 a0_6] 29 (0, 0)) (by (with_reducible repeat (first | refine blk_drewN ?_ _ | refine blk_drew ?_ | refine blk_alloc ?_ _)); exact BK167.out) hb)
                              have n2_ := Aside0.mk (below_step (by repeat (first | (with_reducible first | exact HB.out | apply below_alloc | apply pw_below_drewN | apply below_drew1 | refine below_set ?_ GE167.out) | exact HB.out)) hb)
                              clear BK167
                              clear HB
                              have HO176 := n0_
                              have BK167 := n1_
                              have HB := n2_
                              clear n0_ n1_ n2_
                              clear hb ho29
                              refine hK.out _ _ ⟨(blk_cell BK167.out 0).trans rfl, (blk_cell BK167.out 1).trans rfl, (blk_cell BK167.out 2).trans rfl, (blk_cell BK167.out 3).trans rfl, (blk_cell BK167.out 4).trans rfl, (blk_cell BK167.out 5).trans rfl, (blk_cell BK167.out 6).trans rfl⟩ (fun hHeld => ?_)
                              clear hK K
                              refine norm_ (a' := ?_) ?_ ?_
                              rotate_left
                              · show Act.put _ (some 36) _ = _
                                simp only [Act.put, List.setIfInBounds_toArray, List.set_cons_zero, List.set_cons_succ, i64_w, i32_w]
                                rfl
                              exact norm_ (by first | (simp only [putAll, Act.put, List.setIfInBounds_toArray, List.set_cons_zero, List.set_cons_succ]; done) | (simp only [putAll, Act.put, List.setIfInBounds_toArray, List.set_cons_zero, List.set_cons_succ]; rfl)) (hJ6_11_16_33 (v175) _ ⟨hHeld, (by (with_reducible repeat (first | apply Kd.R_alloc | apply Kd.R_drewN | apply Kd.R_drew)); exact HO176.out), (by (with_reducible repeat (first | refine blk_drewN ?_ _ | refine blk_drew ?_ | refine blk_alloc ?_ _)); exact BK167.out), (by repeat (first | (with_reducible first | exact HB.out | apply below_alloc | apply pw_below_drewN | apply below_drew1 | refine below_set ?_ GE167.out) | exact HB.out))⟩)
                        · skip
                          rintro v175 w29 ⟨hS_, h0_, h1_, h2_⟩
                          have n0_ : Aside0 (Kd.R (Kd.int .u8) 5 w29 w.heap.size (fun _ => True) v175 y174) := ⟨h0_⟩
                          have n1_ : Aside0 (w29.heap[gb167]? = some (.cells #[.string a0_0, .int .i64 a0_1, .int .i64 a0_2, .int .i64 a0_3, .int .i64 a0_4, .int .i64 a0_5, .int .i64 a0_6] 29 (0, 0))) := ⟨h1_⟩
                          have n2_ : Aside0 (Below w.heap.size w w29) := ⟨h2_⟩
                          clear BK167
                          clear HB
                          clear h0_ h1_ h2_
                          have HO176 := n0_
                          have BK167 := n1_
                          have HB := n2_
                          clear n0_ n1_ n2_
                          have hHeld : w29.cell? ⟨gb167, 0, none⟩ = some (.string a0_0) ∧ w29.cell? ⟨gb167, 1, none⟩ = some (.int .i64 a0_1) ∧ w29.cell? ⟨gb167, 2, none⟩ = some (.int .i64 a0_2) ∧ w29.cell? ⟨gb167, 3, none⟩ = some (.int .i64 a0_3) ∧ w29.cell? ⟨gb167, 4, none⟩ = some (.int .i64 a0_4) ∧ w29.cell? ⟨gb167, 5, none⟩ = some (.int .i64 a0_5) ∧ w29.cell? ⟨gb167, 6, none⟩ = some (.int .i64 a0_6) := hS_
                          refine norm_ (a' := ?_) ?_ ?_
                          rotate_left
                          · simp only [putAll, Act.put, List.setIfInBounds_toArray, List.set_cons_zero, List.set_cons_succ]
                            rfl
                          refine one_ (i := 16) (N := some 19) #[true, true, true, true, true, true, true, true, true, true, true, true, true, true, true, true, true, false, false, true, true, false, false, false, true, true, false, false, false, true, true, false, false, true, true, false, false] rfl rfl (one_of HT_.out (by kernel_rfl)) (by decide) (fun K hK => ?_)
                          refine goes_ Tryd.func27 (by kernel_rfl) rfl #[.int .i64 a0_3] (by rfl) rfl rfl (by (try simp only [List.map_toArray, List.map_cons, List.map_nil]); first | done | rfl | (simp only [List.length_drop, List.length_take]; rfl)) ?_
                          with_reducible refine (cadencyref05_Digits.calls k a0_3 t170 _ A10.out).mono ?_
                          rintro e w30 ⟨rfl, hb⟩
                          refine ⟨_, rfl, ?_⟩
                          have n0_ := Aside0.mk (Kd.R_below (by (with_reducible repeat (first | apply Kd.R_alloc | apply Kd.R_drewN | apply Kd.R_drew)); exact HO176.out) hb)
                          have n1_ := Aside0.mk (blk_below (g := gb167) (o := .cells #[.string a0_0, .int .i64 a0_1, .int .i64 a0_2, .int .i64 a0_3, .int .i64 a0_4, .int .i64 a0_5, .int .i64 a0_6] 29 (0, 0)) (by (with_reducible repeat (first | refine blk_drewN ?_ _ | refine blk_drew ?_ | refine blk_alloc ?_ _)); exact BK167.out) hb)
                          have n2_ := Aside0.mk (below_step (by repeat (first | (with_reducible first | exact HB.out | apply below_alloc | apply pw_below_drewN | apply below_drew1 | refine below_set ?_ GE167.out) | exact HB.out)) hb)
                          clear HO176
                          clear BK167
                          clear HB
                          have HO176 := n0_
                          have BK167 := n1_
                          have HB := n2_
                          clear n0_ n1_ n2_
                          (try clear hb)
                          (try clear hb2)
                          (try clear hk)
                          (try clear hi)
                          refine hK.out _ _ ⟨(blk_cell BK167.out 0).trans rfl, (blk_cell BK167.out 1).trans rfl, (blk_cell BK167.out 2).trans rfl, (blk_cell BK167.out 3).trans rfl, (blk_cell BK167.out 4).trans rfl, (blk_cell BK167.out 5).trans rfl, (blk_cell BK167.out 6).trans rfl⟩ (fun hHeld => ?_)
                          clear hK K
                          refine norm_ (a' := ?_) ?_ ?_
                          rotate_left
                          · show Act.put _ (some 19) _ = _
                            simp only [Act.put, List.setIfInBounds_toArray, List.set_cons_zero, List.set_cons_succ, i64_w, i32_w]
                            rfl
                          refine pure_ (i := 17) (N := some 20) (v := ?_) (a' := ?_) #[true, true, true, true, true, true, true, true, true, true, true, true, true, true, true, true, true, true, false, true, true, false, false, false, true, true, false, false, false, true, true, false, false, true, true, false, false] rfl rfl (any_of HT_.out (by kernel_rfl)) (fun _ _ _ h => h) (Or.inl ⟨by rfl, ?_⟩) ?_ ?_
                          rotate_left
                          · intro w'
                            go_simp
                            with_reducible rfl
                          rotate_left
                          · simp only [Act.put, List.setIfInBounds_toArray, List.set_cons_zero, List.set_cons_succ, i64_w, i32_w]
                            rfl
                          refine pure_ (i := 18) (N := some 21) (v := ?_) (a' := ?_) #[true, true, true, true, true, true, true, true, true, true, true, true, true, true, true, true, true, true, true, true, true, false, false, false, true, true, false, false, false, true, true, false, false, true, true, false, false] rfl rfl (any_of HT_.out (by kernel_rfl)) (fun _ _ _ h => h) (Or.inl ⟨by rfl, ?_⟩) ?_ ?_
                          rotate_left
                          · intro w'
                            go_simp
                            with_reducible rfl
                          rotate_left
                          · simp only [Act.put, List.setIfInBounds_toArray, List.set_cons_zero, List.set_cons_succ, i64_w, i32_w]
                            rfl
                          exact norm_ (by first | (simp only [putAll, Act.put, List.setIfInBounds_toArray, List.set_cons_zero, List.set_cons_succ]; done) | (simp only [putAll, Act.put, List.setIfInBounds_toArray, List.set_cons_zero, List.set_cons_succ]; rfl)) (hJ6_11_16_33_34 (v175) _ ⟨hHeld, (by (with_reducible repeat (first | apply Kd.R_alloc | apply Kd.R_drewN | apply Kd.R_drew)); exact HO176.out), (by (with_reducible repeat (first | refine blk_drewN ?_ _ | refine blk_drew ?_ | refine blk_alloc ?_ _)); exact BK167.out), (by repeat (first | (with_reducible first | exact HB.out | apply below_alloc | apply pw_below_drewN | apply below_drew1 | refine below_set ?_ GE167.out) | exact HB.out))⟩)
                      · skip
                        rintro v175 w29 ⟨hS_, h0_, h1_, h2_⟩
                        have n0_ : Aside0 (Kd.R (Kd.int .u8) 5 w29 w.heap.size (fun _ => True) v175 y174) := ⟨h0_⟩
                        have n1_ : Aside0 (w29.heap[gb167]? = some (.cells #[.string a0_0, .int .i64 a0_1, .int .i64 a0_2, .int .i64 a0_3, .int .i64 a0_4, .int .i64 a0_5, .int .i64 a0_6] 29 (0, 0))) := ⟨h1_⟩
                        have n2_ : Aside0 (Below w.heap.size w w29) := ⟨h2_⟩
                        clear BK167
                        clear HB
                        clear h0_ h1_ h2_
                        have HO176 := n0_
                        have BK167 := n1_
                        have HB := n2_
                        clear n0_ n1_ n2_
                        have hHeld : w29.cell? ⟨gb167, 0, none⟩ = some (.string a0_0) ∧ w29.cell? ⟨gb167, 1, none⟩ = some (.int .i64 a0_1) ∧ w29.cell? ⟨gb167, 2, none⟩ = some (.int .i64 a0_2) ∧ w29.cell? ⟨gb167, 3, none⟩ = some (.int .i64 a0_3) ∧ w29.cell? ⟨gb167, 4, none⟩ = some (.int .i64 a0_4) ∧ w29.cell? ⟨gb167, 5, none⟩ = some (.int .i64 a0_5) ∧ w29.cell? ⟨gb167, 6, none⟩ = some (.int .i64 a0_6) := hS_
                        refine norm_ (a' := ?_) ?_ ?_
                        rotate_left
                        · simp only [putAll, Act.put, List.setIfInBounds_toArray, List.set_cons_zero, List.set_cons_succ]
                          rfl
                        refine two_ (i := 21) (j := 34) (Ni := some 24) (Nj := some 37) #[true, true, true, true, true, true, true, true, true, true, true, true, true, true, true, true, true, true, true, true, true, true, false, false, true, true, false, false, false, true, true, false, false, true, false, false, false] #[true, true, true, true, true, true, true, true, true, true, true, true, true, true, true, true, true, true, true, true, true, false, false, false, true, true, false, false, false, true, true, false, false, true, true, false, false] rfl rfl rfl rfl (two_of HT_.out (by kernel_rfl)) (by decide) (by decide) (fun K hK => ?_) (fun K hK => ?_)
                        · skip
                          refine goes_ Tryd.func27 (by kernel_rfl) rfl #[.int .i64 a0_4] (by rfl) rfl rfl (by (try simp only [List.map_toArray, List.map_cons, List.map_nil]); first | done | rfl | (simp only [List.length_drop, List.length_take]; rfl)) ?_
                          with_reducible refine (cadencyref05_Digits.calls k a0_4 t171 _ A13.out).mono ?_
                          rintro e w30 ⟨rfl, hb⟩
                          refine ⟨_, rfl, ?_⟩
                          have n0_ := Aside0.mk (Kd.R_below (by (with_reducible repeat (first | apply Kd.R_alloc | apply Kd.R_drewN | apply Kd.R_drew)); exact HO176.out) hb)
                          have n1_ := Aside0.mk (blk_below (g := gb167) (o := .cells #[.string a0_0, .int .i64 a0_1, .int .i64 a0_2, .int .i64 a0_3, .int .i64 a0_4, .int .i64 a0_5, .int .i64 a0_6] 29 (0, 0)) (by (with_reducible repeat (first | refine blk_drewN ?_ _ | refine blk_drew ?_ | refine blk_alloc ?_ _)); exact BK167.out) hb)
                          have n2_ := Aside0.mk (below_step (by repeat (first | (with_reducible first | exact HB.out | apply below_alloc | apply pw_below_drewN | apply below_drew1 | refine below_set ?_ GE167.out) | exact HB.out)) hb)
                          clear HO176
                          clear BK167
                          clear HB
                          have HO176 := n0_
                          have BK167 := n1_
                          have HB := n2_
                          clear n0_ n1_ n2_
                          (try clear hb)
                          (try clear hb2)
                          (try clear hk)
                          (try clear hi)
                          refine hK.out _ _ ⟨(blk_cell BK167.out 0).trans rfl, (blk_cell BK167.out 1).trans rfl, (blk_cell BK167.out 2).trans rfl, (blk_cell BK167.out 3).trans rfl, (blk_cell BK167.out 4).trans rfl, (blk_cell BK167.out 5).trans rfl, (blk_cell BK167.out 6).trans rfl⟩ (fun hHeld => ?_)
                          clear hK K
                          refine norm_ (a' := ?_) ?_ ?_
                          rotate_left
                          · show Act.put _ (some 24) _ = _
                            simp only [Act.put, List.setIfInBounds_toArray, List.set_cons_zero, List.set_cons_succ, i64_w, i32_w]
                            rfl
                          refine pure_ (i := 22) (N := some 25) (v := ?_) (a' := ?_) #[true, true, true, true, true, true, true, true, true, true, true, true, true, true, true, true, true, true, true, true, true, true, true, false, true, true, false, false, false, true, true, false, false, true, false, false, false] rfl rfl (any_of HT_.out (by kernel_rfl)) (fun _ _ _ h => h) (Or.inl ⟨by rfl, ?_⟩) ?_ ?_
                          rotate_left
                          · intro w'
                            go_simp
                            with_reducible rfl
                          rotate_left
                          · simp only [Act.put, List.setIfInBounds_toArray, List.set_cons_zero, List.set_cons_succ, i64_w, i32_w]
                            rfl
                          refine pure_ (i := 23) (N := some 26) (v := ?_) (a' := ?_) #[true, true, true, true, true, true, true, true, true, true, true, true, true, true, true, true, true, true, true, true, true, true, true, true, true, true, false, false, false, true, true, false, false, true, false, false, false] rfl rfl (any_of HT_.out (by kernel_rfl)) (fun _ _ _ h => h) (Or.inl ⟨by rfl, ?_⟩) ?_ ?_
                          rotate_left
                          · intro w'
                            go_simp
                            with_reducible rfl
                          rotate_left
                          · simp only [Act.put, List.setIfInBounds_toArray, List.set_cons_zero, List.set_cons_succ, i64_w, i32_w]
                            rfl
                          exact norm_ (by first | (simp only [putAll, Act.put, List.setIfInBounds_toArray, List.set_cons_zero, List.set_cons_succ]; done) | (simp only [putAll, Act.put, List.setIfInBounds_toArray, List.set_cons_zero, List.set_cons_succ]; rfl)) (hJ6_11_16_21_33 (v175) _ ⟨hHeld, (by (with_reducible repeat (first | apply Kd.R_alloc | apply Kd.R_drewN | apply Kd.R_drew)); exact HO176.out), (by (with_reducible repeat (first | refine blk_drewN ?_ _ | refine blk_drew ?_ | refine blk_alloc ?_ _)); exact BK167.out), (by repeat (first | (with_reducible first | exact HB.out | apply below_alloc | apply pw_below_drewN | apply below_drew1 | refine below_set ?_ GE167.out) | exact HB.out))⟩)
                        · skip
                          have hcv30 := own_string (P := Tryd.prog) Tryd.underlying45 Tryd.underlying5 Tryd.underlying9 (Kd.own_of_R HO176.out)
                          refine value_ (w1 := ?_) (v := ?_) (by rfl) rfl ?_ ?_
                          rotate_left 2
                          · go_simp
                            constructor
                            · rfl
                            · rfl
                          clear hcv30
                          refine hK.out _ _ ⟨(blk_cell BK167.out 0).trans rfl, (blk_cell BK167.out 1).trans rfl, (blk_cell BK167.out 2).trans rfl, (blk_cell BK167.out 3).trans rfl, (blk_cell BK167.out 4).trans rfl, (blk_cell BK167.out 5).trans rfl, (blk_cell BK167.out 6).trans rfl⟩ (fun hHeld => ?_)
                          clear hK K
                          refine norm_ (a' := ?_) ?_ ?_
                          rotate_left
                          · show Act.put _ (some 37) _ = _
                            simp only [Act.put, List.setIfInBounds_toArray, List.set_cons_zero, List.set_cons_succ, i64_w, i32_w]
                            rfl
                          exact norm_ (by first | (simp only [putAll, Act.put, List.setIfInBounds_toArray, List.set_cons_zero, List.set_cons_succ]; done) | (simp only [putAll, Act.put, List.setIfInBounds_toArray, List.set_cons_zero, List.set_cons_succ]; rfl)) (hJ6_11_16_33_34 (v175) _ ⟨hHeld, (by (with_reducible repeat (first | apply Kd.R_alloc | apply Kd.R_drewN | apply Kd.R_drew)); exact HO176.out), (by (with_reducible repeat (first | refine blk_drewN ?_ _ | refine blk_drew ?_ | refine blk_alloc ?_ _)); exact BK167.out), (by repeat (first | (with_reducible first | exact HB.out | apply below_alloc | apply pw_below_drewN | apply below_drew1 | refine below_set ?_ GE167.out) | exact HB.out))⟩)
                    · skip
                      rintro _ w28 ⟨hS_, h0_, h1_⟩
                      have n0_ : Aside0 (w28.heap[gb167]? = some (.cells #[.string a0_0, .int .i64 a0_1, .int .i64 a0_2, .int .i64 a0_3, .int .i64 a0_4, .int .i64 a0_5, .int .i64 a0_6] 29 (0, 0))) := ⟨h0_⟩
                      have n1_ : Aside0 (Below w.heap.size w w28) := ⟨h1_⟩
                      clear BK167
                      clear HB
                      clear h0_ h1_
                      have BK167 := n0_
                      have HB := n1_
                      clear n0_ n1_
                      have hHeld : w28.cell? ⟨gb167, 0, none⟩ = some (.string a0_0) ∧ w28.cell? ⟨gb167, 1, none⟩ = some (.int .i64 a0_1) ∧ w28.cell? ⟨gb167, 2, none⟩ = some (.int .i64 a0_2) ∧ w28.cell? ⟨gb167, 3, none⟩ = some (.int .i64 a0_3) ∧ w28.cell? ⟨gb167, 4, none⟩ = some (.int .i64 a0_4) ∧ w28.cell? ⟨gb167, 5, none⟩ = some (.int .i64 a0_5) ∧ w28.cell? ⟨gb167, 6, none⟩ = some (.int .i64 a0_6) := hS_
                      refine norm_ (a' := ?_) ?_ ?_
                      rotate_left
                      · simp only [putAll, Act.put, List.setIfInBounds_toArray, List.set_cons_zero, List.set_cons_succ]
                        rfl
                      refine two_ (i := 26) (j := 33) (Ni := some 29) (Nj := some 36) #[true, true, true, true, true, true, true, true, true, true, true, true, true, true, true, true, true, true, true, true, true, true, true, true, true, true, true, false, false, true, true, false, false, false, false, false, false] #[true, true, true, true, true, true, true, true, true, true, true, true, true, true, true, true, true, true, true, true, true, true, true, true, true, true, false, false, false, true, true, false, false, true, false, false, false] rfl rfl rfl rfl (two_of HT_.out (by kernel_rfl)) (by decide) (by decide) (fun K hK => ?_) (fun K hK => ?_)
                      · skip
                        refine goes_ Tryd.func27 (by kernel_rfl) rfl #[.int .i64 a0_5] (by rfl) rfl rfl (by (try simp only [List.map_toArray, List.map_cons, List.map_nil]); first | done | rfl | (simp only [List.length_drop, List.length_take]; rfl)) ?_
                        with_reducible refine (cadencyref05_Digits.calls k a0_5 t172 _ A16.out).mono ?_
                        rintro e w29 ⟨rfl, hb⟩
                        refine ⟨_, rfl, ?_⟩
                        have n0_ := Aside0.mk (blk_below (g := gb167) (o := .cells #[.string a0_0, .int .i64 a0_1, .int .i64 a0_2, .int .i64 a0_3, .int .i64 a0_4, .int .i64 a0_5, .int .i64 a0_6] 29 (0, 0)) (by (with_reducible repeat (first | refine blk_drewN ?_ _ | refine blk_drew ?_ | refine blk_alloc ?_ _)); exact BK167.out) hb)
                        have n1_ := Aside0.mk (below_step (by repeat (first | (with_reducible first | exact HB.out | apply below_alloc | apply pw_below_drewN | apply below_drew1 | refine below_set ?_ GE167.out) | exact HB.out)) hb)
                        clear BK167
                        clear HB
                        have BK167 := n0_
                        have HB := n1_
                        clear n0_ n1_
                        (try clear hb)
                        (try clear hb2)
                        (try clear hk)
                        (try clear hi)
                        refine hK.out _ _ ⟨(blk_cell BK167.out 0).trans rfl, (blk_cell BK167.out 1).trans rfl, (blk_cell BK167.out 2).trans rfl, (blk_cell BK167.out 3).trans rfl, (blk_cell BK167.out 4).trans rfl, (blk_cell BK167.out 5).trans rfl, (blk_cell BK167.out 6).trans rfl⟩ (fun hHeld => ?_)
                        clear hK K
                        refine norm_ (a' := ?_) ?_ ?_
                        rotate_left
                        · show Act.put _ (some 29) _ = _
                          simp only [Act.put, List.setIfInBounds_toArray, List.set_cons_zero, List.set_cons_succ, i64_w, i32_w]
                          rfl
                        refine pure_ (i := 27) (N := some 30) (v := ?_) (a' := ?_) #[true, true, true, true, true, true, true, true, true, true, true, true, true, true, true, true, true, true, true, true, true, true, true, true, true, true, true, true, false, true, true, false, false, false, false, false, false] rfl rfl (any_of HT_.out (by kernel_rfl)) (fun _ _ _ h => h) (Or.inl ⟨by rfl, ?_⟩) ?_ ?_
                        rotate_left
                        · intro w'
                          go_simp
                          with_reducible rfl
                        rotate_left
                        · simp only [Act.put, List.setIfInBounds_toArray, List.set_cons_zero, List.set_cons_succ, i64_w, i32_w]
                          rfl
                        refine pure_ (i := 28) (N := some 31) (v := ?_) (a' := ?_) #[true, true, true, true, true, true, true, true, true, true, true, true, true, true, true, true, true, true, true, true, true, true, true, true, true, true, true, true, true, true, true, false, false, false, false, false, false] rfl rfl (any_of HT_.out (by kernel_rfl)) (fun _ _ _ h => h) (Or.inl ⟨by rfl, ?_⟩) ?_ ?_
                        rotate_left
                        · intro w'
                          go_simp
                          with_reducible rfl
                        rotate_left
                        · simp only [Act.put, List.setIfInBounds_toArray, List.set_cons_zero, List.set_cons_succ, i64_w, i32_w]
                          rfl
                        exact norm_ (by first | (simp only [putAll, Act.put, List.setIfInBounds_toArray, List.set_cons_zero, List.set_cons_succ]; done) | (simp only [putAll, Act.put, List.setIfInBounds_toArray, List.set_cons_zero, List.set_cons_succ]; rfl)) (hJ6_11_16_21_26 () _ ⟨hHeld, (by (with_reducible repeat (first | refine blk_drewN ?_ _ | refine blk_drew ?_ | refine blk_alloc ?_ _)); exact BK167.out), (by repeat (first | (with_reducible first | exact HB.out | apply below_alloc | apply pw_below_drewN | apply below_drew1 | refine below_set ?_ GE167.out) | exact HB.out))⟩)
                      · skip
                        refine Kd.R_lit_step (Kd.int .u8) _ 5 ?hg (N := 36) ?hd (xs := ([10] : List Int)) (inner := [.int .u8 10]) (ok := fun _ => True) (okp := fun _ => True) ?hr ?hp (fun _ hk => hk) trivial (Below.refl _ _) (Nat.le_refl _) (by simp) ?_; (case hd => rfl); (case hg => rfl); (case hr => first | (go_simp; done) | (go_simp; rfl)); (case hp => exact (Reps.one (show Kd.M (Kd.int .u8) _ _ _ 10 [.int .u8 10] from rfl) (Reps.none _ _)))
                        intro v175 w29 ho30 hb hg_ hnew_
                        clear hg_ hnew_
                        (first | rw [← Ny174.out] at ho30 | (simp only [Int.reduceToNat] at ho30; rw [← Ny174.out] at ho30))
                        have n0_ := Aside0.mk (Kd.R_lower ho30 (below_size (by repeat (first | (with_reducible first | exact HB.out | apply below_alloc | apply pw_below_drewN | apply below_drew1 | refine below_set ?_ GE167.out) | exact HB.out))))
                        have n1_ := Aside0.mk (blk_below (g := gb167) (o := .cells #[.string a0_0, .int .i64 a0_1, .int .i64 a0_2, .int .i64 a0_3, .int .i64 a0_4, .int .i64 a0_5, .int .i64 a0_6] 29 (0, 0)) (by (with_reducible repeat (first | refine blk_drewN ?_ _ | refine blk_drew ?_ | refine blk_alloc ?_ _)); exact BK167.out) hb)
                        have n2_ := Aside0.mk (below_step (by repeat (first | (with_reducible first | exact HB.out | apply below_alloc | apply pw_below_drewN | apply below_drew1 | refine below_set ?_ GE167.out) | exact HB.out)) hb)
                        clear BK167
                        clear HB
                        have HO176 := n0_
                        have BK167 := n1_
                        have HB := n2_
                        clear n0_ n1_ n2_
                        clear hb ho30
                        refine hK.out _ _ ⟨(blk_cell BK167.out 0).trans rfl, (blk_cell BK167.out 1).trans rfl, (blk_cell BK167.out 2).trans rfl, (blk_cell BK167.out 3).trans rfl, (blk_cell BK167.out 4).trans rfl, (blk_cell BK167.out 5).trans rfl, (blk_cell BK167.out 6).trans rfl⟩ (fun hHeld => ?_)
                        clear hK K
                        refine norm_ (a' := ?_) ?_ ?_
                        rotate_left
                        · show Act.put _ (some 36) _ = _
                          simp only [Act.put, List.setIfInBounds_toArray, List.set_cons_zero, List.set_cons_succ, i64_w, i32_w]
                          rfl
                        exact norm_ (by first | (simp only [putAll, Act.put, List.setIfInBounds_toArray, List.set_cons_zero, List.set_cons_succ]; done) | (simp only [putAll, Act.put, List.setIfInBounds_toArray, List.set_cons_zero, List.set_cons_succ]; rfl)) (hJ6_11_16_21_33 (v175) _ ⟨hHeld, (by (with_reducible repeat (first | apply Kd.R_alloc | apply Kd.R_drewN | apply Kd.R_drew)); exact HO176.out), (by (with_reducible repeat (first | refine blk_drewN ?_ _ | refine blk_drew ?_ | refine blk_alloc ?_ _)); exact BK167.out), (by repeat (first | (with_reducible first | exact HB.out | apply below_alloc | apply pw_below_drewN | apply below_drew1 | refine below_set ?_ GE167.out) | exact HB.out))⟩)
                  · skip
                    rintro v175 w30 ⟨hS_, h0_, h1_, h2_⟩
                    have n0_ : Aside0 (Kd.R (Kd.int .u8) 5 w30 w.heap.size (fun _ => True) v175 y174) := ⟨h0_⟩
                    have n1_ : Aside0 (w30.heap[gb167]? = some (.cells #[.string a0_0, .int .i64 a0_1, .int .i64 a0_2, .int .i64 a0_3, .int .i64 a0_4, .int .i64 a0_5, .int .i64 a0_6] 29 (0, 0))) := ⟨h1_⟩
                    have n2_ : Aside0 (Below w.heap.size w w30) := ⟨h2_⟩
                    clear BK167
                    clear HB
                    clear h0_ h1_ h2_
                    have HO176 := n0_
                    have BK167 := n1_
                    have HB := n2_
                    clear n0_ n1_ n2_
                    have hHeld : w30.cell? ⟨gb167, 0, none⟩ = some (.string a0_0) ∧ w30.cell? ⟨gb167, 1, none⟩ = some (.int .i64 a0_1) ∧ w30.cell? ⟨gb167, 2, none⟩ = some (.int .i64 a0_2) ∧ w30.cell? ⟨gb167, 3, none⟩ = some (.int .i64 a0_3) ∧ w30.cell? ⟨gb167, 4, none⟩ = some (.int .i64 a0_4) ∧ w30.cell? ⟨gb167, 5, none⟩ = some (.int .i64 a0_5) ∧ w30.cell? ⟨gb167, 6, none⟩ = some (.int .i64 a0_6) := hS_
                    refine norm_ (a' := ?_) ?_ ?_
                    rotate_left
                    · simp only [putAll, Act.put, List.setIfInBounds_toArray, List.set_cons_zero, List.set_cons_succ]
                      rfl
                    refine one_ (i := 21) (N := some 24) #[true, true, true, true, true, true, true, true, true, true, true, true, true, true, true, true, true, true, true, true, true, true, false, false, true, true, false, false, false, true, true, false, false, true, true, false, false] rfl rfl (one_of HT_.out (by kernel_rfl)) (by decide) (fun K hK => ?_)
                    refine goes_ Tryd.func27 (by kernel_rfl) rfl #[.int .i64 a0_4] (by rfl) rfl rfl (by (try simp only [List.map_toArray, List.map_cons, List.map_nil]); first | done | rfl | (simp only [List.length_drop, List.length_take]; rfl)) ?_
                    with_reducible refine (cadencyref05_Digits.calls k a0_4 t171 _ A13.out).mono ?_
                    rintro e w31 ⟨rfl, hb⟩
                    refine ⟨_, rfl, ?_⟩
                    have n0_ := Aside0.mk (Kd.R_below (by (with_reducible repeat (first | apply Kd.R_alloc | apply Kd.R_drewN | apply Kd.R_drew)); exact HO176.out) hb)
                    have n1_ := Aside0.mk (blk_below (g := gb167) (o := .cells #[.string a0_0, .int .i64 a0_1, .int .i64 a0_2, .int .i64 a0_3, .int .i64 a0_4, .int .i64 a0_5, .int .i64 a0_6] 29 (0, 0)) (by (with_reducible repeat (first | refine blk_drewN ?_ _ | refine blk_drew ?_ | refine blk_alloc ?_ _)); exact BK167.out) hb)
                    have n2_ := Aside0.mk (below_step (by repeat (first | (with_reducible first | exact HB.out | apply below_alloc | apply pw_below_drewN | apply below_drew1 | refine below_set ?_ GE167.out) | exact HB.out)) hb)
                    clear HO176
                    clear BK167
                    clear HB
                    have HO176 := n0_
                    have BK167 := n1_
                    have HB := n2_
                    clear n0_ n1_ n2_
                    (try clear hb)
                    (try clear hb2)
                    (try clear hk)
                    (try clear hi)
                    refine hK.out _ _ ⟨(blk_cell BK167.out 0).trans rfl, (blk_cell BK167.out 1).trans rfl, (blk_cell BK167.out 2).trans rfl, (blk_cell BK167.out 3).trans rfl, (blk_cell BK167.out 4).trans rfl, (blk_cell BK167.out 5).trans rfl, (blk_cell BK167.out 6).trans rfl⟩ (fun hHeld => ?_)
                    clear hK K
                    refine norm_ (a' := ?_) ?_ ?_
                    rotate_left
                    · show Act.put _ (some 24) _ = _
                      simp only [Act.put, List.setIfInBounds_toArray, List.set_cons_zero, List.set_cons_succ, i64_w, i32_w]
                      rfl
                    refine pure_ (i := 22) (N := some 25) (v := ?_) (a' := ?_) #[true, true, true, true, true, true, true, true, true, true, true, true, true, true, true, true, true, true, true, true, true, true, true, false, true, true, false, false, false, true, true, false, false, true, true, false, false] rfl rfl (any_of HT_.out (by kernel_rfl)) (fun _ _ _ h => h) (Or.inl ⟨by rfl, ?_⟩) ?_ ?_
                    rotate_left
                    · intro w'
                      go_simp
                      with_reducible rfl
                    rotate_left
                    · simp only [Act.put, List.setIfInBounds_toArray, List.set_cons_zero, List.set_cons_succ, i64_w, i32_w]
                      rfl
                    refine pure_ (i := 23) (N := some 26) (v := ?_) (a' := ?_) #[true, true, true, true, true, true, true, true, true, true, true, true, true, true, true, true, true, true, true, true, true, true, true, true, true, true, false, false, false, true, true, false, false, true, true, false, false] rfl rfl (any_of HT_.out (by kernel_rfl)) (fun _ _ _ h => h) (Or.inl ⟨by rfl, ?_⟩) ?_ ?_
                    rotate_left
                    · intro w'
                      go_simp
                      with_reducible rfl
                    rotate_left
                    · simp only [Act.put, List.setIfInBounds_toArray, List.set_cons_zero, List.set_cons_succ, i64_w, i32_w]
                      rfl
                    exact norm_ (by first | (simp only [putAll, Act.put, List.setIfInBounds_toArray, List.set_cons_zero, List.set_cons_succ]; done) | (simp only [putAll, Act.put, List.setIfInBounds_toArray, List.set_cons_zero, List.set_cons_succ]; rfl)) (hJ6_11_16_21_33_34 (v175) _ ⟨hHeld, (by (with_reducible repeat (first | apply Kd.R_alloc | apply Kd.R_drewN | apply Kd.R_drew)); exact HO176.out), (by (with_reducible repeat (first | refine blk_drewN ?_ _ | refine blk_drew ?_ | refine blk_alloc ?_ _)); exact BK167.out), (by repeat (first | (with_reducible first | exact HB.out | apply below_alloc | apply pw_below_drewN | apply below_drew1 | refine below_set ?_ GE167.out) | exact HB.out))⟩)
                · skip
                  rintro v175 w30 ⟨hS_, h0_, h1_, h2_⟩
                  have n0_ : Aside0 (Kd.R (Kd.int .u8) 5 w30 w.heap.size (fun _ => True) v175 y174) := ⟨h0_⟩
                  have n1_ : Aside0 (w30.heap[gb167]? = some (.cells #[.string a0_0, .int .i64 a0_1, .int .i64 a0_2, .int .i64 a0_3, .int .i64 a0_4, .int .i64 a0_5, .int .i64 a0_6] 29 (0, 0))) := ⟨h1_⟩
                  have n2_ : Aside0 (Below w.heap.size w w30) := ⟨h2_⟩
                  clear BK167
                  clear HB
                  clear h0_ h1_ h2_
                  have HO176 := n0_
                  have BK167 := n1_
                  have HB := n2_
                  clear n0_ n1_ n2_
                  have hHeld : w30.cell? ⟨gb167, 0, none⟩ = some (.string a0_0) ∧ w30.cell? ⟨gb167, 1, none⟩ = some (.int .i64 a0_1) ∧ w30.cell? ⟨gb167, 2, none⟩ = some (.int .i64 a0_2) ∧ w30.cell? ⟨gb167, 3, none⟩ = some (.int .i64 a0_3) ∧ w30.cell? ⟨gb167, 4, none⟩ = some (.int .i64 a0_4) ∧ w30.cell? ⟨gb167, 5, none⟩ = some (.int .i64 a0_5) ∧ w30.cell? ⟨gb167, 6, none⟩ = some (.int .i64 a0_6) := hS_
                  refine norm_ (a' := ?_) ?_ ?_
                  rotate_left
                  · simp only [putAll, Act.put, List.setIfInBounds_toArray, List.set_cons_zero, List.set_cons_succ]
                    rfl
                  refine two_ (i := 26) (j := 34) (Ni := some 29) (Nj := some 37) #[true, true, true, true, true, true, true, true, true, true, true, true, true, true, true, true, true, true, true, true, true, true, true, true, true, true, true, false, false, true, true, false, false, true, false, false, false] #[true, true, true, true, true, true, true, true, true, true, true, true, true, true, true, true, true, true, true, true, true, true, true, true, true, true, false, false, false, true, true, false, false, true, true, false, false] rfl rfl rfl rfl (two_of HT_.out (by kernel_rfl)) (by decide) (by decide) (fun K hK => ?_) (fun K hK => ?_)
                  · skip
                    refine goes_ Tryd.func27 (by kernel_rfl) rfl #[.int .i64 a0_5] (by rfl) rfl rfl (by (try simp only [List.map_toArray, List.map_cons, List.map_nil]); first | done | rfl | (simp only [List.length_drop, List.length_take]; rfl)) ?_
                    with_reducible refine (cadencyref05_Digits.calls k a0_5 t172 _ A16.out).mono ?_
                    rintro e w31 ⟨rfl, hb⟩
                    refine ⟨_, rfl, ?_⟩
                    have n0_ := Aside0.mk (Kd.R_below (by (with_reducible repeat (first | apply Kd.R_alloc | apply Kd.R_drewN | apply Kd.R_drew)); exact HO176.out) hb)
                    have n1_ := Aside0.mk (blk_below (g := gb167) (o := .cells #[.string a0_0, .int .i64 a0_1, .int .i64 a0_2, .int .i64 a0_3, .int .i64 a0_4, .int .i64 a0_5, .int .i64 a0_6] 29 (0, 0)) (by (with_reducible repeat (first | refine blk_drewN ?_ _ | refine blk_drew ?_ | refine blk_alloc ?_ _)); exact BK167.out) hb)
                    have n2_ := Aside0.mk (below_step (by repeat (first | (with_reducible first | exact HB.out | apply below_alloc | apply pw_below_drewN | apply below_drew1 | refine below_set ?_ GE167.out) | exact HB.out)) hb)
                    clear HO176
                    clear BK167
                    clear HB
                    have HO176 := n0_
                    have BK167 := n1_
                    have HB := n2_
                    clear n0_ n1_ n2_
                    (try clear hb)
                    (try clear hb2)
                    (try clear hk)
                    (try clear hi)
                    refine hK.out _ _ ⟨(blk_cell BK167.out 0).trans rfl, (blk_cell BK167.out 1).trans rfl, (blk_cell BK167.out 2).trans rfl, (blk_cell BK167.out 3).trans rfl, (blk_cell BK167.out 4).trans rfl, (blk_cell BK167.out 5).trans rfl, (blk_cell BK167.out 6).trans rfl⟩ (fun hHeld => ?_)
                    clear hK K
                    refine norm_ (a' := ?_) ?_ ?_
                    rotate_left
                    · show Act.put _ (some 29) _ = _
                      simp only [Act.put, List.setIfInBounds_toArray, List.set_cons_zero, List.set_cons_succ, i64_w, i32_w]
                      rfl
                    refine pure_ (i := 27) (N := some 30) (v := ?_) (a' := ?_) #[true, true, true, true, true, true, true, true, true, true, true, true, true, true, true, true, true, true, true, true, true, true, true, true, true, true, true, true, false, true, true, false, false, true, false, false, false] rfl rfl (any_of HT_.out (by kernel_rfl)) (fun _ _ _ h => h) (Or.inl ⟨by rfl, ?_⟩) ?_ ?_
                    rotate_left
                    · intro w'
                      go_simp
                      with_reducible rfl
                    rotate_left
                    · simp only [Act.put, List.setIfInBounds_toArray, List.set_cons_zero, List.set_cons_succ, i64_w, i32_w]
                      rfl
                    refine pure_ (i := 28) (N := some 31) (v := ?_) (a' := ?_) #[true, true, true, true, true, true, true, true, true, true, true, true, true, true, true, true, true, true, true, true, true, true, true, true, true, true, true, true, true, true, true, false, false, true, false, false, false] rfl rfl (any_of HT_.out (by kernel_rfl)) (fun _ _ _ h => h) (Or.inl ⟨by rfl, ?_⟩) ?_ ?_
                    rotate_left
                    · intro w'
                      go_simp
                      with_reducible rfl
                    rotate_left
                    · simp only [Act.put, List.setIfInBounds_toArray, List.set_cons_zero, List.set_cons_succ, i64_w, i32_w]
                      rfl
                    exact norm_ (by first | (simp only [putAll, Act.put, List.setIfInBounds_toArray, List.set_cons_zero, List.set_cons_succ]; done) | (simp only [putAll, Act.put, List.setIfInBounds_toArray, List.set_cons_zero, List.set_cons_succ]; rfl)) (hJ6_11_16_21_26_33 (v175) _ ⟨hHeld, (by (with_reducible repeat (first | apply Kd.R_alloc | apply Kd.R_drewN | apply Kd.R_drew)); exact HO176.out), (by (with_reducible repeat (first | refine blk_drewN ?_ _ | refine blk_drew ?_ | refine blk_alloc ?_ _)); exact BK167.out), (by repeat (first | (with_reducible first | exact HB.out | apply below_alloc | apply pw_below_drewN | apply below_drew1 | refine below_set ?_ GE167.out) | exact HB.out))⟩)
                  · skip
                    have hcv31 := own_string (P := Tryd.prog) Tryd.underlying45 Tryd.underlying5 Tryd.underlying9 (Kd.own_of_R HO176.out)
                    refine value_ (w1 := ?_) (v := ?_) (by rfl) rfl ?_ ?_
                    rotate_left 2
                    · go_simp
                      constructor
                      · rfl
                      · rfl
                    clear hcv31
                    refine hK.out _ _ ⟨(blk_cell BK167.out 0).trans rfl, (blk_cell BK167.out 1).trans rfl, (blk_cell BK167.out 2).trans rfl, (blk_cell BK167.out 3).trans rfl, (blk_cell BK167.out 4).trans rfl, (blk_cell BK167.out 5).trans rfl, (blk_cell BK167.out 6).trans rfl⟩ (fun hHeld => ?_)
                    clear hK K
                    refine norm_ (a' := ?_) ?_ ?_
                    rotate_left
                    · show Act.put _ (some 37) _ = _
                      simp only [Act.put, List.setIfInBounds_toArray, List.set_cons_zero, List.set_cons_succ, i64_w, i32_w]
                      rfl
                    exact norm_ (by first | (simp only [putAll, Act.put, List.setIfInBounds_toArray, List.set_cons_zero, List.set_cons_succ]; done) | (simp only [putAll, Act.put, List.setIfInBounds_toArray, List.set_cons_zero, List.set_cons_succ]; rfl)) (hJ6_11_16_21_33_34 (v175) _ ⟨hHeld, (by (with_reducible repeat (first | apply Kd.R_alloc | apply Kd.R_drewN | apply Kd.R_drew)); exact HO176.out), (by (with_reducible repeat (first | refine blk_drewN ?_ _ | refine blk_drew ?_ | refine blk_alloc ?_ _)); exact BK167.out), (by repeat (first | (with_reducible first | exact HB.out | apply below_alloc | apply pw_below_drewN | apply below_drew1 | refine below_set ?_ GE167.out) | exact HB.out))⟩)
              · skip
                rintro _ w29 ⟨hS_, h0_, h1_⟩
                have n0_ : Aside0 (w29.heap[gb167]? = some (.cells #[.string a0_0, .int .i64 a0_1, .int .i64 a0_2, .int .i64 a0_3, .int .i64 a0_4, .int .i64 a0_5, .int .i64 a0_6] 29 (0, 0))) := ⟨h0_⟩
                have n1_ : Aside0 (Below w.heap.size w w29) := ⟨h1_⟩
                clear BK167
                clear HB
                clear h0_ h1_
                have BK167 := n0_
                have HB := n1_
                clear n0_ n1_
                have hHeld : w29.cell? ⟨gb167, 0, none⟩ = some (.string a0_0) ∧ w29.cell? ⟨gb167, 1, none⟩ = some (.int .i64 a0_1) ∧ w29.cell? ⟨gb167, 2, none⟩ = some (.int .i64 a0_2) ∧ w29.cell? ⟨gb167, 3, none⟩ = some (.int .i64 a0_3) ∧ w29.cell? ⟨gb167, 4, none⟩ = some (.int .i64 a0_4) ∧ w29.cell? ⟨gb167, 5, none⟩ = some (.int .i64 a0_5) ∧ w29.cell? ⟨gb167, 6, none⟩ = some (.int .i64 a0_6) := hS_
                refine norm_ (a' := ?_) ?_ ?_
                rotate_left
                · simp only [putAll, Act.put, List.setIfInBounds_toArray, List.set_cons_zero, List.set_cons_succ]
                  rfl
                refine two_ (i := 31) (j := 33) (Ni := some 34) (Nj := some 36) #[true, true, true, true, true, true, true, true, true, true, true, true, true, true, true, true, true, true, true, true, true, true, true, true, true, true, true, true, true, true, true, true, false, false, false, false, false] #[true, true, true, true, true, true, true, true, true, true, true, true, true, true, true, true, true, true, true, true, true, true, true, true, true, true, true, true, true, true, true, false, false, true, false, false, false] rfl rfl rfl rfl (two_of HT_.out (by kernel_rfl)) (by decide) (by decide) (fun K hK => ?_) (fun K hK => ?_)
                · skip
                  refine goes_ Tryd.func27 (by kernel_rfl) rfl #[.int .i64 a0_6] (by rfl) rfl rfl (by (try simp only [List.map_toArray, List.map_cons, List.map_nil]); first | done | rfl | (simp only [List.length_drop, List.length_take]; rfl)) ?_
                  with_reducible refine (cadencyref05_Digits.calls k a0_6 t173 _ A19.out).mono ?_
                  rintro e w30 ⟨rfl, hb⟩
                  refine ⟨_, rfl, ?_⟩
                  have n0_ := Aside0.mk (blk_below (g := gb167) (o := .cells #[.string a0_0, .int .i64 a0_1, .int .i64 a0_2, .int .i64 a0_3, .int .i64 a0_4, .int .i64 a0_5, .int .i64 a0_6] 29 (0, 0)) (by (with_reducible repeat (first | refine blk_drewN ?_ _ | refine blk_drew ?_ | refine blk_alloc ?_ _)); exact BK167.out) hb)
                  have n1_ := Aside0.mk (below_step (by repeat (first | (with_reducible first | exact HB.out | apply below_alloc | apply pw_below_drewN | apply below_drew1 | refine below_set ?_ GE167.out) | exact HB.out)) hb)
                  clear BK167
                  clear HB
                  have BK167 := n0_
                  have HB := n1_
                  clear n0_ n1_
                  (try clear hb)
                  (try clear hb2)
                  (try clear hk)
                  (try clear hi)
                  refine hK.out _ _ ⟨(blk_cell BK167.out 0).trans rfl, (blk_cell BK167.out 1).trans rfl, (blk_cell BK167.out 2).trans rfl, (blk_cell BK167.out 3).trans rfl, (blk_cell BK167.out 4).trans rfl, (blk_cell BK167.out 5).trans rfl, (blk_cell BK167.out 6).trans rfl⟩ (fun hHeld => ?_)
                  clear hK K
                  refine norm_ (a' := ?_) ?_ ?_
                  rotate_left
                  · show Act.put _ (some 34) _ = _
                    simp only [Act.put, List.setIfInBounds_toArray, List.set_cons_zero, List.set_cons_succ, i64_w, i32_w]
                    rfl
                  refine pure_ (i := 32) (N := some 35) (v := ?_) (a' := ?_) #[true, true, true, true, true, true, true, true, true, true, true, true, true, true, true, true, true, true, true, true, true, true, true, true, true, true, true, true, true, true, true, true, true, false, false, false, false] rfl rfl (any_of HT_.out (by kernel_rfl)) (fun _ _ _ h => h) (Or.inl ⟨by rfl, ?_⟩) ?_ ?_
                  rotate_left
                  · intro w'
                    go_simp
                    with_reducible rfl
                  rotate_left
                  · simp only [Act.put, List.setIfInBounds_toArray, List.set_cons_zero, List.set_cons_succ, i64_w, i32_w]
                    rfl
                  exact norm_ (by first | (simp only [putAll, Act.put, List.setIfInBounds_toArray, List.set_cons_zero, List.set_cons_succ]; done) | (simp only [putAll, Act.put, List.setIfInBounds_toArray, List.set_cons_zero, List.set_cons_succ]; rfl)) (hJ6_11_16_21_26_31 () _ ⟨hHeld, (by (with_reducible repeat (first | refine blk_drewN ?_ _ | refine blk_drew ?_ | refine blk_alloc ?_ _)); exact BK167.out), (by repeat (first | (with_reducible first | exact HB.out | apply below_alloc | apply pw_below_drewN | apply below_drew1 | refine below_set ?_ GE167.out) | exact HB.out))⟩)
                · skip
                  refine Kd.R_lit_step (Kd.int .u8) _ 5 ?hg (N := 36) ?hd (xs := ([10] : List Int)) (inner := [.int .u8 10]) (ok := fun _ => True) (okp := fun _ => True) ?hr ?hp (fun _ hk => hk) trivial (Below.refl _ _) (Nat.le_refl _) (by simp) ?_; (case hd => rfl); (case hg => rfl); (case hr => first | (go_simp; done) | (go_simp; rfl)); (case hp => exact (Reps.one (show Kd.M (Kd.int .u8) _ _ _ 10 [.int .u8 10] from rfl) (Reps.none _ _)))
                  intro v175 w30 ho31 hb hg_ hnew_
                  clear hg_ hnew_
                  (first | rw [← Ny174.out] at ho31 | (simp only [Int.reduceToNat] at ho31; rw [← Ny174.out] at ho31))
                  have n0_ := Aside0.mk (Kd.R_lower ho31 (below_size (by repeat (first | (with_reducible first | exact HB.out | apply below_alloc | apply pw_below_drewN | apply below_drew1 | refine below_set ?_ GE167.out) | exact HB.out))))
                  have n1_ := Aside0.mk (blk_below (g := gb167) (o := .cells #[.string a0_0, .int .i64 a0_1, .int .i64 a0_2, .int .i64 a0_3, .int .i64 a0_4, .int .i64 a0_5, .int .i64 a0_6] 29 (0, 0)) (by (with_reducible repeat (first | refine blk_drewN ?_ _ | refine blk_drew ?_ | refine blk_alloc ?_ _)); exact BK167.out) hb)
                  have n2_ := Aside0.mk (below_step (by repeat (first | (with_reducible first | exact HB.out | apply below_alloc | apply pw_below_drewN | apply below_drew1 | refine below_set ?_ GE167.out) | exact HB.out)) hb)
                  clear BK167
                  clear HB
                  have HO176 := n0_
                  have BK167 := n1_
                  have HB := n2_
                  clear n0_ n1_ n2_
                  clear hb ho31
                  refine hK.out _ _ ⟨(blk_cell BK167.out 0).trans rfl, (blk_cell BK167.out 1).trans rfl, (blk_cell BK167.out 2).trans rfl, (blk_cell BK167.out 3).trans rfl, (blk_cell BK167.out 4).trans rfl, (blk_cell BK167.out 5).trans rfl, (blk_cell BK167.out 6).trans rfl⟩ (fun hHeld => ?_)
                  clear hK K
                  refine norm_ (a' := ?_) ?_ ?_
                  rotate_left
                  · show Act.put _ (some 36) _ = _
                    simp only [Act.put, List.setIfInBounds_toArray, List.set_cons_zero, List.set_cons_succ, i64_w, i32_w]
                    rfl
                  exact norm_ (by first | (simp only [putAll, Act.put, List.setIfInBounds_toArray, List.set_cons_zero, List.set_cons_succ]; done) | (simp only [putAll, Act.put, List.setIfInBounds_toArray, List.set_cons_zero, List.set_cons_succ]; rfl)) (hJ6_11_16_21_26_33 (v175) _ ⟨hHeld, (by (with_reducible repeat (first | apply Kd.R_alloc | apply Kd.R_drewN | apply Kd.R_drew)); exact HO176.out), (by (with_reducible repeat (first | refine blk_drewN ?_ _ | refine blk_drew ?_ | refine blk_alloc ?_ _)); exact BK167.out), (by repeat (first | (with_reducible first | exact HB.out | apply below_alloc | apply pw_below_drewN | apply below_drew1 | refine below_set ?_ GE167.out) | exact HB.out))⟩)
            · skip
              rintro v175 w31 ⟨hS_, h0_, h1_, h2_⟩
              have n0_ : Aside0 (Kd.R (Kd.int .u8) 5 w31 w.heap.size (fun _ => True) v175 y174) := ⟨h0_⟩
              have n1_ : Aside0 (w31.heap[gb167]? = some (.cells #[.string a0_0, .int .i64 a0_1, .int .i64 a0_2, .int .i64 a0_3, .int .i64 a0_4, .int .i64 a0_5, .int .i64 a0_6] 29 (0, 0))) := ⟨h1_⟩
              have n2_ : Aside0 (Below w.heap.size w w31) := ⟨h2_⟩
              clear BK167
              clear HB
              clear h0_ h1_ h2_
              have HO176 := n0_
              have BK167 := n1_
              have HB := n2_
              clear n0_ n1_ n2_
              have hHeld : w31.cell? ⟨gb167, 0, none⟩ = some (.string a0_0) ∧ w31.cell? ⟨gb167, 1, none⟩ = some (.int .i64 a0_1) ∧ w31.cell? ⟨gb167, 2, none⟩ = some (.int .i64 a0_2) ∧ w31.cell? ⟨gb167, 3, none⟩ = some (.int .i64 a0_3) ∧ w31.cell? ⟨gb167, 4, none⟩ = some (.int .i64 a0_4) ∧ w31.cell? ⟨gb167, 5, none⟩ = some (.int .i64 a0_5) ∧ w31.cell? ⟨gb167, 6, none⟩ = some (.int .i64 a0_6) := hS_
              refine norm_ (a' := ?_) ?_ ?_
              rotate_left
              · simp only [putAll, Act.put, List.setIfInBounds_toArray, List.set_cons_zero, List.set_cons_succ]
                rfl
              refine one_ (i := 26) (N := some 29) #[true, true, true, true, true, true, true, true, true, true, true, true, true, true, true, true, true, true, true, true, true, true, true, true, true, true, true, false, false, true, true, false, false, true, true, false, false] rfl rfl (one_of HT_.out (by kernel_rfl)) (by decide) (fun K hK => ?_)
              refine goes_ Tryd.func27 (by kernel_rfl) rfl #[.int .i64 a0_5] (by rfl) rfl rfl (by (try simp only [List.map_toArray, List.map_cons, List.map_nil]); first | done | rfl | (simp only [List.length_drop, List.length_take]; rfl)) ?_
              with_reducible refine (cadencyref05_Digits.calls k a0_5 t172 _ A16.out).mono ?_
              rintro e w32 ⟨rfl, hb⟩
              refine ⟨_, rfl, ?_⟩
              have n0_ := Aside0.mk (Kd.R_below (by (with_reducible repeat (first | apply Kd.R_alloc | apply Kd.R_drewN | apply Kd.R_drew)); exact HO176.out) hb)
              have n1_ := Aside0.mk (blk_below (g := gb167) (o := .cells #[.string a0_0, .int .i64 a0_1, .int .i64 a0_2, .int .i64 a0_3, .int .i64 a0_4, .int .i64 a0_5, .int .i64 a0_6] 29 (0, 0)) (by (with_reducible repeat (first | refine blk_drewN ?_ _ | refine blk_drew ?_ | refine blk_alloc ?_ _)); exact BK167.out) hb)
              have n2_ := Aside0.mk (below_step (by repeat (first | (with_reducible first | exact HB.out | apply below_alloc | apply pw_below_drewN | apply below_drew1 | refine below_set ?_ GE167.out) | exact HB.out)) hb)
              clear HO176
              clear BK167
              clear HB
              have HO176 := n0_
              have BK167 := n1_
              have HB := n2_
              clear n0_ n1_ n2_
              (try clear hb)
              (try clear hb2)
              (try clear hk)
              (try clear hi)
              refine hK.out _ _ ⟨(blk_cell BK167.out 0).trans rfl, (blk_cell BK167.out 1).trans rfl, (blk_cell BK167.out 2).trans rfl, (blk_cell BK167.out 3).trans rfl, (blk_cell BK167.out 4).trans rfl, (blk_cell BK167.out 5).trans rfl, (blk_cell BK167.out 6).trans rfl⟩ (fun hHeld => ?_)
              clear hK K
              refine norm_ (a' := ?_) ?_ ?_
              rotate_left
              · show Act.put _ (some 29) _ = _
                simp only [Act.put, List.setIfInBounds_toArray, List.set_cons_zero, List.set_cons_succ, i64_w, i32_w]
                rfl
              refine pure_ (i := 27) (N := some 30) (v := ?_) (a' := ?_) #[true, true, true, true, true, true, true, true, true, true, true, true, true, true, true, true, true, true, true, true, true, true, true, true, true, true, true, true, false, true, true, false, false, true, true, false, false] rfl rfl (any_of HT_.out (by kernel_rfl)) (fun _ _ _ h => h) (Or.inl ⟨by rfl, ?_⟩) ?_ ?_
              rotate_left
              · intro w'
                go_simp
                with_reducible rfl
              rotate_left
              · simp only [Act.put, List.setIfInBounds_toArray, List.set_cons_zero, List.set_cons_succ, i64_w, i32_w]
                rfl
              refine pure_ (i := 28) (N := some 31) (v := ?_) (a' := ?_) #[true, true, true, true, true, true, true, true, true, true, true, true, true, true, true, true, true, true, true, true, true, true, true, true, true, true, true, true, true, true, true, false, false, true, true, false, false] rfl rfl (any_of HT_.out (by kernel_rfl)) (fun _ _ _ h => h) (Or.inl ⟨by rfl, ?_⟩) ?_ ?_
              rotate_left
              · intro w'
                go_simp
                with_reducible rfl
              rotate_left
              · simp only [Act.put, List.setIfInBounds_toArray, List.set_cons_zero, List.set_cons_succ, i64_w, i32_w]
                rfl
              exact norm_ (by first | (simp only [putAll, Act.put, List.setIfInBounds_toArray, List.set_cons_zero, List.set_cons_succ]; done) | (simp only [putAll, Act.put, List.setIfInBounds_toArray, List.set_cons_zero, List.set_cons_succ]; rfl)) (hJ6_11_16_21_26_33_34 (v175) _ ⟨hHeld, (by (with_reducible repeat (first | apply Kd.R_alloc | apply Kd.R_drewN | apply Kd.R_drew)); exact HO176.out), (by (with_reducible repeat (first | refine blk_drewN ?_ _ | refine blk_drew ?_ | refine blk_alloc ?_ _)); exact BK167.out), (by repeat (first | (with_reducible first | exact HB.out | apply below_alloc | apply pw_below_drewN | apply below_drew1 | refine below_set ?_ GE167.out) | exact HB.out))⟩)
          · skip
            rintro v175 w31 ⟨hS_, h0_, h1_, h2_⟩
            have n0_ : Aside0 (Kd.R (Kd.int .u8) 5 w31 w.heap.size (fun _ => True) v175 y174) := ⟨h0_⟩
            have n1_ : Aside0 (w31.heap[gb167]? = some (.cells #[.string a0_0, .int .i64 a0_1, .int .i64 a0_2, .int .i64 a0_3, .int .i64 a0_4, .int .i64 a0_5, .int .i64 a0_6] 29 (0, 0))) := ⟨h1_⟩
            have n2_ : Aside0 (Below w.heap.size w w31) := ⟨h2_⟩
            clear BK167
            clear HB
            clear h0_ h1_ h2_
            have HO176 := n0_
            have BK167 := n1_
            have HB := n2_
            clear n0_ n1_ n2_
            have hHeld : w31.cell? ⟨gb167, 0, none⟩ = some (.string a0_0) ∧ w31.cell? ⟨gb167, 1, none⟩ = some (.int .i64 a0_1) ∧ w31.cell? ⟨gb167, 2, none⟩ = some (.int .i64 a0_2) ∧ w31.cell? ⟨gb167, 3, none⟩ = some (.int .i64 a0_3) ∧ w31.cell? ⟨gb167, 4, none⟩ = some (.int .i64 a0_4) ∧ w31.cell? ⟨gb167, 5, none⟩ = some (.int .i64 a0_5) ∧ w31.cell? ⟨gb167, 6, none⟩ = some (.int .i64 a0_6) := hS_
            refine norm_ (a' := ?_) ?_ ?_
            rotate_left
            · simp only [putAll, Act.put, List.setIfInBounds_toArray, List.set_cons_zero, List.set_cons_succ]
              rfl
            refine two_ (i := 31) (j := 34) (Ni := some 34) (Nj := some 37) #[true, true, true, true, true, true, true, true, true, true, true, true, true, true, true, true, true, true, true, true, true, true, true, true, true, true, true, true, true, true, true, true, false, true, false, false, false] #[true, true, true, true, true, true, true, true, true, true, true, true, true, true, true, true, true, true, true, true, true, true, true, true, true, true, true, true, true, true, true, false, false, true, true, false, false] rfl rfl rfl rfl (two_of HT_.out (by kernel_rfl)) (by decide) (by decide) (fun K hK => ?_) (fun K hK => ?_)
            · skip
              refine goes_ Tryd.func27 (by kernel_rfl) rfl #[.int .i64 a0_6] (by rfl) rfl rfl (by (try simp only [List.map_toArray, List.map_cons, List.map_nil]); first | done | rfl | (simp only [List.length_drop, List.length_take]; rfl)) ?_
              with_reducible refine (cadencyref05_Digits.calls k a0_6 t173 _ A19.out).mono ?_
              rintro e w32 ⟨rfl, hb⟩
              refine ⟨_, rfl, ?_⟩
              have n0_ := Aside0.mk (Kd.R_below (by (with_reducible repeat (first | apply Kd.R_alloc | apply Kd.R_drewN | apply Kd.R_drew)); exact HO176.out) hb)
              have n1_ := Aside0.mk (blk_below (g := gb167) (o := .cells #[.string a0_0, .int .i64 a0_1, .int .i64 a0_2, .int .i64 a0_3, .int .i64 a0_4, .int .i64 a0_5, .int .i64 a0_6] 29 (0, 0)) (by (with_reducible repeat (first | refine blk_drewN ?_ _ | refine blk_drew ?_ | refine blk_alloc ?_ _)); exact BK167.out) hb)
              have n2_ := Aside0.mk (below_step (by repeat (first | (with_reducible first | exact HB.out | apply below_alloc | apply pw_below_drewN | apply below_drew1 | refine below_set ?_ GE167.out) | exact HB.out)) hb)
              clear HO176
              clear BK167
              clear HB
              have HO176 := n0_
              have BK167 := n1_
              have HB := n2_
              clear n0_ n1_ n2_
              (try clear hb)
              (try clear hb2)
              (try clear hk)
              (try clear hi)
              refine hK.out _ _ ⟨(blk_cell BK167.out 0).trans rfl, (blk_cell BK167.out 1).trans rfl, (blk_cell BK167.out 2).trans rfl, (blk_cell BK167.out 3).trans rfl, (blk_cell BK167.out 4).trans rfl, (blk_cell BK167.out 5).trans rfl, (blk_cell BK167.out 6).trans rfl⟩ (fun hHeld => ?_)
              clear hK K
              refine norm_ (a' := ?_) ?_ ?_
              rotate_left
              · show Act.put _ (some 34) _ = _
                simp only [Act.put, List.setIfInBounds_toArray, List.set_cons_zero, List.set_cons_succ, i64_w, i32_w]
                rfl
              refine pure_ (i := 32) (N := some 35) (v := ?_) (a' := ?_) #[true, true, true, true, true, true, true, true, true, true, true, true, true, true, true, true, true, true, true, true, true, true, true, true, true, true, true, true, true, true, true, true, true, true, false, false, false] rfl rfl (any_of HT_.out (by kernel_rfl)) (fun _ _ _ h => h) (Or.inl ⟨by rfl, ?_⟩) ?_ ?_
              rotate_left
              · intro w'
                go_simp
                with_reducible rfl
              rotate_left
              · simp only [Act.put, List.setIfInBounds_toArray, List.set_cons_zero, List.set_cons_succ, i64_w, i32_w]
                rfl
              exact norm_ (by first | (simp only [putAll, Act.put, List.setIfInBounds_toArray, List.set_cons_zero, List.set_cons_succ]; done) | (simp only [putAll, Act.put, List.setIfInBounds_toArray, List.set_cons_zero, List.set_cons_succ]; rfl)) (hJ6_11_16_21_26_31_33 (v175) _ ⟨hHeld, (by (with_reducible repeat (first | apply Kd.R_alloc | apply Kd.R_drewN | apply Kd.R_drew)); exact HO176.out), (by (with_reducible repeat (first | refine blk_drewN ?_ _ | refine blk_drew ?_ | refine blk_alloc ?_ _)); exact BK167.out), (by repeat (first | (with_reducible first | exact HB.out | apply below_alloc | apply pw_below_drewN | apply below_drew1 | refine below_set ?_ GE167.out) | exact HB.out))⟩)
            · skip
              have hcv32 := own_string (P := Tryd.prog) Tryd.underlying45 Tryd.underlying5 Tryd.underlying9 (Kd.own_of_R HO176.out)
              refine value_ (w1 := ?_) (v := ?_) (by rfl) rfl ?_ ?_
              rotate_left 2
              · go_simp
                constructor
                · rfl
                · rfl
              clear hcv32
              refine hK.out _ _ ⟨(blk_cell BK167.out 0).trans rfl, (blk_cell BK167.out 1).trans rfl, (blk_cell BK167.out 2).trans rfl, (blk_cell BK167.out 3).trans rfl, (blk_cell BK167.out 4).trans rfl, (blk_cell BK167.out 5).trans rfl, (blk_cell BK167.out 6).trans rfl⟩ (fun hHeld => ?_)
              clear hK K
              refine norm_ (a' := ?_) ?_ ?_
              rotate_left
              · show Act.put _ (some 37) _ = _
                simp only [Act.put, List.setIfInBounds_toArray, List.set_cons_zero, List.set_cons_succ, i64_w, i32_w]
                rfl
              exact norm_ (by first | (simp only [putAll, Act.put, List.setIfInBounds_toArray, List.set_cons_zero, List.set_cons_succ]; done) | (simp only [putAll, Act.put, List.setIfInBounds_toArray, List.set_cons_zero, List.set_cons_succ]; rfl)) (hJ6_11_16_21_26_33_34 (v175) _ ⟨hHeld, (by (with_reducible repeat (first | apply Kd.R_alloc | apply Kd.R_drewN | apply Kd.R_drew)); exact HO176.out), (by (with_reducible repeat (first | refine blk_drewN ?_ _ | refine blk_drew ?_ | refine blk_alloc ?_ _)); exact BK167.out), (by repeat (first | (with_reducible first | exact HB.out | apply below_alloc | apply pw_below_drewN | apply below_drew1 | refine below_set ?_ GE167.out) | exact HB.out))⟩)
        · skip
          rintro _ w30 ⟨hS_, h0_, h1_⟩
          have n0_ : Aside0 (w30.heap[gb167]? = some (.cells #[.string a0_0, .int .i64 a0_1, .int .i64 a0_2, .int .i64 a0_3, .int .i64 a0_4, .int .i64 a0_5, .int .i64 a0_6] 29 (0, 0))) := ⟨h0_⟩
          have n1_ : Aside0 (Below w.heap.size w w30) := ⟨h1_⟩
          clear BK167
          clear HB
          clear h0_ h1_
          have BK167 := n0_
          have HB := n1_
          clear n0_ n1_
          have hHeld : w30.cell? ⟨gb167, 0, none⟩ = some (.string a0_0) ∧ w30.cell? ⟨gb167, 1, none⟩ = some (.int .i64 a0_1) ∧ w30.cell? ⟨gb167, 2, none⟩ = some (.int .i64 a0_2) ∧ w30.cell? ⟨gb167, 3, none⟩ = some (.int .i64 a0_3) ∧ w30.cell? ⟨gb167, 4, none⟩ = some (.int .i64 a0_4) ∧ w30.cell? ⟨gb167, 5, none⟩ = some (.int .i64 a0_5) ∧ w30.cell? ⟨gb167, 6, none⟩ = some (.int .i64 a0_6) := hS_
          refine norm_ (a' := ?_) ?_ ?_
          rotate_left
          · simp only [putAll, Act.put, List.setIfInBounds_toArray, List.set_cons_zero, List.set_cons_succ]
            rfl
          refine one_ (i := 33) (N := some 36) #[true, true, true, true, true, true, true, true, true, true, true, true, true, true, true, true, true, true, true, true, true, true, true, true, true, true, true, true, true, true, true, true, true, true, false, false, false] rfl rfl (one_of HT_.out (by kernel_rfl)) (by decide) (fun K hK => ?_)
          refine Kd.R_lit_step (Kd.int .u8) _ 5 ?hg (N := 36) ?hd (xs := ([10] : List Int)) (inner := [.int .u8 10]) (ok := fun _ => True) (okp := fun _ => True) ?hr ?hp (fun _ hk => hk) trivial (Below.refl _ _) (Nat.le_refl _) (by simp) ?_; (case hd => rfl); (case hg => rfl); (case hr => first | (go_simp; done) | (go_simp; rfl)); (case hp => exact (Reps.one (show Kd.M (Kd.int .u8) _ _ _ 10 [.int .u8 10] from rfl) (Reps.none _ _)))
          intro v175 w31 ho32 hb hg_ hnew_
          clear hg_ hnew_
          (first | rw [← Ny174.out] at ho32 | (simp only [Int.reduceToNat] at ho32; rw [← Ny174.out] at ho32))
          have n0_ := Aside0.mk (Kd.R_lower ho32 (below_size (by repeat (first | (with_reducible first | exact HB.out | apply below_alloc | apply pw_below_drewN | apply below_drew1 | refine below_set ?_ GE167.out) | exact HB.out))))
          have n1_ := Aside0.mk (blk_below (g := gb167) (o := .cells #[.string a0_0, .int .i64 a0_1, .int .i64 a0_2, .int .i64 a0_3, .int .i64 a0_4, .int .i64 a0_5, .int .i64 a0_6] 29 (0, 0)) (by (with_reducible repeat (first | refine blk_drewN ?_ _ | refine blk_drew ?_ | refine blk_alloc ?_ _)); exact BK167.out) hb)
          have n2_ := Aside0.mk (below_step (by repeat (first | (with_reducible first | exact HB.out | apply below_alloc | apply pw_below_drewN | apply below_drew1 | refine below_set ?_ GE167.out) | exact HB.out)) hb)
          clear BK167
          clear HB
          have HO176 := n0_
          have BK167 := n1_
          have HB := n2_
          clear n0_ n1_ n2_
          clear hb ho32
          refine hK.out _ _ ⟨(blk_cell BK167.out 0).trans rfl, (blk_cell BK167.out 1).trans rfl, (blk_cell BK167.out 2).trans rfl, (blk_cell BK167.out 3).trans rfl, (blk_cell BK167.out 4).trans rfl, (blk_cell BK167.out 5).trans rfl, (blk_cell BK167.out 6).trans rfl⟩ (fun hHeld => ?_)
          clear hK K
          refine norm_ (a' := ?_) ?_ ?_
          rotate_left
          · show Act.put _ (some 36) _ = _
            simp only [Act.put, List.setIfInBounds_toArray, List.set_cons_zero, List.set_cons_succ, i64_w, i32_w]
            rfl
          exact norm_ (by first | (simp only [putAll, Act.put, List.setIfInBounds_toArray, List.set_cons_zero, List.set_cons_succ]; done) | (simp only [putAll, Act.put, List.setIfInBounds_toArray, List.set_cons_zero, List.set_cons_succ]; rfl)) (hJ6_11_16_21_26_31_33 (v175) _ ⟨hHeld, (by (with_reducible repeat (first | apply Kd.R_alloc | apply Kd.R_drewN | apply Kd.R_drew)); exact HO176.out), (by (with_reducible repeat (first | refine blk_drewN ?_ _ | refine blk_drew ?_ | refine blk_alloc ?_ _)); exact BK167.out), (by repeat (first | (with_reducible first | exact HB.out | apply below_alloc | apply pw_below_drewN | apply below_drew1 | refine below_set ?_ GE167.out) | exact HB.out))⟩)
      · skip
        rintro v175 w32 ⟨hS_, h0_, h1_, h2_⟩
        have n0_ : Aside0 (Kd.R (Kd.int .u8) 5 w32 w.heap.size (fun _ => True) v175 y174) := ⟨h0_⟩
        have n1_ : Aside0 (w32.heap[gb167]? = some (.cells #[.string a0_0, .int .i64 a0_1, .int .i64 a0_2, .int .i64 a0_3, .int .i64 a0_4, .int .i64 a0_5, .int .i64 a0_6] 29 (0, 0))) := ⟨h1_⟩
        have n2_ : Aside0 (Below w.heap.size w w32) := ⟨h2_⟩
        clear BK167
        clear HB
        clear h0_ h1_ h2_
        have HO176 := n0_
        have BK167 := n1_
        have HB := n2_
        clear n0_ n1_ n2_
        have hHeld : w32.cell? ⟨gb167, 0, none⟩ = some (.string a0_0) ∧ w32.cell? ⟨gb167, 1, none⟩ = some (.int .i64 a0_1) ∧ w32.cell? ⟨gb167, 2, none⟩ = some (.int .i64 a0_2) ∧ w32.cell? ⟨gb167, 3, none⟩ = some (.int .i64 a0_3) ∧ w32.cell? ⟨gb167, 4, none⟩ = some (.int .i64 a0_4) ∧ w32.cell? ⟨gb167, 5, none⟩ = some (.int .i64 a0_5) ∧ w32.cell? ⟨gb167, 6, none⟩ = some (.int .i64 a0_6) := hS_
        refine norm_ (a' := ?_) ?_ ?_
        rotate_left
        · simp only [putAll, Act.put, List.setIfInBounds_toArray, List.set_cons_zero, List.set_cons_succ]
          rfl
        refine one_ (i := 31) (N := some 34) #[true, true, true, true, true, true, true, true, true, true, true, true, true, true, true, true, true, true, true, true, true, true, true, true, true, true, true, true, true, true, true, true, false, true, true, false, false] rfl rfl (one_of HT_.out (by kernel_rfl)) (by decide) (fun K hK => ?_)
        refine goes_ Tryd.func27 (by kernel_rfl) rfl #[.int .i64 a0_6] (by rfl) rfl rfl (by (try simp only [List.map_toArray, List.map_cons, List.map_nil]); first | done | rfl | (simp only [List.length_drop, List.length_take]; rfl)) ?_
        with_reducible refine (cadencyref05_Digits.calls k a0_6 t173 _ A19.out).mono ?_
        rintro e w33 ⟨rfl, hb⟩
        refine ⟨_, rfl, ?_⟩
        have n0_ := Aside0.mk (Kd.R_below (by (with_reducible repeat (first | apply Kd.R_alloc | apply Kd.R_drewN | apply Kd.R_drew)); exact HO176.out) hb)
        have n1_ := Aside0.mk (blk_below (g := gb167) (o := .cells #[.string a0_0, .int .i64 a0_1, .int .i64 a0_2, .int .i64 a0_3, .int .i64 a0_4, .int .i64 a0_5, .int .i64 a0_6] 29 (0, 0)) (by (with_reducible repeat (first | refine blk_drewN ?_ _ | refine blk_drew ?_ | refine blk_alloc ?_ _)); exact BK167.out) hb)
        have n2_ := Aside0.mk (below_step (by repeat (first | (with_reducible first | exact HB.out | apply below_alloc | apply pw_below_drewN | apply below_drew1 | refine below_set ?_ GE167.out) | exact HB.out)) hb)
        clear HO176
        clear BK167
        clear HB
        have HO176 := n0_
        have BK167 := n1_
        have HB := n2_
        clear n0_ n1_ n2_
        (try clear hb)
        (try clear hb2)
        (try clear hk)
        (try clear hi)
        refine hK.out _ _ ⟨(blk_cell BK167.out 0).trans rfl, (blk_cell BK167.out 1).trans rfl, (blk_cell BK167.out 2).trans rfl, (blk_cell BK167.out 3).trans rfl, (blk_cell BK167.out 4).trans rfl, (blk_cell BK167.out 5).trans rfl, (blk_cell BK167.out 6).trans rfl⟩ (fun hHeld => ?_)
        clear hK K
        refine norm_ (a' := ?_) ?_ ?_
        rotate_left
        · show Act.put _ (some 34) _ = _
          simp only [Act.put, List.setIfInBounds_toArray, List.set_cons_zero, List.set_cons_succ, i64_w, i32_w]
          rfl
        refine pure_ (i := 32) (N := some 35) (v := ?_) (a' := ?_) #[true, true, true, true, true, true, true, true, true, true, true, true, true, true, true, true, true, true, true, true, true, true, true, true, true, true, true, true, true, true, true, true, true, true, true, false, false] rfl rfl (any_of HT_.out (by kernel_rfl)) (fun _ _ _ h => h) (Or.inl ⟨by rfl, ?_⟩) ?_ ?_
        rotate_left
        · intro w'
          go_simp
          with_reducible rfl
        rotate_left
        · simp only [Act.put, List.setIfInBounds_toArray, List.set_cons_zero, List.set_cons_succ, i64_w, i32_w]
          rfl
        exact norm_ (by first | (simp only [putAll, Act.put, List.setIfInBounds_toArray, List.set_cons_zero, List.set_cons_succ]; done) | (simp only [putAll, Act.put, List.setIfInBounds_toArray, List.set_cons_zero, List.set_cons_succ]; rfl)) (hJ6_11_16_21_26_31_33_34 (v175) _ ⟨hHeld, (by (with_reducible repeat (first | apply Kd.R_alloc | apply Kd.R_drewN | apply Kd.R_drew)); exact HO176.out), (by (with_reducible repeat (first | refine blk_drewN ?_ _ | refine blk_drew ?_ | refine blk_alloc ?_ _)); exact BK167.out), (by repeat (first | (with_reducible first | exact HB.out | apply below_alloc | apply pw_below_drewN | apply below_drew1 | refine below_set ?_ GE167.out) | exact HB.out))⟩)
    · skip
      rintro v175 w32 ⟨hS_, h0_, h1_, h2_⟩
      have n0_ : Aside0 (Kd.R (Kd.int .u8) 5 w32 w.heap.size (fun _ => True) v175 y174) := ⟨h0_⟩
      have n1_ : Aside0 (w32.heap[gb167]? = some (.cells #[.string a0_0, .int .i64 a0_1, .int .i64 a0_2, .int .i64 a0_3, .int .i64 a0_4, .int .i64 a0_5, .int .i64 a0_6] 29 (0, 0))) := ⟨h1_⟩
      have n2_ : Aside0 (Below w.heap.size w w32) := ⟨h2_⟩
      clear BK167
      clear HB
      clear h0_ h1_ h2_
      have HO176 := n0_
      have BK167 := n1_
      have HB := n2_
      clear n0_ n1_ n2_
      have hHeld : w32.cell? ⟨gb167, 0, none⟩ = some (.string a0_0) ∧ w32.cell? ⟨gb167, 1, none⟩ = some (.int .i64 a0_1) ∧ w32.cell? ⟨gb167, 2, none⟩ = some (.int .i64 a0_2) ∧ w32.cell? ⟨gb167, 3, none⟩ = some (.int .i64 a0_3) ∧ w32.cell? ⟨gb167, 4, none⟩ = some (.int .i64 a0_4) ∧ w32.cell? ⟨gb167, 5, none⟩ = some (.int .i64 a0_5) ∧ w32.cell? ⟨gb167, 6, none⟩ = some (.int .i64 a0_6) := hS_
      refine norm_ (a' := ?_) ?_ ?_
      rotate_left
      · simp only [putAll, Act.put, List.setIfInBounds_toArray, List.set_cons_zero, List.set_cons_succ]
        rfl
      refine one_ (i := 34) (N := some 37) #[true, true, true, true, true, true, true, true, true, true, true, true, true, true, true, true, true, true, true, true, true, true, true, true, true, true, true, true, true, true, true, true, true, true, true, false, false] rfl rfl (one_of HT_.out (by kernel_rfl)) (by decide) (fun K hK => ?_)
      have hcv33 := own_string (P := Tryd.prog) Tryd.underlying45 Tryd.underlying5 Tryd.underlying9 (Kd.own_of_R HO176.out)
      refine value_ (w1 := ?_) (v := ?_) (by rfl) rfl ?_ ?_
      rotate_left 2
      · go_simp
        constructor
        · rfl
        · rfl
      clear hcv33
      refine hK.out _ _ ⟨(blk_cell BK167.out 0).trans rfl, (blk_cell BK167.out 1).trans rfl, (blk_cell BK167.out 2).trans rfl, (blk_cell BK167.out 3).trans rfl, (blk_cell BK167.out 4).trans rfl, (blk_cell BK167.out 5).trans rfl, (blk_cell BK167.out 6).trans rfl⟩ (fun hHeld => ?_)
      clear hK K
      refine norm_ (a' := ?_) ?_ ?_
      rotate_left
      · show Act.put _ (some 37) _ = _
        simp only [Act.put, List.setIfInBounds_toArray, List.set_cons_zero, List.set_cons_succ, i64_w, i32_w]
        rfl
      exact norm_ (by first | (simp only [putAll, Act.put, List.setIfInBounds_toArray, List.set_cons_zero, List.set_cons_succ]; done) | (simp only [putAll, Act.put, List.setIfInBounds_toArray, List.set_cons_zero, List.set_cons_succ]; rfl)) (hJ6_11_16_21_26_31_33_34 (v175) _ ⟨hHeld, (by (with_reducible repeat (first | apply Kd.R_alloc | apply Kd.R_drewN | apply Kd.R_drew)); exact HO176.out), (by (with_reducible repeat (first | refine blk_drewN ?_ _ | refine blk_drew ?_ | refine blk_alloc ?_ _)); exact BK167.out), (by repeat (first | (with_reducible first | exact HB.out | apply below_alloc | apply pw_below_drewN | apply below_drew1 | refine below_set ?_ GE167.out) | exact HB.out))⟩)
  rintro v175 w33 ⟨hS_, h0_, h1_, h2_⟩
  have n0_ : Aside0 (Kd.R (Kd.int .u8) 5 w33 w.heap.size (fun _ => True) v175 y174) := ⟨h0_⟩
  have n1_ : Aside0 (w33.heap[gb167]? = some (.cells #[.string a0_0, .int .i64 a0_1, .int .i64 a0_2, .int .i64 a0_3, .int .i64 a0_4, .int .i64 a0_5, .int .i64 a0_6] 29 (0, 0))) := ⟨h1_⟩
  have n2_ : Aside0 (Below w.heap.size w w33) := ⟨h2_⟩
  clear BK167
  clear HB
  clear h0_ h1_ h2_
  have HO176 := n0_
  have BK167 := n1_
  have HB := n2_
  clear n0_ n1_ n2_
  have hHeld : w33.cell? ⟨gb167, 0, none⟩ = some (.string a0_0) ∧ w33.cell? ⟨gb167, 1, none⟩ = some (.int .i64 a0_1) ∧ w33.cell? ⟨gb167, 2, none⟩ = some (.int .i64 a0_2) ∧ w33.cell? ⟨gb167, 3, none⟩ = some (.int .i64 a0_3) ∧ w33.cell? ⟨gb167, 4, none⟩ = some (.int .i64 a0_4) ∧ w33.cell? ⟨gb167, 5, none⟩ = some (.int .i64 a0_5) ∧ w33.cell? ⟨gb167, 6, none⟩ = some (.int .i64 a0_6) := hS_
  refine norm_ (a' := ?_) ?_ ?_
  rotate_left
  · simp only [putAll, Act.put, List.setIfInBounds_toArray, List.set_cons_zero, List.set_cons_succ]
    rfl
  refine pure_ (i := 35) (N := some 38) (v := ?_) (a' := ?_) #[true, true, true, true, true, true, true, true, true, true, true, true, true, true, true, true, true, true, true, true, true, true, true, true, true, true, true, true, true, true, true, true, true, true, true, true, false] rfl rfl (any_of HT_.out (by kernel_rfl)) (fun _ _ _ h => h) (Or.inl ⟨by rfl, ?_⟩) ?_ ?_
  rotate_left
  · intro w'
    go_simp
    with_reducible rfl
  rotate_left
  · simp only [Act.put, List.setIfInBounds_toArray, List.set_cons_zero, List.set_cons_succ, i64_w, i32_w]
    rfl
  refine pure_ (i := 36) (N := some 2) (v := ?_) (a' := ?_) #[true, true, true, true, true, true, true, true, true, true, true, true, true, true, true, true, true, true, true, true, true, true, true, true, true, true, true, true, true, true, true, true, true, true, true, true, true] rfl rfl (any_of HT_.out (by kernel_rfl)) (fun _ _ _ h => h) (Or.inl ⟨by rfl, ?_⟩) ?_ ?_
  rotate_left
  · intro w'
    go_simp
    with_reducible rfl
  rotate_left
  · simp only [Act.put, List.setIfInBounds_toArray, List.set_cons_zero, List.set_cons_succ, i64_w, i32_w]
    rfl
  refine done_ (done_of HT_.out (by kernel_rfl)) ?_
  try go_wp2
  go_ret
  exact ⟨by first | rfl | (simp [errW_none, errW_some] <;> rfl) | (simp [*, errW_none, errW_some] <;> rfl), by repeat (first | (with_reducible first | exact HB.out | apply below_alloc | apply pw_below_drewN | apply below_drew1 | refine below_set ?_ GE167.out) | exact HB.out)⟩

end Go.Proofs.YtefdcjmfbjlinaaDoor.A
