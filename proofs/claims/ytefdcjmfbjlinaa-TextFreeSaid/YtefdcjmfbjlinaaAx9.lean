-- written by a program (wip/dev/print2.sh): functions of the program as plain Lean, with their contracts
import Derived.Test.YtefdcjmfbjlinaaAx0
namespace Go.Proofs.Ytefdcjmfbjlinaa.A
open Go.RowKit Go.Proofs.YtefdcjmfbjlinaaW.PrintWords Go.Proofs.YtefdcjmfbjlinaaW.PrintLast Go.Proofs.YtefdcjmfbjlinaaW.PrintMore
set_option linter.unusedVariables false
set_option linter.unusedSimpArgs false

/-! ### cadencylaw05_short: function 10 -/
def cadencylaw05_short.f (a0 : ByteArray) : Option (ByteArray) := if (a0.size : Int) > 200 then (if 0 ≤ 200 then (if 200 ≤ (a0.size : Int) then (some (a0.extract 0 200)) else (none)) else (none)) else (some a0)
/-! ### cadencylaw05_rest: function 13 -/
def cadencylaw05_rest.f (a0 : Int) (a1 : Int) : Option (Int) := if a1 = 0 then (none) else (some (Int.tmod (wrap64 ((Int.tmod a0 a1) + a1)) a1))
set_option maxHeartbeats 8000000 in
set_option maxRecDepth 100000 in
theorem cadencylaw05_rest.calls (a0 : Int) (a1 : Int) (r : Int) (w : World) (h : cadencylaw05_rest.f a0 a1 = some r) :
    Calls Try.prog 13 #[.int .i64 a0, .int .i64 a1] w fun e w' => e = .returned (.int .i64 r) ∧ Drawn0 w w' := by
  have H : (if a1 = 0 then (none) else (some (Int.tmod (wrap64 ((Int.tmod a0 a1) + a1)) a1))) = some r := h
  clear h
  by_cases c3 : a1 = 0
  · rw [if_pos c3] at H
    exact absurd H (by simp)
  · rw [if_neg c3] at H
    have c3b0 : (a1 == 0) = false := beq_eq_false_iff_ne.mpr c3
    have c3b1 : (a1 != 0) = true := bne_iff_ne.mpr c3
    obtain rfl := Option.some.inj H
    go_enter Try.func13, Try.ntmps13
    go_wp2
    go_ret
    exact ⟨by first | rfl | (simp; done) | (simp [*]; done), by repeat (first | exact Drawn0.refl _ | apply Drawn0.step)⟩

/-! ### cadencylaw05_spoilt: function 11 -/
def cadencylaw05_spoilt.f (a0 : ByteArray) (a1_0 : Int) (a1_1 : Int) (a1_2 : Int) : Option (ByteArray) := if a0.toList = ([] : List UInt8) then (some (strOfNums (([(a1_2) % 256] : List Int)))) else ((cadencylaw05_rest.f a1_1 (a0.size : Int)).bind fun t252 => ((some (([(a1_2) % 256] : List Int) : List Int)).bind fun y253 => ((cadencylaw05_rest.f a1_0 3).bind fun t256 => (if t256 = 0 then (if 0 ≤ t252 then (if t252 ≤ (a0.size : Int) then (if (a0.extract 0 (t252 : Int).toNat).size + (strOfNums y253).size ≤ 9223372036854775807 then (if 0 ≤ (wrap64 (t252 + 1)) then (if (wrap64 (t252 + 1)) ≤ (a0.size : Int) then (if ((a0.extract 0 (t252 : Int).toNat) ++ (strOfNums y253)).size + (a0.extract ((wrap64 (t252 + 1)) : Int).toNat a0.size).size ≤ 9223372036854775807 then (some (((a0.extract 0 (t252 : Int).toNat) ++ (strOfNums y253)) ++ (a0.extract ((wrap64 (t252 + 1)) : Int).toNat a0.size))) else (none)) else (none)) else (none)) else (none)) else (none)) else (none)) else (if t256 = 1 then (if 0 ≤ t252 then (if t252 ≤ (a0.size : Int) then (if 0 ≤ (wrap64 (t252 + 1)) then (if (wrap64 (t252 + 1)) ≤ (a0.size : Int) then (if (a0.extract 0 (t252 : Int).toNat).size + (a0.extract ((wrap64 (t252 + 1)) : Int).toNat a0.size).size ≤ 9223372036854775807 then (some ((a0.extract 0 (t252 : Int).toNat) ++ (a0.extract ((wrap64 (t252 + 1)) : Int).toNat a0.size))) else (none)) else (none)) else (none)) else (none)) else (none)) else (if 0 ≤ t252 then (if t252 ≤ (a0.size : Int) then (if (a0.extract 0 (t252 : Int).toNat).size + (strOfNums y253).size ≤ 9223372036854775807 then (if ((a0.extract 0 (t252 : Int).toNat) ++ (strOfNums y253)).size + (a0.extract (t252 : Int).toNat a0.size).size ≤ 9223372036854775807 then (some (((a0.extract 0 (t252 : Int).toNat) ++ (strOfNums y253)) ++ (a0.extract (t252 : Int).toNat a0.size))) else (none)) else (none)) else (none)) else (none)))))))
end Go.Proofs.Ytefdcjmfbjlinaa.A
