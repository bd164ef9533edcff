-- written by a program (wip/dev/print2.sh): functions of the program as plain Lean, with their contracts
import Derived.Test.YtefdcjmfbjlinaaAx0
import Derived.Test.YtefdcjmfbjlinaaAx6
namespace Go.Proofs.Ytefdcjmfbjlinaa.A
open Go.RowKit Go.Proofs.YtefdcjmfbjlinaaW.PrintWords Go.Proofs.YtefdcjmfbjlinaaW.PrintLast Go.Proofs.YtefdcjmfbjlinaaW.PrintMore
set_option linter.unusedVariables false
set_option linter.unusedSimpArgs false

/-! ### cadencyref04_Check: function 42 -/
mutual
def cadencyref04_Check.j0 : Nat → Bool → ByteArray → Int → Int → Int → Int → Int → Int → Option (Int)
  | 0, _, _, _, _, _, _, _, _ => none
  | k + 1, x60, x199000, x199001, x199002, x199003, x199004, x199005, x199006 => if x60 = true then (some 11) else (if x199005 > x199001 then (cadencyref04_Check.j1 k true) else (if (wrap64 (x199001 + x199004)) > x199003 then (cadencyref04_Check.j1 k true) else (cadencyref04_Check.j1 k (decide (x199003 > x199002)))))
def cadencyref04_Check.j1 : Nat → Bool → Option (Int)
  | 0, _ => none
  | k + 1, x82 => if x82 = true then (some 12) else (some 0)
end
def cadencyref04_Check.f (k : Nat) (a0_0 : ByteArray) (a0_1 : Int) (a0_2 : Int) (a0_3 : Int) (a0_4 : Int) (a0_5 : Int) (a0_6 : Int) : Option (Int) := (cadencyref03_Word.f a0_0).bind fun t199 => (if t199 = true then (if (a0_0.size : Int) > 32 then (cadencyref04_Check.j0 k true a0_0 a0_1 a0_2 a0_3 a0_4 a0_5 a0_6) else ((cadencyref04_in.f a0_1 1 2147483647).bind fun t200 => (if t200 = true then ((cadencyref04_in.f a0_2 1 2147483647).bind fun t201 => (if t201 = true then ((cadencyref04_in.f a0_3 1 2147483647).bind fun t202 => (if t202 = true then ((cadencyref04_in.f a0_5 1 2147483647).bind fun t203 => (if t203 = true then ((cadencyref04_in.f a0_4 0 2147483647).bind fun t204 => (if t204 = true then (if a0_6 < 1 then (cadencyref04_Check.j0 k true a0_0 a0_1 a0_2 a0_3 a0_4 a0_5 a0_6) else (cadencyref04_Check.j0 k (decide (a0_6 > 1048576)) a0_0 a0_1 a0_2 a0_3 a0_4 a0_5 a0_6)) else (cadencyref04_Check.j0 k true a0_0 a0_1 a0_2 a0_3 a0_4 a0_5 a0_6))) else (cadencyref04_Check.j0 k true a0_0 a0_1 a0_2 a0_3 a0_4 a0_5 a0_6))) else (cadencyref04_Check.j0 k true a0_0 a0_1 a0_2 a0_3 a0_4 a0_5 a0_6))) else (cadencyref04_Check.j0 k true a0_0 a0_1 a0_2 a0_3 a0_4 a0_5 a0_6))) else (cadencyref04_Check.j0 k true a0_0 a0_1 a0_2 a0_3 a0_4 a0_5 a0_6)))) else (cadencyref04_Check.j0 k true a0_0 a0_1 a0_2 a0_3 a0_4 a0_5 a0_6))
end Go.Proofs.Ytefdcjmfbjlinaa.A
