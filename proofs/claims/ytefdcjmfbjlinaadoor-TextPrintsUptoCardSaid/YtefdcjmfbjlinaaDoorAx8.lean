-- written by a program (wip/dev/print2.sh): functions of the program as plain Lean, with their contracts
import Derived.Test.YtefdcjmfbjlinaaDoorAx0
import Derived.Test.YtefdcjmfbjlinaaDoorAx7
namespace Go.Proofs.YtefdcjmfbjlinaaDoor.A
open Go.RowKit Go.Proofs.YtefdcjmfbjlinaaDoorW.PrintWords Go.Proofs.YtefdcjmfbjlinaaDoorW.PrintLast Go.Proofs.YtefdcjmfbjlinaaDoorW.PrintMore
set_option linter.unusedVariables false
set_option linter.unusedSimpArgs false

/-! ### cadencyref04_Check: function 38 -/
mutual
def cadencyref04_Check.j0 : Nat → Bool → ByteArray → Int → Int → Int → Int → Int → Int → Option (Int)
  | 0, _, _, _, _, _, _, _, _ => none
  | k + 1, x60, x204000, x204001, x204002, x204003, x204004, x204005, x204006 => if x60 = true then (some 11) else (if x204005 > x204001 then (cadencyref04_Check.j1 k true) else (if (wrap64 (x204001 + x204004)) > x204003 then (cadencyref04_Check.j1 k true) else (cadencyref04_Check.j1 k (decide (x204003 > x204002)))))
def cadencyref04_Check.j1 : Nat → Bool → Option (Int)
  | 0, _ => none
  | k + 1, x82 => if x82 = true then (some 12) else (some 0)
end
def cadencyref04_Check.f (k : Nat) (a0_0 : ByteArray) (a0_1 : Int) (a0_2 : Int) (a0_3 : Int) (a0_4 : Int) (a0_5 : Int) (a0_6 : Int) : Option (Int) := (cadencyref03_Word.f a0_0).bind fun t204 => (if t204 = true then (if (a0_0.size : Int) > 32 then (cadencyref04_Check.j0 k true a0_0 a0_1 a0_2 a0_3 a0_4 a0_5 a0_6) else ((cadencyref04_in.f a0_1 1 2147483647).bind fun t205 => (if t205 = true then ((cadencyref04_in.f a0_2 1 2147483647).bind fun t206 => (if t206 = true then ((cadencyref04_in.f a0_3 1 2147483647).bind fun t207 => (if t207 = true then ((cadencyref04_in.f a0_5 1 2147483647).bind fun t208 => (if t208 = true then ((cadencyref04_in.f a0_4 0 2147483647).bind fun t209 => (if t209 = true then (if a0_6 < 1 then (cadencyref04_Check.j0 k true a0_0 a0_1 a0_2 a0_3 a0_4 a0_5 a0_6) else (cadencyref04_Check.j0 k (decide (a0_6 > 1048576)) a0_0 a0_1 a0_2 a0_3 a0_4 a0_5 a0_6)) else (cadencyref04_Check.j0 k true a0_0 a0_1 a0_2 a0_3 a0_4 a0_5 a0_6))) else (cadencyref04_Check.j0 k true a0_0 a0_1 a0_2 a0_3 a0_4 a0_5 a0_6))) else (cadencyref04_Check.j0 k true a0_0 a0_1 a0_2 a0_3 a0_4 a0_5 a0_6))) else (cadencyref04_Check.j0 k true a0_0 a0_1 a0_2 a0_3 a0_4 a0_5 a0_6))) else (cadencyref04_Check.j0 k true a0_0 a0_1 a0_2 a0_3 a0_4 a0_5 a0_6)))) else (cadencyref04_Check.j0 k true a0_0 a0_1 a0_2 a0_3 a0_4 a0_5 a0_6))
end Go.Proofs.YtefdcjmfbjlinaaDoor.A
