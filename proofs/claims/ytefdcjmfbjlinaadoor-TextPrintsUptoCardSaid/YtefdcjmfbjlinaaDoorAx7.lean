-- written by a program (wip/dev/print2.sh): functions of the program as plain Lean, with their contracts
import Derived.Test.YtefdcjmfbjlinaaDoorAx0
import Derived.Test.YtefdcjmfbjlinaaDoorAx1
import Derived.Test.YtefdcjmfbjlinaaDoorGivO
namespace Go.Proofs.YtefdcjmfbjlinaaDoor.A
open Go.RowKit Go.Proofs.YtefdcjmfbjlinaaDoorW.PrintWords Go.Proofs.YtefdcjmfbjlinaaDoorW.PrintLast Go.Proofs.YtefdcjmfbjlinaaDoorW.PrintMore
set_option linter.unusedVariables false
set_option linter.unusedSimpArgs false

attribute [local go_sem high] eqA29
/-! ### cadencyref05_Same: function 18 -/
def cadencyref05_Same.l0 : Nat → List (S29) → List (S29) → Int → Option (Bool)
  | 0, _, _, _ => none
  | k + 1, x0, x1, x5 => if x5 < (x0.length : Int) then (if 0 ≤ x5 then (if x5 < (x1.length : Int) then (if (!((((rd_T29 x0 x5).f0).toList) == (((rd_T29 x1 x5).f0).toList)) || (!(((rd_T29 x0 x5).f1) == ((rd_T29 x1 x5).f1)) || (!(((rd_T29 x0 x5).f2) == ((rd_T29 x1 x5).f2)) || (!(((rd_T29 x0 x5).f3) == ((rd_T29 x1 x5).f3)) || (!(((rd_T29 x0 x5).f4) == ((rd_T29 x1 x5).f4)) || (!(((rd_T29 x0 x5).f5) == ((rd_T29 x1 x5).f5)) || (!(((rd_T29 x0 x5).f6) == ((rd_T29 x1 x5).f6))))))))) = true then (some false) else (cadencyref05_Same.l0 k x0 x1 (wrap64 (x5 + 1)))) else (none)) else (none)) else (some true)
def cadencyref05_Same.f (k : Nat) (l0 : List (S29)) (l1 : List (S29)) : Option (Bool) := if (l0.length : Int) = (l1.length : Int) then (cadencyref05_Same.l0 k l0 l1 0) else (some false)
/-! ### cadencyref03_letter: function 77 -/
def cadencyref03_letter.f (a0 : Int) : Option (Bool) := if a0 ≥ 97 then (if a0 ≤ 122 then (some true) else (if a0 ≥ 65 then (if a0 ≤ 90 then (some true) else (some (a0 == 95))) else (some (a0 == 95)))) else (if a0 ≥ 65 then (if a0 ≤ 90 then (some true) else (some (a0 == 95))) else (some (a0 == 95)))
/-! ### cadencyref03_digit: function 78 -/
def cadencyref03_digit.f (a0 : Int) : Option (Bool) := if a0 ≥ 48 then (some (decide (a0 ≤ 57))) else (some false)
/-! ### cadencyref03_Word: function 50 -/
def cadencyref03_Word.f (a0 : ByteArray) : Option (Bool) := if a0.toList = ([] : List UInt8) then (some false) else ((cadencyref03_one.f a0 0).bind fun bt198 => (if bt198.1 = 1 then (some (bt198.2.2.1.toList == a0.toList)) else (some false)))
/-! ### cadencyref04_in: function 51 -/
def cadencyref04_in.f (a0 : Int) (a1 : Int) (a2 : Int) : Option (Bool) := if a0 ≥ a1 then (some (decide (a0 ≤ a2))) else (some false)
end Go.Proofs.YtefdcjmfbjlinaaDoor.A
