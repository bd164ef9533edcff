-- written by a program (wip/dev/print2.sh): functions of the program as plain Lean, with their contracts
import Derived.Test.YtefdcjmfbjlinaaDoorAx0
import Derived.Test.YtefdcjmfbjlinaaDoorAx4
namespace Go.Proofs.YtefdcjmfbjlinaaDoor.A
open Go.RowKit Go.Proofs.YtefdcjmfbjlinaaDoorW.PrintWords Go.Proofs.YtefdcjmfbjlinaaDoorW.PrintLast Go.Proofs.YtefdcjmfbjlinaaDoorW.PrintMore
set_option linter.unusedVariables false
set_option linter.unusedSimpArgs false

/-! ### cadencyref05_Print: function 10 -/
def cadencyref05_Print.l0 : Nat → List (S29) → ByteArray → Int → Option (ByteArray)
  | 0, _, _, _ => none
  | k + 1, x0, x3, x4 => if x4 < (x0.length : Int) then (if 0 ≤ x4 then ((cadencyref05_Line.f k ((rd_T29 x0 x4).f0) ((rd_T29 x0 x4).f1) ((rd_T29 x0 x4).f2) ((rd_T29 x0 x4).f3) ((rd_T29 x0 x4).f4) ((rd_T29 x0 x4).f5) ((rd_T29 x0 x4).f6)).bind fun t178 => (if x3.size + t178.size ≤ 9223372036854775807 then (cadencyref05_Print.l0 k x0 (x3 ++ t178) (wrap64 (x4 + 1))) else (none))) else (none)) else (some x3)
def cadencyref05_Print.f (k : Nat) (l0 : List (S29)) : Option (ByteArray) := cadencyref05_Print.l0 k l0 (⟨#[]⟩ : ByteArray) 0
end Go.Proofs.YtefdcjmfbjlinaaDoor.A
