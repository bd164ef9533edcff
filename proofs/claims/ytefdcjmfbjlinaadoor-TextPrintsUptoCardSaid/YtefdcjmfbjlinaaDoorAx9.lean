-- written by a program (wip/dev/print2.sh): functions of the program as plain Lean, with their contracts
import Derived.Test.YtefdcjmfbjlinaaDoorAx0
import Derived.Test.YtefdcjmfbjlinaaDoorAx2
import Derived.Test.YtefdcjmfbjlinaaDoorAx3
import Derived.Test.YtefdcjmfbjlinaaDoorAx7
import Derived.Test.YtefdcjmfbjlinaaDoorAx8
import Derived.Test.YtefdcjmfbjlinaaDoorGivT
import Derived.Test.YtefdcjmfbjlinaaDoorGivP
namespace Go.Proofs.YtefdcjmfbjlinaaDoor.A
open Go.RowKit Go.Proofs.YtefdcjmfbjlinaaDoorW.PrintWords Go.Proofs.YtefdcjmfbjlinaaDoorW.PrintLast Go.Proofs.YtefdcjmfbjlinaaDoorW.PrintMore
set_option linter.unusedVariables false
set_option linter.unusedSimpArgs false

/-! ### cadencyref04_CheckAll: function 28 -/
mutual
def cadencyref04_CheckAll.j0 : Nat → List (S29) → Bool → Option (Int × Int)
  | 0, _, _ => none
  | k + 1, x0, x13 => if x13 = true then (some (0, 14)) else (cadencyref04_CheckAll.l0 k x0 0)
def cadencyref04_CheckAll.l0 : Nat → List (S29) → Int → Option (Int × Int)
  | 0, _, _ => none
  | k + 1, x0, x3 => if x3 < (x0.length : Int) then (if 0 ≤ x3 then ((cadencyref04_Check.f k ((rd_T29 x0 x3).f0) ((rd_T29 x0 x3).f1) ((rd_T29 x0 x3).f2) ((rd_T29 x0 x3).f3) ((rd_T29 x0 x3).f4) ((rd_T29 x0 x3).f5) ((rd_T29 x0 x3).f6)).bind fun t212 => (if t212 = 0 then (cadencyref04_CheckAll.l1 k x0 x3 0) else (some (x3, t212)))) else (none)) else (some ((x0.length : Int), 0))
def cadencyref04_CheckAll.l1 : Nat → List (S29) → Int → Int → Option (Int × Int)
  | 0, _, _, _ => none
  | k + 1, x0, x3, x5 => if x5 < x3 then (if 0 ≤ x5 then (if x5 < (x0.length : Int) then (if 0 ≤ x3 then (if x3 < (x0.length : Int) then (if ((rd_T29 x0 x5).f0).toList = ((rd_T29 x0 x3).f0).toList then (some (x3, 13)) else (if ((rd_T29 x0 x5).f6) = ((rd_T29 x0 x3).f6) then (some (x3, 13)) else (cadencyref04_CheckAll.l1 k x0 x3 (wrap64 (x5 + 1))))) else (none)) else (none)) else (none)) else (none)) else (cadencyref04_CheckAll.l0 k x0 (wrap64 (x3 + 1)))
end
def cadencyref04_CheckAll.f (k : Nat) (l0 : List (S29)) : Option (Int × Int) := if (l0.length : Int) = 0 then (cadencyref04_CheckAll.j0 k l0 true) else (cadencyref04_CheckAll.j0 k l0 (decide ((l0.length : Int) > 1024)))
/-! ### cadencylaw05_back: function 13 -/
def cadencylaw05_back.f (k : Nat) (l0 : List (S29)) : Option (Bool) := (cadencyref04_CheckAll.f k l0).bind fun bt217 => (if bt217.2 = 0 then ((text_Print.f l0).bind fun t220 => ((text_Parse.f t220).bind fun bt221 => ((cadencyref05_Same.f k bt221.1 l0).bind fun t226 => (if bt221.2.2 = 0 then (if bt221.2.1 = (l0.length : Int) then (some t226) else (some false)) else (some false))))) else (some true))
/-! ### cadencylaw05_TextBack: function 4 -/
def cadencylaw05_TextBack.j0 : Nat → List (S29) → List (S43) → Int → Bool → Option (Bool)
  | 0, _, _, _, _ => none
  | k + 1, x0, x1, x2, x7 => if x7 = true then ((cadencylaw05_back.f k x0).bind fun t233 => (if t233 = true then ((cadencyref04_Set.f k x1 6 x2).bind fun t234 => ((cadencylaw05_back.f k t234).bind fun t237 => (some t237))) else (some false))) else (some false)
def cadencylaw05_TextBack.f (k : Nat) (l0 : List (S29)) (l1 : List (S43)) (a2 : Int) : Option (Bool) := (cadencylaw05_awake.f).bind fun t227 => (if (l0.length : Int) > 6 then (if 6 ≤ (l0.length : Int) then (cadencylaw05_TextBack.j0 k (l0.take 6) l1 a2 t227) else (none)) else (cadencylaw05_TextBack.j0 k l0 l1 a2 t227))
end Go.Proofs.YtefdcjmfbjlinaaDoor.A
