-- written by a program (wip/dev/print2.sh): functions of the program as plain Lean, with their contracts
import Derived.Test.YtefdcjmfbjlinaaAx0
import Derived.Test.YtefdcjmfbjlinaaAx1
import Derived.Test.YtefdcjmfbjlinaaAx7
import Derived.Test.YtefdcjmfbjlinaaGivT
import Derived.Test.YtefdcjmfbjlinaaGivB
namespace Go.Proofs.Ytefdcjmfbjlinaa.A
open Go.RowKit Go.Proofs.YtefdcjmfbjlinaaW.PrintWords Go.Proofs.YtefdcjmfbjlinaaW.PrintLast Go.Proofs.YtefdcjmfbjlinaaW.PrintMore
set_option linter.unusedVariables false
set_option linter.unusedSimpArgs false

attribute [local go_sem high] eqA33
/-! ### cadencyref04_CheckAll: function 32 -/
mutual
def cadencyref04_CheckAll.j0 : Nat → List (S33) → Bool → Option (Int × Int)
  | 0, _, _ => none
  | k + 1, x0, x13 => if x13 = true then (some (0, 14)) else (cadencyref04_CheckAll.l0 k x0 0)
def cadencyref04_CheckAll.l0 : Nat → List (S33) → Int → Option (Int × Int)
  | 0, _, _ => none
  | k + 1, x0, x3 => if x3 < (x0.length : Int) then (if 0 ≤ x3 then ((cadencyref04_Check.f k ((rd_T33 x0 x3).f0) ((rd_T33 x0 x3).f1) ((rd_T33 x0 x3).f2) ((rd_T33 x0 x3).f3) ((rd_T33 x0 x3).f4) ((rd_T33 x0 x3).f5) ((rd_T33 x0 x3).f6)).bind fun t207 => (if t207 = 0 then (cadencyref04_CheckAll.l1 k x0 x3 0) else (some (x3, t207)))) else (none)) else (some ((x0.length : Int), 0))
def cadencyref04_CheckAll.l1 : Nat → List (S33) → Int → Int → Option (Int × Int)
  | 0, _, _, _ => none
  | k + 1, x0, x3, x5 => if x5 < x3 then (if 0 ≤ x5 then (if x5 < (x0.length : Int) then (if 0 ≤ x3 then (if x3 < (x0.length : Int) then (if ((rd_T33 x0 x5).f0).toList = ((rd_T33 x0 x3).f0).toList then (some (x3, 13)) else (if ((rd_T33 x0 x5).f6) = ((rd_T33 x0 x3).f6) then (some (x3, 13)) else (cadencyref04_CheckAll.l1 k x0 x3 (wrap64 (x5 + 1))))) else (none)) else (none)) else (none)) else (none)) else (cadencyref04_CheckAll.l0 k x0 (wrap64 (x3 + 1)))
end
def cadencyref04_CheckAll.f (k : Nat) (l0 : List (S33)) : Option (Int × Int) := if (l0.length : Int) = 0 then (cadencyref04_CheckAll.j0 k l0 true) else (cadencyref04_CheckAll.j0 k l0 (decide ((l0.length : Int) > 1024)))
/-! ### cadencyref05_Parse: function 21 -/
def cadencyref05_Parse.f (k : Nat) (a0 : ByteArray) : Option ((List (S33)) × Int × Int) := (cadencyref05_Read.f a0).bind fun bt213 => (if bt213.2.2 = 0 then ((cadencyref04_CheckAll.f k bt213.1).bind fun bt219 => (if bt219.2 = 0 then (some (bt213.1, bt219.1, 0)) else (some (([] : List (S33)), bt219.1, bt219.2)))) else (some (bt213.1, bt213.2.1, bt213.2.2)))
/-! ### cadencyref05_Same: function 22 -/
def cadencyref05_Same.l0 : Nat → List (S33) → List (S33) → Int → Option (Bool)
  | 0, _, _, _ => none
  | k + 1, x0, x1, x5 => if x5 < (x0.length : Int) then (if 0 ≤ x5 then (if x5 < (x1.length : Int) then (if (!((((rd_T33 x0 x5).f0).toList) == (((rd_T33 x1 x5).f0).toList)) || (!(((rd_T33 x0 x5).f1) == ((rd_T33 x1 x5).f1)) || (!(((rd_T33 x0 x5).f2) == ((rd_T33 x1 x5).f2)) || (!(((rd_T33 x0 x5).f3) == ((rd_T33 x1 x5).f3)) || (!(((rd_T33 x0 x5).f4) == ((rd_T33 x1 x5).f4)) || (!(((rd_T33 x0 x5).f5) == ((rd_T33 x1 x5).f5)) || (!(((rd_T33 x0 x5).f6) == ((rd_T33 x1 x5).f6))))))))) = true then (some false) else (cadencyref05_Same.l0 k x0 x1 (wrap64 (x5 + 1)))) else (none)) else (none)) else (some true)
def cadencyref05_Same.f (k : Nat) (l0 : List (S33)) (l1 : List (S33)) : Option (Bool) := if (l0.length : Int) = (l1.length : Int) then (cadencyref05_Same.l0 k l0 l1 0) else (some false)
/-! ### cadencylaw05_parses: function 9 -/
def cadencylaw05_parses.f (k : Nat) (a0 : ByteArray) : Option (Bool) := (text_Read.f a0).bind fun bt224 => ((text_Parse.f a0).bind fun bt229 => ((cadencyref05_Read.f a0).bind fun bt234 => ((cadencyref05_Parse.f k a0).bind fun bt240 => ((cadencyref05_Same.f k bt224.1 bt234.1).bind fun t246 => ((cadencyref05_Same.f k bt229.1 bt240.1).bind fun t247 => (if t246 = true then (if t247 = true then (if bt224.2.1 = bt234.2.1 then (if bt224.2.2 = bt234.2.2 then (if bt229.2.1 = bt240.2.1 then (some (bt229.2.2 == bt240.2.2)) else (some false)) else (some false)) else (some false)) else (some false)) else (some false)))))))
end Go.Proofs.Ytefdcjmfbjlinaa.A
