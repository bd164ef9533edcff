-- written by a program (wip/dev/print2.sh): functions of the program as plain Lean, with their contracts
import Derived.Test.YtefdcjmfbjlinaaDoorAx0
import Derived.Test.YtefdcjmfbjlinaaDoorAx7
import Derived.Test.YtefdcjmfbjlinaaDoorGivT
import Derived.Test.YtefdcjmfbjlinaaDoorGivP
namespace Go.Proofs.YtefdcjmfbjlinaaDoor.A
open Go.RowKit Go.Proofs.YtefdcjmfbjlinaaDoorW.PrintWords Go.Proofs.YtefdcjmfbjlinaaDoorW.PrintLast Go.Proofs.YtefdcjmfbjlinaaDoorW.PrintMore
set_option linter.unusedVariables false
set_option linter.unusedSimpArgs false

/-! ### cadencylaw05_again: function 14 -/
def cadencylaw05_again.f (k : Nat) (a0 : ByteArray) : Option (Bool) := (text_Parse.f a0).bind fun bt238 => (if bt238.2.2 = 0 then ((text_Print.f bt238.1).bind fun t243 => ((text_Parse.f t243).bind fun bt244 => ((cadencyref05_Same.f k bt238.1 bt244.1).bind fun t249 => (if bt244.2.2 = 0 then (if t249 = true then ((text_Print.f bt244.1).bind fun t250 => (some (t250.toList == t243.toList))) else (some false)) else (some false))))) else (some ((bt238.1.length : Int) == 0)))
/-! ### cadencylaw05_short: function 15 -/
def cadencylaw05_short.f (a0 : ByteArray) : Option (ByteArray) := if (a0.size : Int) > 200 then (if 0 ≤ 200 then (if 200 ≤ (a0.size : Int) then (some (a0.extract 0 200)) else (none)) else (none)) else (some a0)
/-! ### cadencylaw05_rest: function 29 -/
def cadencylaw05_rest.f (a0 : Int) (a1 : Int) : Option (Int) := if a1 = 0 then (none) else (some (Int.tmod (wrap64 ((Int.tmod a0 a1) + a1)) a1))
/-! ### cadencylaw05_spoilt: function 16 -/
def cadencylaw05_spoilt.f (a0 : ByteArray) (a1_0 : Int) (a1_1 : Int) (a1_2 : Int) : Option (ByteArray) := if a0.toList = ([] : List UInt8) then (some (strOfNums (([(a1_2) % 256] : List Int)))) else ((cadencylaw05_rest.f a1_1 (a0.size : Int)).bind fun t255 => ((some (([(a1_2) % 256] : List Int) : List Int)).bind fun y256 => ((cadencylaw05_rest.f a1_0 3).bind fun t259 => (if t259 = 0 then (if 0 ≤ t255 then (if t255 ≤ (a0.size : Int) then (if (a0.extract 0 (t255 : Int).toNat).size + (strOfNums y256).size ≤ 9223372036854775807 then (if 0 ≤ (wrap64 (t255 + 1)) then (if (wrap64 (t255 + 1)) ≤ (a0.size : Int) then (if ((a0.extract 0 (t255 : Int).toNat) ++ (strOfNums y256)).size + (a0.extract ((wrap64 (t255 + 1)) : Int).toNat a0.size).size ≤ 9223372036854775807 then (some (((a0.extract 0 (t255 : Int).toNat) ++ (strOfNums y256)) ++ (a0.extract ((wrap64 (t255 + 1)) : Int).toNat a0.size))) else (none)) else (none)) else (none)) else (none)) else (none)) else (none)) else (if t259 = 1 then (if 0 ≤ t255 then (if t255 ≤ (a0.size : Int) then (if 0 ≤ (wrap64 (t255 + 1)) then (if (wrap64 (t255 + 1)) ≤ (a0.size : Int) then (if (a0.extract 0 (t255 : Int).toNat).size + (a0.extract ((wrap64 (t255 + 1)) : Int).toNat a0.size).size ≤ 9223372036854775807 then (some ((a0.extract 0 (t255 : Int).toNat) ++ (a0.extract ((wrap64 (t255 + 1)) : Int).toNat a0.size))) else (none)) else (none)) else (none)) else (none)) else (none)) else (if 0 ≤ t255 then (if t255 ≤ (a0.size : Int) then (if (a0.extract 0 (t255 : Int).toNat).size + (strOfNums y256).size ≤ 9223372036854775807 then (if ((a0.extract 0 (t255 : Int).toNat) ++ (strOfNums y256)).size + (a0.extract (t255 : Int).toNat a0.size).size ≤ 9223372036854775807 then (some (((a0.extract 0 (t255 : Int).toNat) ++ (strOfNums y256)) ++ (a0.extract (t255 : Int).toNat a0.size))) else (none)) else (none)) else (none)) else (none)))))))
end Go.Proofs.YtefdcjmfbjlinaaDoor.A
