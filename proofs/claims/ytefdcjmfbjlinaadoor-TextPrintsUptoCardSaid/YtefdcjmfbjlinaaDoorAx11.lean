-- written by a program (wip/dev/print2.sh): functions of the program as plain Lean, with their contracts
import Derived.Test.YtefdcjmfbjlinaaDoorAx0
import Derived.Test.YtefdcjmfbjlinaaDoorAx2
import Derived.Test.YtefdcjmfbjlinaaDoorAx3
import Derived.Test.YtefdcjmfbjlinaaDoorAx7
import Derived.Test.YtefdcjmfbjlinaaDoorAx10
import Derived.Test.YtefdcjmfbjlinaaDoorGivT
import Derived.Test.YtefdcjmfbjlinaaDoorGivP
namespace Go.Proofs.YtefdcjmfbjlinaaDoor.A
open Go.RowKit Go.Proofs.YtefdcjmfbjlinaaDoorW.PrintWords Go.Proofs.YtefdcjmfbjlinaaDoorW.PrintLast Go.Proofs.YtefdcjmfbjlinaaDoorW.PrintMore
set_option linter.unusedVariables false
set_option linter.unusedSimpArgs false

/-! ### cadencylaw05_TextAgain: function 5 -/
def cadencylaw05_TextAgain.f (k : Nat) (a0 : ByteArray) (l1 : List (S43)) (a2_0 : Int) (a2_1 : Int) (a2_2 : Int) : Option (Bool) := (cadencylaw05_awake.f).bind fun t261 => (if t261 = true then ((cadencylaw05_short.f a0).bind fun t262 => ((cadencylaw05_again.f k t262).bind fun t263 => (if t263 = true then ((cadencyref04_Set.f k l1 6 a2_1).bind fun t264 => ((text_Print.f t264).bind fun t267 => ((cadencylaw05_spoilt.f t267 a2_0 a2_1 a2_2).bind fun t268 => ((cadencylaw05_again.f k t268).bind fun t269 => (some t269))))) else (some false)))) else (some false))
/-! ### cadencylaw05_TextJoins: function 6 -/
def cadencylaw05_TextJoins.f (k : Nat) (l0 : List (S43)) (l1 : List (S43)) (a2 : Int) : Option (Bool) := (cadencylaw05_awake.f).bind fun t270 => ((cadencyref04_Set.f k l0 5 a2).bind fun t271 => ((cadencyref04_Set.f k l1 5 a2).bind fun t274 => ((some (([] : List (S29)) : List (S29))).bind fun y277 => (if y277.length + t271.length < 2199023255552 then ((some (y277 ++ t271 : List (S29))).bind fun y280 => (if y280.length + t274.length < 2199023255552 then ((some (y280 ++ t274 : List (S29))).bind fun y283 => ((text_Print.f t271).bind fun t286 => ((text_Print.f t274).bind fun t287 => (if t286.size + t287.size ≤ 9223372036854775807 then ((text_Read.f (t286 ++ t287)).bind fun bt288 => ((cadencyref05_Same.f k bt288.1 y283).bind fun t293 => (if t270 = true then ((text_Print.f y283).bind fun t294 => (if (t286 ++ t287).toList = t294.toList then (if bt288.2.2 = 0 then (if bt288.2.1 = ((t286 ++ t287).size : Int) then (some t293) else (some false)) else (some false)) else (some false))) else (some false)))) else (none))))) else (none))) else (none)))))
end Go.Proofs.YtefdcjmfbjlinaaDoor.A
