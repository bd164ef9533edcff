-- written by a program (wip/dev/print2.sh): functions of the program as plain Lean, with their contracts
import Derived.Test.YtefdcjmfbjlinaaAx0
import Derived.Test.YtefdcjmfbjlinaaAx2
import Derived.Test.YtefdcjmfbjlinaaAx4
import Derived.Test.YtefdcjmfbjlinaaAx5
import Derived.Test.YtefdcjmfbjlinaaAx8
import Derived.Test.YtefdcjmfbjlinaaAx9
namespace Go.Proofs.Ytefdcjmfbjlinaa.A
open Go.RowKit Go.Proofs.YtefdcjmfbjlinaaW.PrintWords Go.Proofs.YtefdcjmfbjlinaaW.PrintLast Go.Proofs.YtefdcjmfbjlinaaW.PrintMore
set_option linter.unusedVariables false
set_option linter.unusedSimpArgs false

/-! ### cadencylaw05_TextParses: function 3 -/
def cadencylaw05_TextParses.f (k : Nat) (a0 : ByteArray) (l1 : List (S43)) (a2_0 : Int) (a2_1 : Int) (a2_2 : Int) : Option (Bool) := (cadencylaw05_awake.f).bind fun t258 => ((cadencyref04_Set.f k l1 6 a2_1).bind fun t259 => ((cadencyref05_Print.f k t259).bind fun t262 => (if t258 = true then ((cadencylaw05_short.f a0).bind fun t263 => ((cadencylaw05_parses.f k t263).bind fun t264 => (if t264 = true then ((cadencylaw05_parses.f k t262).bind fun t265 => (if t265 = true then ((cadencylaw05_spoilt.f t262 a2_0 a2_1 a2_2).bind fun t266 => ((cadencylaw05_parses.f k t266).bind fun t267 => (if t267 = true then ((cadencylaw05_short.f a0).bind fun t268 => (if t262.size + t268.size ≤ 9223372036854775807 then ((cadencylaw05_spoilt.f (t262 ++ t268) a2_0 a2_1 a2_2).bind fun t269 => ((cadencylaw05_parses.f k t269).bind fun t270 => (some t270))) else (none))) else (some false)))) else (some false))) else (some false)))) else (some false))))
end Go.Proofs.Ytefdcjmfbjlinaa.A
