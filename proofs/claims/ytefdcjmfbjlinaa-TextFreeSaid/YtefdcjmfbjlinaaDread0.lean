/- The document's Read: what tokens are, and rows of them in the print's form. -/
import Derived.Test.YtefdcjmfbjlinaaPeach
import Derived.Test.YtefdcjmfbjlinaaDtask
import Derived.Test.YtefdcjmfbjlinaaParse
namespace Go.Proofs.Ytefdcjmfbjlinaa.A
open Go.RowKit Go.Proofs.YtefdcjmfbjlinaaW.PrintWords Go.Proofs.YtefdcjmfbjlinaaW.PrintLast Go.Proofs.YtefdcjmfbjlinaaW.PrintMore Go.Proofs.Ytefdcjmfbjlinaa.Sc

theorem knd_let {c : UInt8} (h : isLet c = true) : knd c = 1 := by simp [knd, h]
end Go.Proofs.Ytefdcjmfbjlinaa.A
