/- TextParses, the plain part. -/
import Derived.Test.YtefdcjmfbjlinaaPtext
import Derived.Test.YtefdcjmfbjlinaaAx10
set_option linter.unusedVariables false
set_option linter.unusedSimpArgs false
namespace Go.Proofs.Ytefdcjmfbjlinaa.A
open Go.RowKit Go.Proofs.YtefdcjmfbjlinaaW.PrintWords Go.Proofs.YtefdcjmfbjlinaaW.PrintLast Go.Proofs.YtefdcjmfbjlinaaW.PrintMore Go.Proofs.Ytefdcjmfbjlinaa.Sc

theorem awake_some : cadencylaw05_awake.f = some true := by decide +kernel
end Go.Proofs.Ytefdcjmfbjlinaa.A
