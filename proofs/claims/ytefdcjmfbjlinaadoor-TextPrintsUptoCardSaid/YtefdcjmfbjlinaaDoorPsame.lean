/- The awake run; rows that are the same; how many tasks a text tells: plain Lean. -/
import Derived.Test.YtefdcjmfbjlinaaDoorPtext
set_option linter.unusedVariables false
set_option linter.unusedSimpArgs false
namespace Go.Proofs.YtefdcjmfbjlinaaDoor.A
open Go.RowKit Go.Proofs.YtefdcjmfbjlinaaDoorW.PrintWords Go.Proofs.YtefdcjmfbjlinaaDoorW.PrintLast Go.Proofs.YtefdcjmfbjlinaaDoorW.PrintMore Go.Proofs.YtefdcjmfbjlinaaDoor.Sc

theorem awake_some : cadencylaw05_awake.f = some true := by decide +kernel
end Go.Proofs.YtefdcjmfbjlinaaDoor.A
