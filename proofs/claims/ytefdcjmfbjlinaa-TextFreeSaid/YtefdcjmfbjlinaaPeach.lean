/- The document's Each, printed: what it comes to. Tokens in the print's form. -/
import Derived.Test.YtefdcjmfbjlinaaAx6
namespace Go.Proofs.Ytefdcjmfbjlinaa.A
open Go.RowKit Go.Proofs.YtefdcjmfbjlinaaW.PrintWords Go.Proofs.YtefdcjmfbjlinaaW.PrintLast Go.Proofs.YtefdcjmfbjlinaaW.PrintMore Go.Proofs.Ytefdcjmfbjlinaa.Sc

end Go.Proofs.Ytefdcjmfbjlinaa.A
