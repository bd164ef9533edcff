/- The contract of the document's Read, in the form of the printed ones. -/
import Derived.Test.YtefdcjmfbjlinaaGivT
import Derived.Test.YtefdcjmfbjlinaaDread
namespace Go.Proofs.Ytefdcjmfbjlinaa.A
open Go.RowKit Go.Proofs.YtefdcjmfbjlinaaW.PrintWords Go.Proofs.YtefdcjmfbjlinaaW.PrintLast Go.Proofs.YtefdcjmfbjlinaaW.PrintMore

def cadencyref05_Read.f (a0 : ByteArray) : Option (List S33 × Int × Int) := text_Read.f a0
end Go.Proofs.Ytefdcjmfbjlinaa.A
