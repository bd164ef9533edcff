/- The document's reader: kind, place, text; field. -/
import Derived.Test.YtefdcjmfbjlinaaParse
namespace Go.Proofs.Ytefdcjmfbjlinaa.Sc
open Go.RowKit Go.Shelf Go.Maps

end Go.Proofs.Ytefdcjmfbjlinaa.Sc
/- The document's reader, plain: what its arrays hold, and the task of it. -/
namespace Go.Proofs.Ytefdcjmfbjlinaa.Sc
open Go.RowKit Go.Shelf Go.Maps

def fldJ (l : List UInt8) : Int := match fldI l with | some i => (i : Int) | none => -1
end Go.Proofs.Ytefdcjmfbjlinaa.Sc
