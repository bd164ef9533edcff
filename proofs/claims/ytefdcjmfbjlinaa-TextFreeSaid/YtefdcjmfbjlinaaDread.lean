/- The document's Read. -/
import Derived.Test.YtefdcjmfbjlinaaDread0
namespace Go.Proofs.Ytefdcjmfbjlinaa.Sc
open Go.RowKit Go.Shelf Go.Maps

end Go.Proofs.Ytefdcjmfbjlinaa.Sc
