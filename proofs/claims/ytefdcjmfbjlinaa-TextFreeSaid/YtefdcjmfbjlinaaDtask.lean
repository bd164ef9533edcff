/- The document's reader: a line's task. -/
import Derived.Test.YtefdcjmfbjlinaaDfield
namespace Go.Proofs.Ytefdcjmfbjlinaa.Sc
open Go.RowKit Go.Shelf Go.Maps

end Go.Proofs.Ytefdcjmfbjlinaa.Sc
