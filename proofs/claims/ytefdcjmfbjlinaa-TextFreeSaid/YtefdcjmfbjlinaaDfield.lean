/- The document's field: which one a word is. -/
import Derived.Test.YtefdcjmfbjlinaaDplain
namespace Go.Proofs.Ytefdcjmfbjlinaa.Sc
open Go.RowKit Go.Shelf Go.Maps

end Go.Proofs.Ytefdcjmfbjlinaa.Sc
