/- The document's Word, Check and CheckAll tell what the program's do: plain Lean. -/
import Derived.Test.YtefdcjmfbjlinaaDoorAx9
import Derived.Test.YtefdcjmfbjlinaaDoorGivO
import Derived.Test.YtefdcjmfbjlinaaDoorCheckall
set_option linter.unusedVariables false
set_option linter.unusedSimpArgs false
namespace Go.Proofs.YtefdcjmfbjlinaaDoor.A
open Go.RowKit Go.Proofs.YtefdcjmfbjlinaaDoorW.PrintWords Go.Proofs.YtefdcjmfbjlinaaDoorW.PrintLast Go.Proofs.YtefdcjmfbjlinaaDoorW.PrintMore Go.Proofs.YtefdcjmfbjlinaaDoor.Sc

theorem rd46 (l : List S29) (i : Nat) (x : S29) (h : l[i]? = some x) : rd_T29 l (i : Int) = x := by
  unfold rd_T29
  rw [List.getD_eq_getElem?_getD]
  simp [h]
end Go.Proofs.YtefdcjmfbjlinaaDoor.A
