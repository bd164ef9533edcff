/- The document's Word, Check and CheckAll tell what the program's do: plain Lean. -/
import Derived.Test.YtefdcjmfbjlinaaAx8
import Derived.Test.YtefdcjmfbjlinaaPeach
import Derived.Test.YtefdcjmfbjlinaaCheckall
set_option linter.unusedVariables false
set_option linter.unusedSimpArgs false
namespace Go.Proofs.Ytefdcjmfbjlinaa.A
open Go.RowKit Go.Proofs.YtefdcjmfbjlinaaW.PrintWords Go.Proofs.YtefdcjmfbjlinaaW.PrintLast Go.Proofs.YtefdcjmfbjlinaaW.PrintMore Go.Proofs.Ytefdcjmfbjlinaa.Sc

def toT (x : S33) : Tsk := ⟨x.f0, x.f1, x.f2, x.f3, x.f4, x.f5, x.f6⟩
theorem rd46 (l : List S33) (i : Nat) (x : S33) (h : l[i]? = some x) : rd_T33 l (i : Int) = x := by
  unfold rd_T33
  rw [List.getD_eq_getElem?_getD]
  simp [h]
end Go.Proofs.Ytefdcjmfbjlinaa.A
