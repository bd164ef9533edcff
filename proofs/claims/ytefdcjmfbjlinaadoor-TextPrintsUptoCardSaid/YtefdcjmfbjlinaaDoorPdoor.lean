/- The laws of what is printed, plain: printed tasks are read back; what is parsed, printed and parsed again is the same. -/
import Derived.Test.YtefdcjmfbjlinaaDoorPlx2
import Derived.Test.YtefdcjmfbjlinaaDoorPsame
import Derived.Test.YtefdcjmfbjlinaaDoorGivP
import Derived.Test.YtefdcjmfbjlinaaDoorAx9
import Derived.Test.YtefdcjmfbjlinaaDoorAx11
set_option linter.unusedVariables false
set_option linter.unusedSimpArgs false
namespace Go.Proofs.YtefdcjmfbjlinaaDoor.A
open Go.RowKit Go.Proofs.YtefdcjmfbjlinaaDoorW.PrintWords Go.Proofs.YtefdcjmfbjlinaaDoorW.PrintLast Go.Proofs.YtefdcjmfbjlinaaDoorW.PrintMore Go.Proofs.YtefdcjmfbjlinaaDoor.Sc

theorem dec_dig (n : Nat) : Lib.decDigits n = dig n := by
  induction n using Nat.strongRecOn with
  | ind n ih =>
  rw [Lib.decDigits, dig]
  by_cases h : n < 10
  · rw [dif_pos h, if_pos h]
  · rw [dif_neg h, if_neg h, ih (n / 10) (by omega)]
theorem ba_ext {a b : ByteArray} (h : a.data.toList = b.data.toList) : a = b := by
  apply ByteArray.ext
  exact Array.toList_inj.1 h
theorem good_wide {x : S29} (h : GoodT (toT x)) : wideB x = true := by
  obtain ⟨_, h0, h1, h2, h3, h4, h5, h6⟩ := h
  simp only [toT] at h0 h1 h2 h3 h4 h5 h6
  unfold wideB i64B
  simp only [Bool.and_eq_true, decide_eq_true_eq]
  omega
theorem set_good (l : List S43) (turn : Int) : ∀ x ∈ setOf l turn, GoodT (toT x) := fun x hx => all_good (may_set l turn) (toT x) (List.mem_map.2 ⟨x, hx, rfl⟩)
end Go.Proofs.YtefdcjmfbjlinaaDoor.A
