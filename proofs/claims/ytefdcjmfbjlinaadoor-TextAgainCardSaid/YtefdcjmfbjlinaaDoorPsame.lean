/- The awake run; rows that are the same; how many tasks a text tells: plain Lean. -/
import Derived.Test.YtefdcjmfbjlinaaDoorPtext
set_option linter.unusedVariables false
set_option linter.unusedSimpArgs false
namespace Go.Proofs.YtefdcjmfbjlinaaDoor.A
open Go.RowKit Go.Proofs.YtefdcjmfbjlinaaDoorW.PrintWords Go.Proofs.YtefdcjmfbjlinaaDoorW.PrintLast Go.Proofs.YtefdcjmfbjlinaaDoorW.PrintMore Go.Proofs.YtefdcjmfbjlinaaDoor.Sc

theorem awake_some : cadencylaw05_awake.f = some true := by decide +kernel
theorem same_go (l : List S29) (hl : l.length ≤ 1000000) : ∀ (d i : Nat), l.length - i = d → i ≤ l.length → Ev (fun k => cadencyref05_Same.l0 k l l (i : Int)) true := by
  intro d
  induction d with
  | zero =>
    intro i hd hi
    refine Ev.step (f := fun _ => some true) (fun k => ?_) (Ev.now _)
    simp only [cadencyref05_Same.l0]
    rw [if_neg (by omega)]
  | succ d ih =>
    intro i hd hi
    have hlt : i < l.length := by omega
    refine Ev.step (f := fun k => cadencyref05_Same.l0 k l l ((i + 1 : Nat) : Int)) (fun k => ?_) (ih (i + 1) (by omega) (by omega))
    simp only [cadencyref05_Same.l0]
    rw [if_pos (by omega), if_pos (by omega), if_pos (by omega), if_neg (by simp), show wrap64 ((i : Int) + 1) = ((i + 1 : Nat) : Int) by unfold wrap64; omega]
theorem same_some (l : List S29) (hl : l.length ≤ 1000000) : Ev (fun k => cadencyref05_Same.f k l l) true := by
  refine Ev.congr (f := fun k => cadencyref05_Same.l0 k l l 0) (fun k => ?_) (same_go l hl l.length 0 (by omega) (by omega))
  unfold cadencyref05_Same.f
  rw [if_pos rfl]
end Go.Proofs.YtefdcjmfbjlinaaDoor.A
