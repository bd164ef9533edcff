/- The contract of the document's Read, in the form of the printed ones. -/
import Derived.Test.YtefdcjmfbjlinaaGivT
import Derived.Test.YtefdcjmfbjlinaaDread
namespace Go.Proofs.Ytefdcjmfbjlinaa.A
open Go.RowKit Go.Proofs.YtefdcjmfbjlinaaW.PrintWords Go.Proofs.YtefdcjmfbjlinaaW.PrintLast Go.Proofs.YtefdcjmfbjlinaaW.PrintMore

def cadencyref05_Read.f (a0 : ByteArray) : Option (List S33 × Int × Int) := text_Read.f a0
theorem cadencyref05_Read.calls (a0 : ByteArray) (r1 : List S33) (r2 r3 : Int) (w : World) (h : cadencyref05_Read.f a0 = some (r1, r2, r3)) :
    Calls Try.prog 20 #[.string a0] w fun e w' => ∃ v0_ : Value, e = .returned (.agg #[v0_, .int .i64 r2, .int .i64 r3]) ∧ Kd.R k33 33 w' w.heap.size (fun _ => True) v0_ r1 ∧ Below w.heap.size w w' := by
  unfold cadencyref05_Read.f text_Read.f at h
  split at h
  · simp only [Option.some.injEq, Prod.mk.injEq] at h
    obtain ⟨rfl, rfl, rfl⟩ := h
    refine (Sc.dread_any a0 (by assumption) w).mono ?_
    rintro e w' ⟨v, rfl, hr, hk⟩
    exact ⟨v, rfl, rowR_tsk hr, hk.below (by simp) (Nat.le_refl _)⟩
  · cases h
end Go.Proofs.Ytefdcjmfbjlinaa.A
