/- The contract of the document's 'one', in the form of the printed ones. -/
import Derived.Test.YtefdcjmfbjlinaaDoorRefone
namespace Go.Proofs.YtefdcjmfbjlinaaDoor.A
open Go.RowKit

def tk0 (a : Nat) (l : List UInt8) : Sc.Tk := if (Sc.tkOf a l).kind = 0 then ⟨0, 0, [], 0⟩ else Sc.tkOf a l
theorem oneAt_tk0 (a : Nat) (l : List UInt8) : Sc.oneAt a l = Sc.tkV (tk0 a l) := by
  unfold Sc.oneAt tk0
  split <;> rfl
def cadencyref03_one.f (a0 : ByteArray) (a1 : Int) : Option (Int × Int × ByteArray × Int) :=
  if a0.size ≤ 9223372036854775807 ∧ 0 ≤ a1 ∧ a1 < (a0.size : Int) then some (((tk0 a1.toNat (a0.data.toList.drop a1.toNat)).kind : Nat), ((tk0 a1.toNat (a0.data.toList.drop a1.toNat)).at_ : Nat), ⟨(tk0 a1.toNat (a0.data.toList.drop a1.toNat)).text.toArray⟩, ((tk0 a1.toNat (a0.data.toList.drop a1.toNat)).num : Nat)) else none
theorem cadencyref03_one.calls (a0 : ByteArray) (a1 : Int) (r1 : Int) (r2 : Int) (r3 : ByteArray) (r4 : Int) (w : World) (h : cadencyref03_one.f a0 a1 = some (r1, r2, r3, r4)) :
    Calls Tryd.prog 70 #[.string a0, .int .i64 a1] w fun e w' => e = .returned (.agg #[.int .i64 r1, .int .i64 r2, .string r3, .int .i64 r4]) ∧ Below w.heap.size w w' := by
  unfold cadencyref03_one.f at h
  split at h
  · rename_i hc
    obtain ⟨h1, h2, h3⟩ := hc
    simp only [Option.some.injEq, Prod.mk.injEq] at h
    obtain ⟨rfl, rfl, rfl, rfl⟩ := h
    obtain ⟨a, rfl⟩ := Int.eq_ofNat_of_zero_le h2
    refine (Sc.refOne_any a0 h1 a (by omega) w).mono ?_
    rintro e w' ⟨rfl, hk⟩
    rw [oneAt_tk0]
    exact ⟨rfl, hk.below (by simp) (Nat.le_refl _)⟩
  · cases h
end Go.Proofs.YtefdcjmfbjlinaaDoor.A
