/- The document's digits, lines and prints; what a text is spoilt to: plain Lean. -/
import Derived.Test.YtefdcjmfbjlinaaDoorPset
import Derived.Test.YtefdcjmfbjlinaaDoorAx10
import Derived.Test.YtefdcjmfbjlinaaDoorAx5
set_option linter.unusedVariables false
set_option linter.unusedSimpArgs false
namespace Go.Proofs.YtefdcjmfbjlinaaDoor.A
open Go.RowKit Go.Proofs.YtefdcjmfbjlinaaDoorW.PrintWords Go.Proofs.YtefdcjmfbjlinaaDoorW.PrintLast Go.Proofs.YtefdcjmfbjlinaaDoorW.PrintMore Go.Proofs.YtefdcjmfbjlinaaDoor.Sc

/-- A number's digits. -/
def dig (n : Nat) : List UInt8 := if n < 10 then [UInt8.ofNat (48 + n)] else dig (n / 10) ++ [UInt8.ofNat (48 + n % 10)]
termination_by n
decreasing_by omega
def digB (n : Nat) : ByteArray := ⟨(dig n).toArray⟩
theorem dig_small {n : Nat} (h : n < 10) : dig n = [UInt8.ofNat (48 + n)] := by rw [dig, if_pos h]
theorem dig_big {n : Nat} (h : ¬ n < 10) : dig n = dig (n / 10) ++ [UInt8.ofNat (48 + n % 10)] := by rw [dig, if_neg h]
theorem dig_len : ∀ (d n : Nat), n < 10 ^ (d + 1) → (dig n).length ≤ d + 1
  | 0, n, h => by rw [dig_small (by simpa using h)]; simp
  | d + 1, n, h => by
    by_cases h' : n < 10
    · rw [dig_small h']; simp
    · rw [dig_big h', List.length_append]
      have := dig_len d (n / 10) (by rw [Nat.pow_succ] at h; omega)
      simpa using this
theorem nums_one (n : Nat) (h : n < 256) : strOfNums [(n : Int)] = ⟨#[UInt8.ofNat n]⟩ := by
  unfold strOfNums
  simp
theorem toList_nil (s : ByteArray) : (s.toList == ([] : List UInt8)) = decide (s.size = 0) := by
  rw [Lib.toList_data]
  rw [Bool.eq_iff_iff]
  simp only [beq_iff_eq, decide_eq_true_eq]
  have hL : s.data.toList.length = s.size := by simp
  constructor
  · intro h; rw [← hL, h]; rfl
  · intro h; exact List.length_eq_zero_iff.1 (by omega)
theorem nil_app (b : ByteArray) : (⟨#[]⟩ : ByteArray) ++ b = b := by
  apply ByteArray.ext; simp
theorem app_nil (b : ByteArray) : b ++ (⟨#[]⟩ : ByteArray) = b := by
  apply ByteArray.ext; simp
end Go.Proofs.YtefdcjmfbjlinaaDoor.A
