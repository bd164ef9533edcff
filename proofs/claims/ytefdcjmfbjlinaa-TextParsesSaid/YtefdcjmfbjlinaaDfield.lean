/- The document's field: which one a word is. -/
import Derived.Test.YtefdcjmfbjlinaaDplain
namespace Go.Proofs.Ytefdcjmfbjlinaa.Sc
open Go.RowKit Go.Shelf Go.Maps

set_option maxHeartbeats 4000000 in
set_option maxRecDepth 100000 in
theorem field_any (tx : List UInt8) (w : World) : Calls Try.prog 41 #[.string ⟨tx.toArray⟩] w fun r w' => r = .returned (.int .i64 (fldJ tx)) ∧ Keeps [] w w' := by
  have e0 : ((⟨#[99, 116, 100, 106, 113, 112]⟩ : ByteArray).extract 0 1).toList = [99] := by decide +kernel
  have e1 : ((⟨#[99, 116, 100, 106, 113, 112]⟩ : ByteArray).extract 1 2).toList = [116] := by decide +kernel
  have e2 : ((⟨#[99, 116, 100, 106, 113, 112]⟩ : ByteArray).extract 2 3).toList = [100] := by decide +kernel
  have e3 : ((⟨#[99, 116, 100, 106, 113, 112]⟩ : ByteArray).extract 3 4).toList = [106] := by decide +kernel
  have e4 : ((⟨#[99, 116, 100, 106, 113, 112]⟩ : ByteArray).extract 4 5).toList = [113] := by decide +kernel
  have e5 : ((⟨#[99, 116, 100, 106, 113, 112]⟩ : ByteArray).extract 5 6).toList = [112] := by decide +kernel
  by_cases h0 : tx = [99]
  · have b0 : (tx == ((⟨#[99, 116, 100, 106, 113, 112]⟩ : ByteArray).extract 0 1).toList) = true := by rw [e0, h0]; decide
    have HF : Hid (fldJ tx = 0) := Lib.hid (by rw [h0]; rfl)
    clear e0 e1 e2 e3 e4 e5 h0
    go_enter Try.func41, Try.ntmps41
    go_wp2_with fail
    refine wp_loop_rounds 7 ?_
    rw [rounds_succ]
    go_wp2
    go_ret
    exact ⟨by rw [HF.out]; rfl, Keeps.refl _ _⟩
  by_cases h1 : tx = [116]
  · have b0 : (tx == ((⟨#[99, 116, 100, 106, 113, 112]⟩ : ByteArray).extract 0 1).toList) = false := by rw [e0]; simpa using h0
    have b1 : (tx == ((⟨#[99, 116, 100, 106, 113, 112]⟩ : ByteArray).extract 1 2).toList) = true := by rw [e1, h1]; decide
    have HF : Hid (fldJ tx = 1) := Lib.hid (by rw [h1]; rfl)
    clear e0 e1 e2 e3 e4 e5 h0 h1
    go_enter Try.func41, Try.ntmps41
    go_wp2_with fail
    refine wp_loop_rounds 7 ?_
    rw [rounds_succ]
    go_wp2_with fail
    rw [rounds_succ]
    go_wp2
    go_ret
    exact ⟨by rw [HF.out]; rfl, Keeps.refl _ _⟩
  by_cases h2 : tx = [100]
  · have b0 : (tx == ((⟨#[99, 116, 100, 106, 113, 112]⟩ : ByteArray).extract 0 1).toList) = false := by rw [e0]; simpa using h0
    have b1 : (tx == ((⟨#[99, 116, 100, 106, 113, 112]⟩ : ByteArray).extract 1 2).toList) = false := by rw [e1]; simpa using h1
    have b2 : (tx == ((⟨#[99, 116, 100, 106, 113, 112]⟩ : ByteArray).extract 2 3).toList) = true := by rw [e2, h2]; decide
    have HF : Hid (fldJ tx = 2) := Lib.hid (by rw [h2]; rfl)
    clear e0 e1 e2 e3 e4 e5 h0 h1 h2
    go_enter Try.func41, Try.ntmps41
    go_wp2_with fail
    refine wp_loop_rounds 7 ?_
    rw [rounds_succ]
    go_wp2_with fail
    rw [rounds_succ]
    go_wp2_with fail
    rw [rounds_succ]
    go_wp2
    go_ret
    exact ⟨by rw [HF.out]; rfl, Keeps.refl _ _⟩
  by_cases h3 : tx = [106]
  · have b0 : (tx == ((⟨#[99, 116, 100, 106, 113, 112]⟩ : ByteArray).extract 0 1).toList) = false := by rw [e0]; simpa using h0
    have b1 : (tx == ((⟨#[99, 116, 100, 106, 113, 112]⟩ : ByteArray).extract 1 2).toList) = false := by rw [e1]; simpa using h1
    have b2 : (tx == ((⟨#[99, 116, 100, 106, 113, 112]⟩ : ByteArray).extract 2 3).toList) = false := by rw [e2]; simpa using h2
    have b3 : (tx == ((⟨#[99, 116, 100, 106, 113, 112]⟩ : ByteArray).extract 3 4).toList) = true := by rw [e3, h3]; decide
    have HF : Hid (fldJ tx = 3) := Lib.hid (by rw [h3]; rfl)
    clear e0 e1 e2 e3 e4 e5 h0 h1 h2 h3
    go_enter Try.func41, Try.ntmps41
    go_wp2_with fail
    refine wp_loop_rounds 7 ?_
    rw [rounds_succ]
    go_wp2_with fail
    rw [rounds_succ]
    go_wp2_with fail
    rw [rounds_succ]
    go_wp2_with fail
    rw [rounds_succ]
    go_wp2
    go_ret
    exact ⟨by rw [HF.out]; rfl, Keeps.refl _ _⟩
  by_cases h4 : tx = [113]
  · have b0 : (tx == ((⟨#[99, 116, 100, 106, 113, 112]⟩ : ByteArray).extract 0 1).toList) = false := by rw [e0]; simpa using h0
    have b1 : (tx == ((⟨#[99, 116, 100, 106, 113, 112]⟩ : ByteArray).extract 1 2).toList) = false := by rw [e1]; simpa using h1
    have b2 : (tx == ((⟨#[99, 116, 100, 106, 113, 112]⟩ : ByteArray).extract 2 3).toList) = false := by rw [e2]; simpa using h2
    have b3 : (tx == ((⟨#[99, 116, 100, 106, 113, 112]⟩ : ByteArray).extract 3 4).toList) = false := by rw [e3]; simpa using h3
    have b4 : (tx == ((⟨#[99, 116, 100, 106, 113, 112]⟩ : ByteArray).extract 4 5).toList) = true := by rw [e4, h4]; decide
    have HF : Hid (fldJ tx = 4) := Lib.hid (by rw [h4]; rfl)
    clear e0 e1 e2 e3 e4 e5 h0 h1 h2 h3 h4
    go_enter Try.func41, Try.ntmps41
    go_wp2_with fail
    refine wp_loop_rounds 7 ?_
    rw [rounds_succ]
    go_wp2_with fail
    rw [rounds_succ]
    go_wp2_with fail
    rw [rounds_succ]
    go_wp2_with fail
    rw [rounds_succ]
    go_wp2_with fail
    rw [rounds_succ]
    go_wp2
    go_ret
    exact ⟨by rw [HF.out]; rfl, Keeps.refl _ _⟩
  by_cases h5 : tx = [112]
  · have b0 : (tx == ((⟨#[99, 116, 100, 106, 113, 112]⟩ : ByteArray).extract 0 1).toList) = false := by rw [e0]; simpa using h0
    have b1 : (tx == ((⟨#[99, 116, 100, 106, 113, 112]⟩ : ByteArray).extract 1 2).toList) = false := by rw [e1]; simpa using h1
    have b2 : (tx == ((⟨#[99, 116, 100, 106, 113, 112]⟩ : ByteArray).extract 2 3).toList) = false := by rw [e2]; simpa using h2
    have b3 : (tx == ((⟨#[99, 116, 100, 106, 113, 112]⟩ : ByteArray).extract 3 4).toList) = false := by rw [e3]; simpa using h3
    have b4 : (tx == ((⟨#[99, 116, 100, 106, 113, 112]⟩ : ByteArray).extract 4 5).toList) = false := by rw [e4]; simpa using h4
    have b5 : (tx == ((⟨#[99, 116, 100, 106, 113, 112]⟩ : ByteArray).extract 5 6).toList) = true := by rw [e5, h5]; decide
    have HF : Hid (fldJ tx = 5) := Lib.hid (by rw [h5]; rfl)
    clear e0 e1 e2 e3 e4 e5 h0 h1 h2 h3 h4 h5
    go_enter Try.func41, Try.ntmps41
    go_wp2_with fail
    refine wp_loop_rounds 7 ?_
    rw [rounds_succ]
    go_wp2_with fail
    rw [rounds_succ]
    go_wp2_with fail
    rw [rounds_succ]
    go_wp2_with fail
    rw [rounds_succ]
    go_wp2_with fail
    rw [rounds_succ]
    go_wp2_with fail
    rw [rounds_succ]
    go_wp2
    go_ret
    exact ⟨by rw [HF.out]; rfl, Keeps.refl _ _⟩
  have b0 : (tx == ((⟨#[99, 116, 100, 106, 113, 112]⟩ : ByteArray).extract 0 1).toList) = false := by rw [e0]; simpa using h0
  have b1 : (tx == ((⟨#[99, 116, 100, 106, 113, 112]⟩ : ByteArray).extract 1 2).toList) = false := by rw [e1]; simpa using h1
  have b2 : (tx == ((⟨#[99, 116, 100, 106, 113, 112]⟩ : ByteArray).extract 2 3).toList) = false := by rw [e2]; simpa using h2
  have b3 : (tx == ((⟨#[99, 116, 100, 106, 113, 112]⟩ : ByteArray).extract 3 4).toList) = false := by rw [e3]; simpa using h3
  have b4 : (tx == ((⟨#[99, 116, 100, 106, 113, 112]⟩ : ByteArray).extract 4 5).toList) = false := by rw [e4]; simpa using h4
  have b5 : (tx == ((⟨#[99, 116, 100, 106, 113, 112]⟩ : ByteArray).extract 5 6).toList) = false := by rw [e5]; simpa using h5
  have HF : Hid (fldJ tx = -1) := Lib.hid (by simp [fldJ, fldI, h0, h1, h2, h3, h4, h5])
  clear e0 e1 e2 e3 e4 e5 h0 h1 h2 h3 h4 h5
  go_enter Try.func41, Try.ntmps41
  go_wp2_with fail
  refine wp_loop_rounds 7 ?_
  rw [rounds_succ]
  go_wp2_with fail
  rw [rounds_succ]
  go_wp2_with fail
  rw [rounds_succ]
  go_wp2_with fail
  rw [rounds_succ]
  go_wp2_with fail
  rw [rounds_succ]
  go_wp2_with fail
  rw [rounds_succ]
  go_wp2_with fail
  rw [rounds_succ]
  go_wp2
  go_ret
  exact ⟨by rw [HF.out]; rfl, Keeps.refl _ _⟩
end Go.Proofs.Ytefdcjmfbjlinaa.Sc
