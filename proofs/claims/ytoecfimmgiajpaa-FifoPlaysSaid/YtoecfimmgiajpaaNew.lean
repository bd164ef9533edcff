/- New -/
import Derived.Test.YtoecfimmgiajpaaRep
namespace Go.Proofs.Ytoecfimmgiajpaa
open Go.RowKit

/-- A slice value that reads as these numbers. -/
def IntsAt (w : World) (v : Value) (xs : List Int) : Prop :=
  ∃ a cap, v = .slice a xs.length cap ∧ xs.length ≤ cap ∧ (xs ≠ [] → ∃ b o, a = some ⟨b, o, none⟩ ∧ ∀ i x, xs[i]? = some x → w.cell? ⟨b, o + i, none⟩ = some (.int .i64 x))

theorem newI (v : Value) (xs : List Int) (w : World) (hlen : xs.length ≤ 1000) (hv : IntsAt w v xs) :
    Calls Try.prog 14 #[v] w fun e w' => ∃ (F : List Nat) (size : Nat), e = .returned (.pointer (some ⟨w.heap.size, 0, none⟩)) ∧ QI w' w.heap.size F size xs ∧ Keeps [] w w' ∧ (∀ k ∈ F, w.heap.size ≤ k) ∧ size ≤ max 8 (2 * xs.length) := by
  obtain ⟨a, cap, rfl, -, hcell⟩ := hv
  have HC := Lib.hid hcell
  clear hcell
  have HL := Lib.hid hlen
  have hlen' : (xs.length : Int) ≤ 1000 := by omega
  clear hlen
  go_enter Try.func14, Try.ntmps14
  go_wp2_with fail
  have q0 : QI (w.alloc (.cells #[.slice none 0 0, .int .i64 0, .int .i64 0] 45)) w.heap.size [w.heap.size] 0 [] := .inl ⟨rfl, rfl, rfl, blk_new _ _⟩
  have k0 : Keeps [] w (w.alloc (.cells #[.slice none 0 0, .int .i64 0, .int .i64 0] 45)) := (Keeps.refl _ _).alloc _
  obtain ⟨b, hb⟩ : ∃ b, b = w.heap.size := ⟨_, rfl⟩
  rw [← hb]
  rw [← hb] at q0
  have HB := Lib.hid hb
  clear hb
  generalize (w.alloc (.cells #[.slice none 0 0, .int .i64 0, .int .i64 0] 45)) = w0 at q0 k0 ⊢
  go_loopw [10] (fun i wr => ∃ (k : Nat) (F : List Nat) (size : Nat), k ≤ xs.length ∧ i = .int .i64 k ∧ QI wr b F size (xs.take k) ∧ Keeps [] w wr ∧ (∀ k ∈ F, w.heap.size ≤ k) ∧ size ≤ max 8 (2 * k)) (fun i _ => xs.length - (intOf i).toNat)
  case atStart => exact ⟨0, [b], 0, by omega, rfl, by simpa using q0, k0, by simp [HB.out], by omega⟩
  case round =>
    obtain ⟨k, F, size, hk, rfl, hq, hK, hF, hsz⟩ := hrel
    have HQ := Lib.hid hq
    have HF := Lib.hid hF
    clear hq hF q0 k0
    by_cases hlt : k < xs.length
    · obtain ⟨x, hx⟩ : ∃ x, xs[k]? = some x := ⟨xs[k], by simp [hlt]⟩
      obtain ⟨b0, o0, ha, hc⟩ := HC.out (by intro e; rw [e] at hlt; simp at hlt)
      subst ha
      have hcx := hc k x hx
      have hcr : wr.cell? ⟨b0, o0 + k, none⟩ = some (.int .i64 x) := by
        rw [← hcx]
        exact World.cell?_of_block (hK.block b0 (World.block_lt_of_cell? _ _ hcx) (by simp))
      have HX := Lib.hid hx
      clear hc hcx hx
      have hlt' : (k : Int) < (xs.length : Int) := by omega
      go_wp2_with (go_at_call 15; refine (pushI b F size (xs.take k) x _ HQ.out (by have := HL.out; omega)).mono ?_; rintro e w' ⟨F', rfl, hq', hK', hF'⟩)
      go_roundw
      case rel =>
        have e : xs.take (k + 1) = xs.take k ++ [x] := by
          rw [List.take_add_one, HX.out]; rfl
        have hl : (xs.take k).length = k := by simp; omega
        rw [hl] at hq'
        refine ⟨k + 1, F', _, by omega, by go_num, by rw [e]; exact hq', hK.andThen hK' (fun g hg => .inr (HF.out g hg)), ?_, ?_⟩
        · intro g hg
          rcases hF' g hg with h | h
          · exact HF.out g h
          · have := hK.size; omega
        · split <;> omega
      case measure => simp [intOf]; omega
    · obtain rfl : k = xs.length := by omega
      go_wp2

      go_ret
      exact ⟨F, size, by rw [HB.out]; rfl, by rw [← HB.out]; simpa using HQ.out, hK, HF.out, hsz⟩
end Go.Proofs.Ytoecfimmgiajpaa
