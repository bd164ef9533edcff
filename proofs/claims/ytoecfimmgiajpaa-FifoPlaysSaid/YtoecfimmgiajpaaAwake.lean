/- New of no texts; awake. -/
import Derived.Test.YtoecfimmgiajpaaNew
namespace Go.Proofs.Ytoecfimmgiajpaa
open Go.RowKit

theorem newS_nil (w : World) :
    Calls Try.prog 9 #[.slice none 0 0] w fun e w' => e = .returned (.pointer (some ⟨w.heap.size, 0, none⟩)) ∧ QS w' w.heap.size [w.heap.size] 0 [] ∧ Keeps [] w w' := by
  go_enter Try.func9, Try.ntmps9
  go_wp2_with fail
  refine wp_loop_rounds 1 ?_
  rw [rounds_succ]
  go_wp2
  go_ret
  exact ⟨rfl, .inl ⟨rfl, rfl, rfl, blk_new _ _⟩, (Keeps.refl _ _).alloc _⟩

theorem awake_true (w : World) : Calls Try.prog 8 #[] w fun e w' => e = .returned (.bool true) ∧ Keeps [] w w' := by
  go_enter Try.func8, Try.ntmps8
  go_wp2_with fail
  refine (newI _ [1, 2] _ (by decide) ⟨_, 2, rfl, by decide, fun _ => ⟨_, _, rfl, fun i x hx => ?_⟩⟩).mono ?_
  · rw [cell_blk (blk_new w _)]
    match i with
    | 0 => cases hx; rfl
    | 1 => cases hx; rfl
    | i + 2 => simp at hx
  rintro e w1 ⟨F1, z1, rfl, q1, K1, hF1, hz1⟩
  have k1 : Keeps [] w w1 := ((Keeps.refl _ _).alloc _).andThen K1 (by simp)
  have hF1' : ∀ k ∈ F1, w.heap.size ≤ k := fun k hk => by have := hF1 k hk; simp at this; omega
  clear K1 hF1
  simp only [World.size_alloc] at q1 ⊢
  go_wp2_with fail
  refine (pushI _ F1 z1 [1, 2] 3 _ q1 (by simp at hz1; omega)).mono ?_
  rintro e w2 ⟨F2, rfl, q2, K2, hF2⟩
  obtain ⟨z2, hz2, hz2'⟩ : ∃ z2, z2 = (if [(1 : Int), 2].length < z1 then z1 else max 8 (2 * z1)) ∧ z2 ≤ 100 := ⟨_, rfl, by simp at hz1; split <;> omega⟩
  rw [← hz2] at q2
  clear hz2
  go_wp2_with fail
  refine (popI_some _ F2 z2 1 [2, 3] _ q2 (by omega)).mono ?_
  rintro e w3 ⟨rfl, q3, K3⟩
  go_wp2_with fail
  refine (atI_in _ F2 z2 [2, 3] 1 3 _ q3 (by omega) rfl).mono ?_
  rintro e w4 ⟨rfl, rfl⟩
  have q4 : QI w3.drew (w.heap.size + 1) F2 z2 [2, 3] := q3
  go_wp2_with fail
  refine (lenI _ F2 z2 [2, 3] _ q4).mono ?_
  rintro e w4 ⟨rfl, rfl⟩
  go_wp2
  go_ret
  have hF2' : ∀ k ∈ F2, w.heap.size ≤ k := fun k hk => by
    rcases hF2 k hk with h | h
    · exact hF1' k h
    · have := k1.size; omega
  exact ⟨rfl, ((k1.andThen K2 (fun g hg => .inr (hF1' g hg))).andThen K3 (fun g hg => .inr (hF2' g hg))).drew⟩
end Go.Proofs.Ytoecfimmgiajpaa
