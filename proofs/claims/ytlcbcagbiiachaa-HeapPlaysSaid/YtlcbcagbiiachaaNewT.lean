/- New of a heap of the document's things, of none. -/
import Derived.Test.YtlcbcagbiiachaaPushT
import Derived.Test.YtlcbcagbiiachaaNew
namespace Go.Proofs.Ytlcbcagbiiachaa
open Go.RowKit

theorem newT_nil (w : World) :
    Calls Try.prog 20 #[.func (.func 21) #[] #[], .slice none 0 0] w fun e w' => ∃ F : List Nat, e = .returned (.pointer (some ⟨w.heap.size, 0, none⟩)) ∧ HT w' w.heap.size F 0 [] ∧ Keeps [] w w' ∧ (∀ k ∈ F, w.heap.size ≤ k) := by
  go_enter Try.func20, Try.ntmps20
  go_wp2_with fail
  refine wp_loop_rounds 1 ?_
  rw [rounds_succ]
  go_wp2
  go_ret
  refine ⟨[w.heap.size], rfl, ⟨List.Pairwise.nil, by simp, .inl ⟨rfl, rfl, blk_new _ _⟩⟩, (Keeps.refl _ _).alloc _, by simp⟩
end Go.Proofs.Ytlcbcagbiiachaa
