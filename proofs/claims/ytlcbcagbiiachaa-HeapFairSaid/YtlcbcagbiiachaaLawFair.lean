/- HeapFair returns true at every input, and each argument reads afterwards as it read before. No condition. -/
import Derived.Test.YtlcbcagbiiachaaArgs
import Derived.Test.YtlcbcagbiiachaaFair
namespace Go.Proofs.Ytlcbcagbiiachaa
open Go.ChangeShapes Go.WideShapes Go.ChangeAt Go.RowKit

set_option maxRecDepth 100000 in
theorem heapFair_lifted (os : Os) (started : os.Started) (H : Type) (enc : TypeId × Value → H) :
    ReturnsInHanded {} Try.checked os 4 .any (Rows.heapFairSpec.pre6 enc Try.prog Try.f4 Rows.heapFairRow.domain false) (Rows.heapFairSpec.post enc Try.prog Try.f4 false true false false) := by
  refine returnsInHanded_of_change (C := Try.checked) own started (by kernel_rfl) Try.func4
    (ChangeSpec.witness6 (enc := enc) (C := Try.checked) false ⟨#[], #[.slice none 0 0], []⟩ 8 (by kernel_rfl) (by kernel_rfl) (by kernel_rfl) (by kernel_rfl)) ?_
  intro W base args ds gs before hval0 hW hcnd _
  have hval : ∀ (j : Nat) t v, Try.f4.params[j]? = some t → args[j]? = some v → Value.okWide Try.prog W .any base t v := hval0
  have hW' := hW
  obtain ⟨p, q, hA0, hV, rfl, hfz, hnd⟩ := hW
  have hA : DataW.TrodAll enc Try.prog W 0 (fun _ => true) true Try.f4.params.toList args.toList ds p := hA0
  have hA2 := hA
  have hlt : ∀ x ∈ p, x.block < W.heap.size := fun x hx => by simpa using hW'.lt x (List.mem_append.2 (.inl hx))
  rw [Try.params4] at hA hval
  obtain ⟨v0, vs0, d0, ds0, p0, q0, hargs, rfl, rfl, h0, r0⟩ := trodAll_cons hA
  obtain ⟨rfl, rfl, rfl⟩ := trodAll_nil r0
  obtain rfl : args = #[v0] := by cases args; simp_all
  obtain ⟨rfl, rfl⟩ := trodVars_none hV
  clear hA0 hval0
  obtain ⟨xs, hxs, hm, hw⟩ := ints_of (hval 0 22 v0 rfl rfl) h0
  have hwalk := fair_walk v0 xs W hm hw hxs
  refine hwalk.mono fun e W' ⟨he, hk⟩ => ?_
  subst he
  have hnx : Below W.heap.size W W' := hk.below (by simp) (Nat.le_refl _)
  exact ⟨_, rfl, _, _, _, [], _, [], hW', trodAll_cons_mk (shut_bool Try.underlying4 _) trodAll_mk0, trodAll_below laidOut hnx _ _ _ _ (by kernel_rfl) hA2 hlt, rfl, hnx.frame _, fun h => by cases h⟩

theorem heapFair_over : Rows.heapFairRow.holds Try.pinned (OpenSpec.ofChange Rows.heapFairSpec) :=
  OpenClaim.holds_of_wide 4 Try.f4 rfl rfl rfl rfl rfl rfl rfl ⟨rfl, rfl, rfl, rfl, rfl⟩ rfl rfl rfl rfl rfl (by kernel_rfl) Try.func4 (by kernel_rfl)
    (of_decide_eq_true (by kernel_rfl)) (by unfold Func.isWrapper; first | (rw [if_pos (by decide +kernel)]; kernel_rfl) | (rw [if_neg (by decide +kernel)]; exact ⟨rfl, rfl⟩))
    (fun os started H enc _ => heapFair_lifted os started H enc)

theorem heapFair_proved : Rows.HeapFairSaid := heapFair_over
#print axioms heapFair_proved
end Go.Proofs.Ytlcbcagbiiachaa
