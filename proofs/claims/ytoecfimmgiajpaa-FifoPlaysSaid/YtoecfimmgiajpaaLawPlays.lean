/- FifoPlays returns true at every input, and each argument reads afterwards as it read before. No condition. -/
import Derived.Test.YtoecfimmgiajpaaArgs
import Derived.Test.YtoecfimmgiajpaaPlays
namespace Go.Proofs.Ytoecfimmgiajpaa
open Go.ChangeShapes Go.WideShapes Go.ChangeAt Go.RowKit

set_option maxRecDepth 100000 in
theorem fifoPlays_lifted (os : Os) (started : os.Started) (H : Type) (enc : TypeId × Value → H) :
    ReturnsInHanded {} Try.checked os 7 .any (Rows.fifoPlaysSpec.pre6 enc Try.prog Try.f7 Rows.fifoPlaysRow.domain false) (Rows.fifoPlaysSpec.post enc Try.prog Try.f7 false true false false) := by
  refine returnsInHanded_of_change (C := Try.checked) own started (by kernel_rfl) Try.func7
    (ChangeSpec.witness6 (enc := enc) (C := Try.checked) false ⟨#[], #[.slice none 0 0, .slice none 0 0], []⟩ 8 (by kernel_rfl) (by kernel_rfl) (by kernel_rfl) (by kernel_rfl)) ?_
  intro W base args ds gs before hval0 hW hcnd _
  have hval : ∀ (j : Nat) t v, Try.f7.params[j]? = some t → args[j]? = some v → Value.okWide Try.prog W .any base t v := hval0
  have hW' := hW
  obtain ⟨p, q, hA0, hV, rfl, hfz, hnd⟩ := hW
  have hA : DataW.TrodAll enc Try.prog W 0 (fun _ => true) true Try.f7.params.toList args.toList ds p := hA0
  have hA2 := hA
  have hlt : ∀ x ∈ p, x.block < W.heap.size := fun x hx => by simpa using hW'.lt x (List.mem_append.2 (.inl hx))
  rw [Try.params7] at hA hval
  obtain ⟨v0, vs0, d0, ds0, p0, q0, hargs, rfl, rfl, h0, r0⟩ := trodAll_cons hA
  obtain ⟨v1, vs1, d1, ds1, p1, q1, rfl, rfl, rfl, h1, r1⟩ := trodAll_cons r0
  obtain ⟨rfl, rfl, rfl⟩ := trodAll_nil r1
  obtain rfl : args = #[v0, v1] := by cases args; simp_all
  obtain ⟨rfl, rfl⟩ := trodVars_none hV
  clear hA0 hval0
  obtain ⟨xs, hxs, hm, -⟩ := ints_of (hval 0 39 v0 rfl rfl) h0
  obtain ⟨ys, hys, hm', hw'⟩ := ints_of (hval 1 39 v1 rfl rfl) h1
  have hwalk := plays_walk v0 v1 xs ys W hm hm' hw' hxs hys
  refine hwalk.mono fun e W' ⟨he, hk⟩ => ?_
  subst he
  have hnx : Below W.heap.size W W' := hk.below (by simp) (Nat.le_refl _)
  exact ⟨_, rfl, _, _, _, [], _, [], hW', trodAll_cons_mk (shut_bool Try.underlying4 _) trodAll_mk0, trodAll_below laidOut hnx _ _ _ _ (by kernel_rfl) hA2 hlt, rfl, hnx.frame _, fun h => by cases h⟩

theorem fifoPlays_over : Rows.fifoPlaysRow.holds Try.pinned (OpenSpec.ofChange Rows.fifoPlaysSpec) :=
  OpenClaim.holds_of_wide 7 Try.f7 rfl rfl rfl rfl rfl rfl rfl ⟨rfl, rfl, rfl, rfl, rfl⟩ rfl rfl rfl rfl rfl (by kernel_rfl) Try.func7 (by kernel_rfl)
    (of_decide_eq_true (by kernel_rfl)) (by unfold Func.isWrapper; first | (rw [if_pos (by decide +kernel)]; kernel_rfl) | (rw [if_neg (by decide +kernel)]; exact ⟨rfl, rfl⟩))
    (fun os started H enc _ => fifoPlays_lifted os started H enc)

theorem fifoPlays_proved : Rows.FifoPlaysSaid := fifoPlays_over
#print axioms fifoPlays_proved
end Go.Proofs.Ytoecfimmgiajpaa
