/- TextPlaces returns true at every input, and each argument reads afterwards as it read before. No condition. -/
import Derived.Test.YtefdcjmfbjlinaaOpen
import Derived.Test.YtefdcjmfbjlinaaPplaces
namespace Go.Proofs.Ytefdcjmfbjlinaa.A
open Go.ChangeMaps (open_string shut_string)
open Go.ChangeShapes Go.WideShapes Go.ChangeAt Go.RowKit Go.Proofs.YtefdcjmfbjlinaaW.PrintWords

set_option maxRecDepth 100000 in
theorem textPlaces_lifted (os : Os) (started : os.Started) (H : Type) (enc : TypeId × Value → H) :
    ReturnsInHanded {} Try.checked os 5 .any (Rows.textPlacesSpec.pre6 enc Try.prog Try.f5 Rows.textPlacesRow.domain false) (Rows.textPlacesSpec.post enc Try.prog Try.f5 false true false false) := by
  refine returnsInHanded_of_change (C := Try.checked) own started (by kernel_rfl) Try.func5
    (ChangeSpec.witness6 (enc := enc) (C := Try.checked) false ⟨#[], #[.string ByteArray.empty, .slice none 0 0, .agg #[.int .i64 0, .int .i64 0, .int .i64 0]], []⟩ 8 (by kernel_rfl) (by kernel_rfl) (by kernel_rfl) (by kernel_rfl)) ?_
  intro W base args ds gs before hval0 hW hcnd _
  have hval : ∀ (j : Nat) t v, Try.f5.params[j]? = some t → args[j]? = some v → Value.okWide Try.prog W .any base t v := hval0
  have hW' := hW
  obtain ⟨p, q, hA0, hV, rfl, hfz, hnd⟩ := hW
  have hA : DataW.TrodAll enc Try.prog W 0 (fun _ => true) true Try.f5.params.toList args.toList ds p := hA0
  have hA2 := hA
  have hlt : ∀ x ∈ p, x.block < W.heap.size := fun x hx => by simpa using hW'.lt x (List.mem_append.2 (.inl hx))
  rw [Try.params5] at hA hval
  obtain ⟨v0, vs0, d0, ds0, p0, q0, hargs, rfl, rfl, h0, r0⟩ := trodAll_cons hA
  obtain ⟨v1, vs1, d1, ds1, p1, q1, rfl, rfl, rfl, h1, r1⟩ := trodAll_cons r0
  obtain ⟨v2, vs2, d2, ds2, p2, q2, rfl, rfl, rfl, h2, r2⟩ := trodAll_cons r1
  obtain ⟨rfl, rfl, rfl⟩ := trodAll_nil r2
  obtain rfl : args = #[v0, v1, v2] := by cases args; simp_all
  obtain ⟨rfl, rfl⟩ := trodVars_none hV
  clear hA0 hval0
  obtain ⟨a0, rfl, rfl, rfl, y0⟩ := open_string Try.underlying9 (hval 0 9 v0 rfl rfl) h0
  obtain ⟨A1, c1, l1, rfl, hl1, hC1⟩ := open_specs (hval 1 22 _ rfl rfl) h1
  obtain ⟨q0, q1, q2, rfl, hw0, hw1, hw2⟩ := open_three (hval 2 23 _ rfl rfl) h2
  obtain ⟨K, hK⟩ := textPlaces_some a0 l1 q0 q1 q2
  have hwalk := cadencylaw05_TextPlaces.calls K a0 A1 c1 l1 q0 q1 q2 true W hC1 hl1 hK
  refine hwalk.mono fun e W' ⟨he, hk⟩ => ?_
  subst he
  have hnx : Below W.heap.size W W' := hk
  exact ⟨_, rfl, _, _, _, [], _, [], hW', trodAll_cons_mk (shut_bool Try.underlying4 _) trodAll_mk0, trodAll_below laidOut hnx _ _ _ _ (by kernel_rfl) hA2 hlt, rfl, hnx.frame _, fun h => by cases h⟩

theorem textPlaces_over : Rows.textPlacesRow.holds Try.pinned (OpenSpec.ofChange Rows.textPlacesSpec) :=
  OpenClaim.holds_of_wide 5 Try.f5 rfl rfl rfl rfl rfl rfl rfl ⟨rfl, rfl, rfl, rfl, rfl⟩ rfl rfl rfl rfl rfl (by kernel_rfl) Try.func5 (by kernel_rfl)
    (of_decide_eq_true (by kernel_rfl)) (by unfold Func.isWrapper; first | (rw [if_pos (by decide +kernel)]; kernel_rfl) | (rw [if_neg (by decide +kernel)]; exact ⟨rfl, rfl⟩))
    (fun os started H enc _ => textPlaces_lifted os started H enc)
end Go.Proofs.Ytefdcjmfbjlinaa.A
namespace Go.Proofs.Ytefdcjmfbjlinaa
theorem textPlaces_proved : Rows.TextPlacesSaid := A.textPlaces_over
#print axioms textPlaces_proved
end Go.Proofs.Ytefdcjmfbjlinaa
