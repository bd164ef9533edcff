/- ScriptDecodes, in plain Lean. -/
import Derived.Test.YtcdmgalhboijcaaDx7
import Derived.Test.YtcdmgalhboijcaaPset
set_option linter.unusedVariables false
set_option linter.unusedSimpArgs false
namespace Go.Proofs.Ytcdmgalhboijcaa.Pu
open Go.RowKit Go.Proofs.Ytcdmgalhboijcaa.D Go.Proofs.YtcdmgalhboijcaaW.PrintWords Go.Proofs.YtcdmgalhboijcaaW.PrintLast Go.Proofs.Ytcdmgalhboijcaa.Sc

def decS (l0 : List S46) (l1 : List S36) : List S39 := (decodeL (l0.map toT) (l1.map toR)).map ofJ
theorem dec_some (l0 : List S46) (l1 : List S36) (h0 : okL l0 = true) (h1 : okR l1 = true) : script_Decode.f l0 l1 = some (decS l0 l1) := by
  unfold script_Decode.f decS
  rw [h0, h1]; rfl
theorem refdec_some (k : Nat) (l0 : List S46) (l1 : List S36) (h0 : okL l0 = true) (h1 : okR l1 = true) : cadencyref08_Decode.f k l0 l1 = some (decS l0 l1) := by
  unfold cadencyref08_Decode.f decS
  rw [h0, h1]; rfl
theorem same_some (l : List S39) : cadencyref08_Same.f l l = some true := by
  unfold cadencyref08_Same.f sameJ
  simp
theorem dec_nil (l1 : List S36) : decS [] l1 = [] := rfl
theorem okL_take (l : List S46) (n : Nat) (h : okL l = true) : okL (l.take n) = true := by
  unfold okL at *
  rw [List.all_eq_true] at *
  intro x hx
  exact h x (List.mem_of_mem_take hx)
theorem pure_decodes (l0 : List S52) (l1 : List S36) (l2 : List S46) (h2 : okL l2 = true) : ∃ k, cadencylaw08_ScriptDecodes.f k l0 l1 l2 = some true := by
  obtain ⟨K1, h1⟩ := few_some l1
  obtain ⟨K2, hs⟩ := set_some l0 (l1.length : Int)
  refine ⟨max K1 K2, ?_⟩
  have e1 := h1 (max K1 K2) (by omega)
  have e2 := hs (max K1 K2) (by omega)
  dsimp only at e1 e2
  have o1 := okR_few l1
  have o2 := okL_set l0 (l1.length : Int)
  have o0 : okL ([] : List S46) = true := rfl
  unfold cadencylaw08_ScriptDecodes.f cadencylaw08_awake.f
  split
  · rename_i h4
    have h4' : (4 : Int) ≤ (l2.length : Int) := by omega
    have o3 := okL_take l2 4 h2
    simp only [Option.bind_some, if_pos h4', e1, e2, dec_some _ _ o2 o1, refdec_some _ _ _ o2 o1, dec_some _ _ o3 o1, refdec_some _ _ _ o3 o1, same_some, dec_some _ _ o0 o1, dec_nil, if_true]
    rfl
  · simp only [Option.bind_some, e1, e2, dec_some _ _ o2 o1, refdec_some _ _ _ o2 o1, dec_some _ _ h2 o1, refdec_some _ _ _ h2 o1, same_some, dec_some _ _ o0 o1, dec_nil, if_true]
    rfl
end Go.Proofs.Ytcdmgalhboijcaa.Pu
