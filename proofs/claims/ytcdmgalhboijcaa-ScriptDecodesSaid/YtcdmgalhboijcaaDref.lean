/- The contract of the document's Decode in the form of the printed ones. -/
import Derived.Test.YtcdmgalhboijcaaRefdec
import Derived.Test.YtcdmgalhboijcaaGiven
namespace Go.Proofs.Ytcdmgalhboijcaa.D
open Go.RowKit Go.Proofs.YtcdmgalhboijcaaW.PrintWords Go.Proofs.YtcdmgalhboijcaaW.PrintLast Go.Proofs.YtcdmgalhboijcaaW.PrintMore

def cadencyref08_Decode.f (k : Nat) (l0 : List S46) (l1 : List S36) : Option (List S39) := if okL l0 && okR l1 then some ((Sc.decodeL (l0.map toT) (l1.map toR)).map ofJ) else none
theorem cadencyref08_Decode.mono : ∀ a0 a1 k, LeO (cadencyref08_Decode.f k a0 a1) (cadencyref08_Decode.f (k + 1) a0 a1) := fun _ _ _ => LeO.refl _
theorem cadencyref08_Decode.calls (k : Nat) (A0 : Option Addr) (c0 : Nat) (l0 : List S46) (A1 : Option Addr) (c1 : Nat) (l1 : List S36) (r : List S39) (w : World) (hr0 : Kd.C k46 w A0 l0.length l0) (hc0 : l0.length ≤ c0) (hr1 : Kd.C k36 w A1 l1.length l1) (hc1 : l1.length ≤ c1) (h : cadencyref08_Decode.f k l0 l1 = some r) :
    Calls Try.prog 15 #[.slice A0 l0.length c0, .slice A1 l1.length c1] w fun e w' => ∃ v0_ : Value, e = .returned (v0_) ∧ Kd.S k39 39 w' w.heap.size (fun _ => True) v0_ r ∧ Below w.heap.size w w' := by
  unfold cadencyref08_Decode.f at h
  split at h
  · rename_i hok
    simp only [Bool.and_eq_true] at hok
    injection h with h
    subst h
    have h1 := okL_of hok.1
    have hd := Sc.refDecode_any A0 c0 (l0.map toT) A1 c1 (l1.map toR) w h1.1 (by rw [List.length_map]; exact c_toT hr0) (by rw [List.length_map]; exact hc0) (by rw [List.length_map]; exact c_toR hr1) (by rw [List.length_map]; exact hc1) (okR_of hok.2)
    rw [List.length_map, List.length_map] at hd
    refine hd.mono ?_
    rintro e w' ⟨v, rfl, hR, hB⟩
    exact ⟨v, rfl, s_ofJ hR, hB⟩
  · cases h
end Go.Proofs.Ytcdmgalhboijcaa.D
