/- Arguments that are arrays of whole numbers. -/
import Derived.Test.YtcdmgalhboijcaaArgs
namespace Go.Proofs.Ytcdmgalhboijcaa.Sc
open Go.ChangeShapes Go.WideShapes Go.ChangeAt Go.RowKit Go.Proofs.YtcdmgalhboijcaaW.PrintWords

theorem ints_of_array {H : Type} {enc : TypeId × Value → H} {W : World} {spare : Nat → Bool} {held : Bool} {n : Nat} {t : TypeId} {cs : List Value} {x : DataW H × List MemPlace} {fuel : Nat} (ht : Try.prog.underlying t = some (.array n 3))
    (h : DataW.trod enc Try.prog W 0 spare held fuel t cs = some x) (i : Nat) (hi : i < n) (v : Value) (hv : cs[i]? = some v) : ∃ a : Int, v = .int .i64 a ∧ (Lit.int .i64 a).wf = true := by
  obtain ⟨xs, m, _, _, _, hl, hx⟩ := DataW.trod_array ht h
  have h2 := hx i hi
  rw [show Try.prog.cellsOf 3 = 1 by kernel_rfl, Nat.mul_one] at h2
  have h3 : (cs.drop i).take 1 = [v] := by
    have hlt : i < cs.length := by
      rcases Nat.lt_or_ge i cs.length with h' | h'
      · exact h'
      · rw [List.getElem?_eq_none h'] at hv; cases hv
    rw [List.drop_eq_getElem_cons hlt]
    rw [List.getElem?_eq_getElem hlt] at hv
    injection hv with hv
    simp [hv]
  rw [h3, List.getElem?_eq_getElem (by omega)] at h2
  obtain ⟨a, ha, _, hw⟩ := DataW.trod_int Try.underlying3 h2
  injection ha with ha
  exact ⟨a, ha, hw⟩
theorem open32 {H : Type} {enc : TypeId × Value → H} {W : World} {base : Nat} {v : Value} {d : DataW H} {p : List MemPlace} (hok : Value.okWide Try.prog W .any base 32 v)
    (h : DataW.Trod enc Try.prog W 0 (fun _ => true) true 32 v d p) : ∃ q0 q1 : Int, v = .agg #[.int .i64 q0, .int .i64 q1] ∧ (Lit.int .i64 q0).wf = true ∧ (Lit.int .i64 q1).wf = true := by
  simp only [Value.okWide, Try.underlying32] at hok
  obtain ⟨cs, rfl, h2, _⟩ := hok
  rw [show Try.prog.cellsOf 32 = 2 by kernel_rfl] at h2
  obtain ⟨cs⟩ := cs
  obtain ⟨fuel, hf⟩ := h
  match cs, h2 with
  | [v0, v1], _ =>
    have hf' : DataW.trod enc Try.prog W 0 (fun _ => true) true fuel 32 [v0, v1] = some (d, p) := hf
    obtain ⟨a0, rfl, w0⟩ := ints_of_array Try.underlying32 hf' 0 (by omega) v0 rfl
    obtain ⟨a1, rfl, w1⟩ := ints_of_array Try.underlying32 hf' 1 (by omega) v1 rfl
    exact ⟨a0, a1, rfl, w0, w1⟩
theorem open41 {H : Type} {enc : TypeId × Value → H} {W : World} {base : Nat} {v : Value} {d : DataW H} {p : List MemPlace} (hok : Value.okWide Try.prog W .any base 41 v)
    (h : DataW.Trod enc Try.prog W 0 (fun _ => true) true 41 v d p) : ∃ q0 q1 q2 : Int, v = .agg #[.int .i64 q0, .int .i64 q1, .int .i64 q2] ∧ (Lit.int .i64 q0).wf = true ∧ (Lit.int .i64 q1).wf = true ∧ (Lit.int .i64 q2).wf = true := by
  simp only [Value.okWide, Try.underlying41] at hok
  obtain ⟨cs, rfl, h2, _⟩ := hok
  rw [show Try.prog.cellsOf 41 = 3 by kernel_rfl] at h2
  obtain ⟨cs⟩ := cs
  obtain ⟨fuel, hf⟩ := h
  match cs, h2 with
  | [v0, v1, v2], _ =>
    have hf' : DataW.trod enc Try.prog W 0 (fun _ => true) true fuel 41 [v0, v1, v2] = some (d, p) := hf
    obtain ⟨a0, rfl, w0⟩ := ints_of_array Try.underlying41 hf' 0 (by omega) v0 rfl
    obtain ⟨a1, rfl, w1⟩ := ints_of_array Try.underlying41 hf' 1 (by omega) v1 rfl
    obtain ⟨a2, rfl, w2⟩ := ints_of_array Try.underlying41 hf' 2 (by omega) v2 rfl
    exact ⟨a0, a1, a2, rfl, w0, w1, w2⟩
end Go.Proofs.Ytcdmgalhboijcaa.Sc
