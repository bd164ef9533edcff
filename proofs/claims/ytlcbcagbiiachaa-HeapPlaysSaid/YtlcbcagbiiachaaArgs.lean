/- A law's row out of its walk: arguments that are read and stay as they were. -/
import Derived.Test.YtlcbcagbiiachaaRows
import Derived.Test.YtlcbcagbiiachaaNew
import Derived.ProofKit
import Derived.SizedLaws
import Derived.OpenShut
import Derived.SliceStrings
namespace Go.Proofs.Ytlcbcagbiiachaa
open Go.ChangeShapes Go.WideShapes Go.ChangeAt Go.RowKit

theorem own : ownKnob Try.prog.godebug = none := by kernel_rfl
theorem laidOut : laidOutB Try.prog = true := by kernel_rfl

/-- All arguments read as they did. -/
theorem trodAll_below {H : Type} {enc : TypeId × Value → H} {P : Program} (hl : laidOutB P = true) {W W' : World} (hb : Below W.heap.size W W') :
    ∀ (ts : List TypeId) (vs : List Value) (ds : List (DataW H)) (ps : List MemPlace), (ts.all fun t => P.readableRec t && decide (t < P.types.size)) = true →
    DataW.TrodAll enc P W 0 (fun _ => true) true ts vs ds ps → (∀ x ∈ ps, x.block < W.heap.size) →
    DataW.TrodAll enc P W' 0 (fun b => decide (b < W.heap.size)) true ts vs ds ps
  | [], vs, ds, ps, _, h, _ => by
    obtain ⟨rfl, rfl, rfl⟩ := trodAll_nil h
    exact trodAll_mk0
  | t :: ts, vs, ds, ps, ht, h, hlt => by
    obtain ⟨v0, vs0, d0, ds0, p0, q0, rfl, rfl, rfl, h0, r0⟩ := trodAll_cons h
    simp only [List.all_cons, Bool.and_eq_true, decide_eq_true_eq] at ht
    exact trodAll_cons_mk (Below.trod hl ht.1.1 ht.1.2 h0 hb (fun x hx => hlt x (by simp [hx])))
      (trodAll_below hl hb ts vs0 ds0 q0 ht.2 r0 (fun x hx => hlt x (by simp [hx])))

theorem strs_of {H : Type} {enc : TypeId × Value → H} {W : World} {base : Nat} {v : Value} {d : DataW H} {p : List MemPlace} (hok : Value.okWide Try.prog W .any base 23 v)
    (h : DataW.Trod enc Try.prog W 0 (fun _ => true) true 23 v d p) : ∃ ss, RowAt (fun x : ByteArray => .string x) W v ss ∧ ss.length ≤ maxLen := by
  obtain ⟨a0, len, cap, rfl⟩ := okWide_slice Try.underlying23 hok
  obtain ⟨fuel, hf⟩ := h
  rcases open_strings Try.underlying23 Try.underlying9 (by kernel_rfl) hf with ⟨hcs, hx⟩ | ⟨a, len', cap', ss, hcs, _, hl, hm, hz, hx, hcell, hws⟩
  · simp [Value.cells] at hcs
    obtain ⟨rfl, rfl, rfl⟩ := hcs
    exact ⟨[], ⟨none, 0, rfl, by simp, by simp⟩, by simp⟩
  · simp [Value.cells] at hcs
    obtain ⟨rfl, rfl, rfl⟩ := hcs
    simp only [if_true] at hz
    refine ⟨ss.take len, ⟨some a, cap, by simp; omega, by simp; omega, fun hne => ?_⟩, by simp; omega⟩
    obtain ⟨b, off, spot⟩ := a
    have h0 : 0 < ss.length := by
      rcases Nat.eq_zero_or_pos ss.length with h | h
      · exact absurd (by rw [List.length_eq_zero_iff.1 h]; simp) hne
      · exact h
    have hspot : spot = none := by simpa [Addr.add] using World.cell?_spot (hcell 0 h0)
    subst hspot
    refine ⟨b, off, rfl, fun i x hx => ?_⟩
    rw [List.getElem?_take] at hx
    split at hx
    · have hi : i < ss.length := by
        rcases Nat.lt_or_ge i ss.length with h' | h'
        · exact h'
        · rw [List.getElem?_eq_none h'] at hx; cases hx
      have := hcell i hi
      rw [addr_add] at this
      rw [this, List.getD_eq_getElem?_getD, hx]
      rfl
    · cases hx

theorem ints_of {H : Type} {enc : TypeId × Value → H} {W : World} {base : Nat} {v : Value} {d : DataW H} {p : List MemPlace} (hok : Value.okWide Try.prog W .any base 22 v)
    (h : DataW.Trod enc Try.prog W 0 (fun _ => true) true 22 v d p) : ∃ xs, RowAt (fun x : Int => .int .i64 x) W v xs ∧ xs.length ≤ maxLen ∧ ∀ x ∈ xs, (Lit.int .i64 x).wf = true := by
  obtain ⟨a0, len, cap, rfl⟩ := okWide_slice Try.underlying22 hok
  obtain ⟨fuel, hf⟩ := h
  rcases open_ints Try.underlying22 Try.underlying3 (by kernel_rfl) hf with ⟨hcs, hx⟩ | ⟨a, len', cap', ss, hcs, _, hl, hm, hz, hx, hcell, hws⟩
  · simp [Value.cells] at hcs
    obtain ⟨rfl, rfl, rfl⟩ := hcs
    exact ⟨[], ⟨none, 0, rfl, by simp, by simp⟩, by simp, by simp⟩
  · simp [Value.cells] at hcs
    obtain ⟨rfl, rfl, rfl⟩ := hcs
    simp only [if_true] at hz
    refine ⟨ss.take len, ⟨some a, cap, by simp; omega, by simp; omega, fun hne => ?_⟩, by simp; omega, fun x hx => hws x (List.mem_of_mem_take hx)⟩
    obtain ⟨b, off, spot⟩ := a
    have h0 : 0 < ss.length := by
      rcases Nat.eq_zero_or_pos ss.length with h | h
      · exact absurd (by rw [List.length_eq_zero_iff.1 h]; simp) hne
      · exact h
    have hspot : spot = none := by simpa [Addr.add] using World.cell?_spot (hcell 0 h0)
    subst hspot
    refine ⟨b, off, rfl, fun i x hx => ?_⟩
    rw [List.getElem?_take] at hx
    split at hx
    · have hi : i < ss.length := by
        rcases Nat.lt_or_ge i ss.length with h' | h'
        · exact h'
        · rw [List.getElem?_eq_none h'] at hx; cases hx
      have := hcell i hi
      rw [addr_add] at this
      rw [this, List.getD_eq_getElem?_getD, hx]
      rfl
    · cases hx

end Go.Proofs.Ytlcbcagbiiachaa
