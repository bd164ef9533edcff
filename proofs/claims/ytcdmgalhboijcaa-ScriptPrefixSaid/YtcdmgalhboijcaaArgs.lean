/- A law's row out of its walk: arguments that are read and stay as they were. -/
import Derived.Test.YtcdmgalhboijcaaRows
import Derived.Test.YtcdmgalhboijcaaOpen
import Derived.Test.YtcdmgalhboijcaaGiven1
import Derived.ProofKit
import Derived.SizedLaws
import Derived.OpenShut
namespace Go.Proofs.Ytcdmgalhboijcaa.Sc
open Go.ChangeShapes Go.WideShapes Go.ChangeAt Go.RowKit Go.Proofs.YtcdmgalhboijcaaW.PrintWords

theorem own : ownKnob Try.prog.godebug = none := by kernel_rfl
theorem laidOut : laidOutB Try.prog = true := by kernel_rfl

/-- All arguments read as they did. -/
theorem trodAll_below {H : Type} {enc : TypeId × Value → H} {P : Program} (hl : laidOutB P = true) {W W' : World} (hb : Below W.heap.size W W') :
    ∀ (ts : List TypeId) (vs : List Value) (ds : List (DataW H)) (ps : List MemPlace), (ts.all fun t => P.readableRec t && decide (t < P.types.size)) = true →
    DataW.TrodAll enc P W 0 (fun _ => true) true ts vs ds ps → (∀ x ∈ ps, x.block < W.heap.size) →
    DataW.TrodAll enc P W' 0 (fun b => decide (b < W.heap.size)) true ts vs ds ps
  | [], vs, ds, ps, _, h, _ => by
    obtain ⟨rfl, rfl, rfl⟩ := trodAll_nil h
    exact trodAll_mk0
  | t :: ts, vs, ds, ps, ht, h, hlt => by
    obtain ⟨v0, vs0, d0, ds0, p0, q0, rfl, rfl, rfl, h0, r0⟩ := trodAll_cons h
    simp only [List.all_cons, Bool.and_eq_true, decide_eq_true_eq] at ht
    exact trodAll_cons_mk (Below.trod hl ht.1.1 ht.1.2 h0 hb (fun x hx => hlt x (by simp [hx])))
      (trodAll_below hl hb ts vs0 ds0 q0 ht.2 r0 (fun x hx => hlt x (by simp [hx])))

theorem slice_cells {t e : TypeId} (ht : Try.prog.underlying t = some (.slice e)) {W : World} {base : Nat} {v : Value} (hok : Value.okWide Try.prog W .any base t v) : v.cells.toList = [v] := by
  obtain ⟨a0, len, cap, rfl⟩ := okWide_slice ht hok
  rfl
/-- The specs of a set, an argument. -/
theorem open22 {H : Type} {enc : TypeId × Value → H} {W : World} {base : Nat} {v : Value} {d : DataW H} {p : List MemPlace} (hok : Value.okWide Try.prog W .any base 22 v)
    (h : DataW.Trod enc Try.prog W 0 (fun _ => true) true 22 v d p) : ∃ A c, ∃ l : List D.S52, v = .slice A l.length c ∧ l.length ≤ c ∧ Kd.C D.k52 W A l.length l := by
  obtain ⟨A, c, xs, he, hl, hC, _⟩ := arg_slice Try.underlying22 (by kernel_rfl) reads_sp h (slice_cells Try.underlying22 hok)
  exact ⟨A, c, xs.map D.ofS, by rw [List.length_map]; exact he, by rw [List.length_map]; exact hl, by rw [List.length_map]; exact D.c_ofS hC⟩
/-- Raw numbers, an argument. -/
theorem open23 {H : Type} {enc : TypeId × Value → H} {W : World} {base : Nat} {v : Value} {d : DataW H} {p : List MemPlace} (hok : Value.okWide Try.prog W .any base 23 v)
    (h : DataW.Trod enc Try.prog W 0 (fun _ => true) true 23 v d p) : ∃ A c, ∃ l : List D.S36, v = .slice A l.length c ∧ l.length ≤ c ∧ Kd.C D.k36 W A l.length l := by
  obtain ⟨A, c, xs, he, hl, hC, _⟩ := arg_slice Try.underlying23 (by kernel_rfl) reads_rw h (slice_cells Try.underlying23 hok)
  exact ⟨A, c, xs.map D.ofR, by rw [List.length_map]; exact he, by rw [List.length_map]; exact hl, by rw [List.length_map]; exact D.c_ofR hC⟩
/-- Tasks, an argument. -/
theorem open24 {H : Type} {enc : TypeId × Value → H} {W : World} {base : Nat} {v : Value} {d : DataW H} {p : List MemPlace} (hok : Value.okWide Try.prog W .any base 24 v)
    (h : DataW.Trod enc Try.prog W 0 (fun _ => true) true 24 v d p) : ∃ A c, ∃ l : List D.S46, v = .slice A l.length c ∧ l.length ≤ c ∧ Kd.C D.k46 W A l.length l ∧ D.okL l = true := by
  obtain ⟨A, c, xs, he, hl, hC, hx⟩ := arg_slice Try.underlying24 (by kernel_rfl) reads_tsk h (slice_cells Try.underlying24 hok)
  refine ⟨A, c, xs.map D.ofT, by rw [List.length_map]; exact he, by rw [List.length_map]; exact hl, by rw [List.length_map]; exact D.c_ofT hC, ?_⟩
  unfold D.okL
  rw [List.all_eq_true]
  intro y hy
  obtain ⟨z, hz, rfl⟩ := List.mem_map.1 hy
  have := hx z hz
  rw [Bool.and_eq_true, decide_eq_true_eq, decide_eq_true_eq]
  exact ⟨this.1, this.2.1⟩
end Go.Proofs.Ytcdmgalhboijcaa.Sc
