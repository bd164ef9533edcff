/- A law's row out of its walk: arguments that are read and stay as they were. -/
import Derived.Test.YtcdmgalhboijcaaRows
import Derived.Test.YtcdmgalhboijcaaOpen
import Derived.Test.YtcdmgalhboijcaaGiven1
import Derived.ProofKit
import Derived.SizedLaws
import Derived.OpenShut
namespace Go.Proofs.Ytcdmgalhboijcaa.Sc
open Go.ChangeShapes Go.WideShapes Go.ChangeAt Go.RowKit Go.Proofs.YtcdmgalhboijcaaW.PrintWords

theorem own : ownKnob Try.prog.godebug = none := by kernel_rfl
theorem laidOut : laidOutB Try.prog = true := by kernel_rfl

/-- All arguments read as they did. -/
theorem trodAll_below {H : Type} {enc : TypeId × Value → H} {P : Program} (hl : laidOutB P = true) {W W' : World} (hb : Below W.heap.size W W') :
    ∀ (ts : List TypeId) (vs : List Value) (ds : List (DataW H)) (ps : List MemPlace), (ts.all fun t => P.readableRec t && decide (t < P.types.size)) = true →
    DataW.TrodAll enc P W 0 (fun _ => true) true ts vs ds ps → (∀ x ∈ ps, x.block < W.heap.size) →
    DataW.TrodAll enc P W' 0 (fun b => decide (b < W.heap.size)) true ts vs ds ps
  | [], vs, ds, ps, _, h, _ => by
    obtain ⟨rfl, rfl, rfl⟩ := trodAll_nil h
    exact trodAll_mk0
  | t :: ts, vs, ds, ps, ht, h, hlt => by
    obtain ⟨v0, vs0, d0, ds0, p0, q0, rfl, rfl, rfl, h0, r0⟩ := trodAll_cons h
    simp only [List.all_cons, Bool.and_eq_true, decide_eq_true_eq] at ht
    exact trodAll_cons_mk (Below.trod hl ht.1.1 ht.1.2 h0 hb (fun x hx => hlt x (by simp [hx])))
      (trodAll_below hl hb ts vs0 ds0 q0 ht.2 r0 (fun x hx => hlt x (by simp [hx])))

theorem slice_cells {t e : TypeId} (ht : Try.prog.underlying t = some (.slice e)) {W : World} {base : Nat} {v : Value} (hok : Value.okWide Try.prog W .any base t v) : v.cells.toList = [v] := by
  obtain ⟨a0, len, cap, rfl⟩ := okWide_slice ht hok
  rfl
/-- The specs of a set, an argument. -/
theorem open22 {H : Type} {enc : TypeId × Value → H} {W : World} {base : Nat} {v : Value} {d : DataW H} {p : List MemPlace} (hok : Value.okWide Try.prog W .any base 22 v)
    (h : DataW.Trod enc Try.prog W 0 (fun _ => true) true 22 v d p) : ∃ A c, ∃ l : List D.S52, v = .slice A l.length c ∧ l.length ≤ c ∧ Kd.C D.k52 W A l.length l := by
  obtain ⟨A, c, xs, he, hl, hC, _⟩ := arg_slice Try.underlying22 (by kernel_rfl) reads_sp h (slice_cells Try.underlying22 hok)
  exact ⟨A, c, xs.map D.ofS, by rw [List.length_map]; exact he, by rw [List.length_map]; exact hl, by rw [List.length_map]; exact D.c_ofS hC⟩
/-- Raw numbers, an argument. -/
theorem open23 {H : Type} {enc : TypeId × Value → H} {W : World} {base : Nat} {v : Value} {d : DataW H} {p : List MemPlace} (hok : Value.okWide Try.prog W .any base 23 v)
    (h : DataW.Trod enc Try.prog W 0 (fun _ => true) true 23 v d p) : ∃ A c, ∃ l : List D.S36, v = .slice A l.length c ∧ l.length ≤ c ∧ Kd.C D.k36 W A l.length l := by
  obtain ⟨A, c, xs, he, hl, hC, _⟩ := arg_slice Try.underlying23 (by kernel_rfl) reads_rw h (slice_cells Try.underlying23 hok)
  exact ⟨A, c, xs.map D.ofR, by rw [List.length_map]; exact he, by rw [List.length_map]; exact hl, by rw [List.length_map]; exact D.c_ofR hC⟩
/-- Tasks, an argument. -/
theorem open24 {H : Type} {enc : TypeId × Value → H} {W : World} {base : Nat} {v : Value} {d : DataW H} {p : List MemPlace} (hok : Value.okWide Try.prog W .any base 24 v)
    (h : DataW.Trod enc Try.prog W 0 (fun _ => true) true 24 v d p) : ∃ A c, ∃ l : List D.S46, v = .slice A l.length c ∧ l.length ≤ c ∧ Kd.C D.k46 W A l.length l ∧ D.okL l = true := by
  obtain ⟨A, c, xs, he, hl, hC, hx⟩ := arg_slice Try.underlying24 (by kernel_rfl) reads_tsk h (slice_cells Try.underlying24 hok)
  refine ⟨A, c, xs.map D.ofT, by rw [List.length_map]; exact he, by rw [List.length_map]; exact hl, by rw [List.length_map]; exact D.c_ofT hC, ?_⟩
  unfold D.okL
  rw [List.all_eq_true]
  intro y hy
  obtain ⟨z, hz, rfl⟩ := List.mem_map.1 hy
  have := hx z hz
  rw [Bool.and_eq_true, decide_eq_true_eq, decide_eq_true_eq]
  exact ⟨this.1, this.2.1⟩
end Go.Proofs.Ytcdmgalhboijcaa.Sc
/- Arguments that are arrays of whole numbers. -/
namespace Go.Proofs.Ytcdmgalhboijcaa.Sc
open Go.ChangeShapes Go.WideShapes Go.ChangeAt Go.RowKit Go.Proofs.YtcdmgalhboijcaaW.PrintWords

theorem ints_of_array {H : Type} {enc : TypeId × Value → H} {W : World} {spare : Nat → Bool} {held : Bool} {n : Nat} {t : TypeId} {cs : List Value} {x : DataW H × List MemPlace} {fuel : Nat} (ht : Try.prog.underlying t = some (.array n 3))
    (h : DataW.trod enc Try.prog W 0 spare held fuel t cs = some x) (i : Nat) (hi : i < n) (v : Value) (hv : cs[i]? = some v) : ∃ a : Int, v = .int .i64 a ∧ (Lit.int .i64 a).wf = true := by
  obtain ⟨xs, m, _, _, _, hl, hx⟩ := DataW.trod_array ht h
  have h2 := hx i hi
  rw [show Try.prog.cellsOf 3 = 1 by kernel_rfl, Nat.mul_one] at h2
  have h3 : (cs.drop i).take 1 = [v] := by
    have hlt : i < cs.length := by
      rcases Nat.lt_or_ge i cs.length with h' | h'
      · exact h'
      · rw [List.getElem?_eq_none h'] at hv; cases hv
    rw [List.drop_eq_getElem_cons hlt]
    rw [List.getElem?_eq_getElem hlt] at hv
    injection hv with hv
    simp [hv]
  rw [h3, List.getElem?_eq_getElem (by omega)] at h2
  obtain ⟨a, ha, _, hw⟩ := DataW.trod_int Try.underlying3 h2
  injection ha with ha
  exact ⟨a, ha, hw⟩
theorem open32 {H : Type} {enc : TypeId × Value → H} {W : World} {base : Nat} {v : Value} {d : DataW H} {p : List MemPlace} (hok : Value.okWide Try.prog W .any base 32 v)
    (h : DataW.Trod enc Try.prog W 0 (fun _ => true) true 32 v d p) : ∃ q0 q1 : Int, v = .agg #[.int .i64 q0, .int .i64 q1] ∧ (Lit.int .i64 q0).wf = true ∧ (Lit.int .i64 q1).wf = true := by
  simp only [Value.okWide, Try.underlying32] at hok
  obtain ⟨cs, rfl, h2, _⟩ := hok
  rw [show Try.prog.cellsOf 32 = 2 by kernel_rfl] at h2
  obtain ⟨cs⟩ := cs
  obtain ⟨fuel, hf⟩ := h
  match cs, h2 with
  | [v0, v1], _ =>
    have hf' : DataW.trod enc Try.prog W 0 (fun _ => true) true fuel 32 [v0, v1] = some (d, p) := hf
    obtain ⟨a0, rfl, w0⟩ := ints_of_array Try.underlying32 hf' 0 (by omega) v0 rfl
    obtain ⟨a1, rfl, w1⟩ := ints_of_array Try.underlying32 hf' 1 (by omega) v1 rfl
    exact ⟨a0, a1, rfl, w0, w1⟩
theorem open41 {H : Type} {enc : TypeId × Value → H} {W : World} {base : Nat} {v : Value} {d : DataW H} {p : List MemPlace} (hok : Value.okWide Try.prog W .any base 41 v)
    (h : DataW.Trod enc Try.prog W 0 (fun _ => true) true 41 v d p) : ∃ q0 q1 q2 : Int, v = .agg #[.int .i64 q0, .int .i64 q1, .int .i64 q2] ∧ (Lit.int .i64 q0).wf = true ∧ (Lit.int .i64 q1).wf = true ∧ (Lit.int .i64 q2).wf = true := by
  simp only [Value.okWide, Try.underlying41] at hok
  obtain ⟨cs, rfl, h2, _⟩ := hok
  rw [show Try.prog.cellsOf 41 = 3 by kernel_rfl] at h2
  obtain ⟨cs⟩ := cs
  obtain ⟨fuel, hf⟩ := h
  match cs, h2 with
  | [v0, v1, v2], _ =>
    have hf' : DataW.trod enc Try.prog W 0 (fun _ => true) true fuel 41 [v0, v1, v2] = some (d, p) := hf
    obtain ⟨a0, rfl, w0⟩ := ints_of_array Try.underlying41 hf' 0 (by omega) v0 rfl
    obtain ⟨a1, rfl, w1⟩ := ints_of_array Try.underlying41 hf' 1 (by omega) v1 rfl
    obtain ⟨a2, rfl, w2⟩ := ints_of_array Try.underlying41 hf' 2 (by omega) v2 rfl
    exact ⟨a0, a1, a2, rfl, w0, w1, w2⟩
end Go.Proofs.Ytcdmgalhboijcaa.Sc
