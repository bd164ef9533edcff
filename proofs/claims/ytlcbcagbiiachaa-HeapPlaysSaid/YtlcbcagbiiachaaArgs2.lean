/- An argument that is a slice of acts. -/
import Derived.Test.YtlcbcagbiiachaaArgs
import Derived.Test.YtlcbcagbiiachaaPlays
import Derived.Deep.Slices
namespace Go.Proofs.Ytlcbcagbiiachaa
open Go.ChangeShapes Go.WideShapes Go.ChangeAt Go.RowKit Go.Deep

theorem act_field {H : Type} {enc : TypeId × Value → H} {w : World} {spare : Nat → Bool} {held : Bool} {fuel : Nat} {cs : List Value} {x : DataW H × List MemPlace} {fs : Array Field} (ht : Try.prog.underlying 62 = some (.struct fs))
    (h : DataW.trod enc Try.prog w 0 spare held fuel 62 cs = some x) (i : Nat) (f : Field) (hf : fs[i]? = some f) (ho : f.offset = i) (hc : Try.prog.cellsOf f.type = 1) (hu : Try.prog.underlying f.type = some (.int .i64)) :
    ∃ a, cs[i]? = some (.int .i64 a) ∧ (Lit.int .i64 a).wf = true := by
  obtain ⟨xs, n, _, _, _, hxl, hff⟩ := DataW.trod_struct ht h
  have hi : i < fs.size := by
    rcases Nat.lt_or_ge i fs.size with h' | h'
    · exact h'
    · rw [Array.getElem?_eq_none h'] at hf; cases hf
  have h1 := hff i f hf
  rw [List.getElem?_eq_getElem (by omega), ho, hc] at h1
  obtain ⟨a, he, _, hw⟩ := DataW.trod_int hu h1
  refine ⟨a, ?_, hw⟩
  have : ((cs.drop i).take 1)[0]? = some (.int .i64 a) := by rw [he]; rfl
  simpa using this
theorem act_cells {H : Type} {enc : TypeId × Value → H} {w : World} {spare : Nat → Bool} {held : Bool} {fuel : Nat} {cs : List Value} {x : DataW H × List MemPlace}
    (h : DataW.trod enc Try.prog w 0 spare held fuel 62 cs = some x) : ∃ p : Int × Int, cs = [.int .i64 p.1, .int .i64 p.2] ∧ (Lit.int .i64 p.1).wf = true ∧ (Lit.int .i64 p.2).wf = true := by
  have hl : cs.length = Try.prog.cellsOf 62 := by
    obtain ⟨xs, n, _, _, hl, _, _⟩ := DataW.trod_struct Try.underlying62 h
    exact hl
  rw [show Try.prog.cellsOf 62 = 2 by kernel_rfl] at hl
  obtain ⟨a0, e0, o0⟩ := act_field Try.underlying62 h 0 _ rfl rfl (by kernel_rfl) Try.underlying3
  obtain ⟨a1, e1, o1⟩ := act_field Try.underlying62 h 1 _ rfl rfl (by kernel_rfl) Try.underlying3
  refine ⟨(a0, a1), ?_, o0, o1⟩
  match cs, hl with
  | [_, _], _ => simp at e0 e1; simp [e0, e1]

theorem acts_of {H : Type} {enc : TypeId × Value → H} {W : World} {v : Value} {d : DataW H} {p : List MemPlace} (hv : v.cells.toList = [v])
    (h : DataW.Trod enc Try.prog W 0 (fun _ => true) true 55 v d p) : ∃ xs : List (Int × Int), RowAct W v xs ∧ xs.length ≤ maxLen ∧ ∀ x ∈ xs, (Lit.int .i64 x.1).wf = true ∧ (Lit.int .i64 x.2).wf = true := by
  obtain ⟨fuel, hf⟩ := h
  rw [hv] at hf
  rcases open_slice Try.underlying55 hf with ⟨he, _⟩ | ⟨a, len, cap, m, n, D, Pl, he, hb, hl, hm, hmm, -, hx⟩
  · injection he with he
    exact ⟨[], ⟨none, 0, he, Nat.le_refl _, by simp⟩, by simp, by simp⟩
  · injection he with he
    subst he
    have hlm : len ≤ m := by rw [hmm]; split <;> omega
    have hex : ∀ i, ∃ z : Int × Int, i < len → (Lit.int .i64 z.1).wf = true ∧ (Lit.int .i64 z.2).wf = true ∧ W.cell? (a.add (i * 2)) = some (.int .i64 z.1) ∧ W.cell? (a.add (i * 2 + 1)) = some (.int .i64 z.2) := by
      intro i
      by_cases hi : i < len
      · obtain ⟨cs', h1, h2⟩ := hx i (by omega)
        obtain ⟨z, rfl, w0, w1⟩ := act_cells h2
        rw [show Try.prog.cellsOf 62 = 2 by kernel_rfl] at h1
        obtain ⟨_, hlen, hcell⟩ := World.cells?_some h1
        have c0 := hcell 0 (by decide)
        have c1 := hcell 1 (by decide)
        rw [Deep.add_add] at c0 c1
        exact ⟨z, fun _ => ⟨w0, w1, c0, c1⟩⟩
      · exact ⟨(0, 0), fun h => absurd h hi⟩
    obtain ⟨g, hg⟩ : ∃ g : Nat → Int × Int, ∀ i, i < len → (Lit.int .i64 (g i).1).wf = true ∧ (Lit.int .i64 (g i).2).wf = true ∧ W.cell? (a.add (i * 2)) = some (.int .i64 (g i).1) ∧ W.cell? (a.add (i * 2 + 1)) = some (.int .i64 (g i).2) :=
      ⟨fun i => Classical.choose (hex i), fun i hi => Classical.choose_spec (hex i) hi⟩
    refine ⟨(List.range len).map g, ⟨some a, cap, by simp, by simpa using hl, fun j q hj => ?_⟩, by simp; unfold maxLen at hm ⊢; omega, fun x hx => ?_⟩
    · have hjl : j < len := by
        rcases Nat.lt_or_ge j len with h' | h'
        · exact h'
        · rw [List.getElem?_eq_none (by simpa using h')] at hj; simp at hj
      rw [List.getElem?_map, List.getElem?_range hjl] at hj
      simp at hj
      subst hj
      obtain ⟨_, _, c0, c1⟩ := hg j hjl
      obtain ⟨b, off, spot⟩ := a
      have hspot : spot = none := by
        obtain ⟨_, _, c00, _⟩ := hg 0 (by omega)
        simpa [Addr.add] using World.cell?_spot c00
      subst hspot
      refine ⟨b, off, rfl, ?_, ?_⟩
      · rw [addr_add] at c0
        exact c0
      · rw [addr_add, ← Nat.add_assoc] at c1
        exact c1
    · simp only [List.mem_map, List.mem_range] at hx
      obtain ⟨i, hi, rfl⟩ := hx
      obtain ⟨h1, h2, _⟩ := hg i hi
      exact ⟨h1, h2⟩
end Go.Proofs.Ytlcbcagbiiachaa
