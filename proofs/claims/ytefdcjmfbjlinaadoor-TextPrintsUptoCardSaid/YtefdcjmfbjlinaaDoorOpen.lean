/- Arguments that came in: slices of structs, arrays, as they are read. -/
import Derived.Test.YtefdcjmfbjlinaaDoorAx0
import Derived.Test.YtefdcjmfbjlinaaDoorRows
import Derived.Deep.Slices
import Derived.ProofKit
import Derived.SizedLaws
import Derived.OpenShut
namespace Go.Proofs.YtefdcjmfbjlinaaDoor.A
open Go.RowKit Go.Proofs.YtefdcjmfbjlinaaDoorW.PrintWords Go.Proofs.YtefdcjmfbjlinaaDoorW.PrintMore
open Go.ChangeShapes Go.WideShapes Go.ChangeAt Go.Deep

/-- What is trodden as of this type is read as of this kind. -/
def Reads {α : Type} (d : Kd α) (t : TypeId) (ok : α → Prop) : Prop :=
  ∀ {H : Type} {enc : TypeId × Value → H} {w : World} {spare : Nat → Bool} {held : Bool} {fuel : Nat} {cs : List Value} {x : DataW H × List MemPlace},
    DataW.trod enc Tryd.prog w 0 spare held fuel t cs = some x → ∃ a, d.K w a cs ∧ ok a
theorem reads_int {t : TypeId} {q : IntKind} (ht : Tryd.prog.underlying t = some (.int q)) : Reads (Kd.int q) t (fun x => (Lit.int q x).wf = true) := by
  intro H enc w spare held fuel cs x h
  obtain ⟨n, rfl, _, hw⟩ := DataW.trod_int ht h
  exact ⟨n, rfl, hw⟩
theorem reads_string {t : TypeId} (ht : Tryd.prog.underlying t = some .string) : Reads Kd.string t (fun x => x.size ≤ maxLen) := by
  intro H enc w spare held fuel cs x h
  obtain ⟨n, rfl, _, hw⟩ := DataW.trod_string ht h
  exact ⟨n, rfl, hw⟩
theorem reads_slice {α : Type} {d : Kd α} {t e : TypeId} {ok : α → Prop} (ht : Tryd.prog.underlying t = some (.slice e)) (hs : Tryd.prog.cellsOf e = d.sz) (hd : Reads d e ok) :
    Reads (Kd.slice e d) t (fun xs => ∀ a ∈ xs, ok a) := by
  intro H enc w spare held fuel cs x h
  rcases open_slice ht h with ⟨rfl, _⟩ | ⟨a, len, cap, m, n, D, Pl, rfl, hb, hl, hm, hmm, rfl, hx⟩
  · exact ⟨[], ⟨none, 0, rfl, Nat.le_refl _, rfl, by simp, fun h => absurd h (by simp)⟩, by simp⟩
  · have hlm : len ≤ m := by rw [hmm]; split <;> omega
    by_cases hne : len = 0
    · subst hne
      exact ⟨[], ⟨some a, cap, by simp, by simp, rfl, by simp, fun h => absurd h (by simp)⟩, by simp⟩
    have hex : ∀ i, ∃ y : α ⊕ Unit, i < len → ∃ z, y = .inl z ∧ ∃ cs', cs'.length = d.sz ∧ d.K w z cs' ∧ ok z ∧ ∀ r u, cs'[r]? = some u → w.cell? (a.add (i * d.sz + r)) = some u := by
      intro i
      by_cases hi : i < len
      · obtain ⟨cs', h1, h2⟩ := hx i (by omega)
        obtain ⟨z, hK, hok⟩ := hd h2
        rw [hs] at h1
        obtain ⟨_, hlen, hcell⟩ := World.cells?_some h1
        refine ⟨.inl z, fun _ => ⟨z, rfl, cs', hlen, hK, hok, fun r u hu => ?_⟩⟩
        have hr : r < cs'.length := by
          rcases Nat.lt_or_ge r cs'.length with h' | h'
          · exact h'
          · rw [List.getElem?_eq_none h'] at hu; cases hu
        have := hcell r (by omega)
        rw [Deep.add_add] at this
        rw [this]
        exact hu
      · exact ⟨.inr (), fun h => absurd h hi⟩
    obtain ⟨g, hg⟩ : ∃ g : Nat → α, ∀ i, i < len → ∃ cs', cs'.length = d.sz ∧ d.K w (g i) cs' ∧ ok (g i) ∧ ∀ r u, cs'[r]? = some u → w.cell? (a.add (i * d.sz + r)) = some u := by
      obtain ⟨y0, hy0⟩ := hex 0
      obtain ⟨z0, _, _⟩ := hy0 (by omega)
      refine ⟨fun i => match Classical.choose (hex i) with | .inl z => z | .inr _ => z0, fun i hi => ?_⟩
      have := Classical.choose_spec (hex i) hi
      obtain ⟨z, hz, h⟩ := this
      simp only [hz]
      exact h
    refine ⟨(List.range len).map g, ⟨some a, cap, by simp, by simpa using hl, by simp, by simp [maxLen] at hm ⊢; omega, fun _ => ⟨a, rfl, fun j p hj => ?_⟩⟩, fun p hp => ?_⟩
    · have hjl : j < len := by
        rcases Nat.lt_or_ge j len with h' | h'
        · exact h'
        · rw [List.getElem?_eq_none (by simpa using h')] at hj; simp at hj
      rw [List.getElem?_map, List.getElem?_range hjl] at hj
      simp at hj
      subst hj
      obtain ⟨cs', h1, h2, _, h3⟩ := hg j hjl
      exact ⟨cs', h1, h2, h3⟩
    · simp only [List.mem_map, List.mem_range] at hp
      obtain ⟨i, hi, rfl⟩ := hp
      obtain ⟨_, _, _, h, _⟩ := hg i hi
      exact h

/-- One cell of a struct, as its field reads. -/
theorem field_of {H : Type} {enc : TypeId × Value → H} {w : World} {spare : Nat → Bool} {held : Bool} {fuel : Nat} {cs : List Value} {x : DataW H × List MemPlace} {t : TypeId} {fs : Array Field} (ht : Tryd.prog.underlying t = some (.struct fs))
    (h : DataW.trod enc Tryd.prog w 0 spare held fuel t cs = some x) (i : Nat) (f : Field) (hf : fs[i]? = some f) (ho : f.offset = i) (hc : Tryd.prog.cellsOf f.type = 1) {α : Type} {d : Kd α} {ok : α → Prop} (hr : Reads d f.type ok) (hd : d.sz = 1) :
    ∃ v a, cs[i]? = some v ∧ d.K w a [v] ∧ ok a := by
  obtain ⟨xs, n, _, _, _, hxl, hff⟩ := DataW.trod_struct ht h
  have hi : i < fs.size := by
    rcases Nat.lt_or_ge i fs.size with h' | h'
    · exact h'
    · rw [Array.getElem?_eq_none h'] at hf; cases hf
  have h1 := hff i f hf
  rw [List.getElem?_eq_getElem (by omega), ho, hc] at h1
  obtain ⟨a, hK, hok⟩ := hr h1
  have hl := d.K_len hK
  rw [hd] at hl
  obtain ⟨v, hv⟩ : ∃ v, (cs.drop i).take 1 = [v] := by
    match hh : (cs.drop i).take 1, hl with
    | [v], _ => exact ⟨v, rfl⟩
  rw [hv] at hK
  refine ⟨v, a, ?_, hK, hok⟩
  have : ((cs.drop i).take 1)[0]? = some v := by rw [hv]; rfl
  simpa using this

theorem len_of {H : Type} {enc : TypeId × Value → H} {w : World} {spare : Nat → Bool} {held : Bool} {fuel : Nat} {cs : List Value} {x : DataW H × List MemPlace} {t : TypeId} {fs : Array Field} (ht : Tryd.prog.underlying t = some (.struct fs))
    (h : DataW.trod enc Tryd.prog w 0 spare held fuel t cs = some x) : cs.length = Tryd.prog.cellsOf t := by
  obtain ⟨xs, n, _, _, hl, _, _⟩ := DataW.trod_struct ht h
  exact hl
theorem wf3 (x : Int) (h : (Lit.int .i64 x).wf = true) : -9223372036854775808 ≤ x ∧ x ≤ 9223372036854775807 := bounds_i64 h

theorem reads_sp : Reads k43 43 (fun _ => True) := by
  intro H enc w spare held fuel cs x h
  have hl := len_of Tryd.underlying43 h
  rw [show Tryd.prog.cellsOf 43 = 5 by kernel_rfl] at hl
  obtain ⟨v0, a0, e0, k0, _⟩ := field_of Tryd.underlying43 h 0 _ rfl rfl (by kernel_rfl) (reads_int Tryd.underlying3) rfl
  obtain ⟨v1, a1, e1, k1, _⟩ := field_of Tryd.underlying43 h 1 _ rfl rfl (by kernel_rfl) (reads_int Tryd.underlying3) rfl
  obtain ⟨v2, a2, e2, k2, _⟩ := field_of Tryd.underlying43 h 2 _ rfl rfl (by kernel_rfl) (reads_int Tryd.underlying3) rfl
  obtain ⟨v3, a3, e3, k3, _⟩ := field_of Tryd.underlying43 h 3 _ rfl rfl (by kernel_rfl) (reads_int Tryd.underlying3) rfl
  obtain ⟨v4, a4, e4, k4, _⟩ := field_of Tryd.underlying43 h 4 _ rfl rfl (by kernel_rfl) (reads_int Tryd.underlying3) rfl
  obtain rfl : cs = [v0, v1, v2, v3, v4] := by
    match cs, hl with
    | [_, _, _, _, _], _ => simp at e0 e1 e2 e3 e4; simp [e0, e1, e2, e3, e4]
  exact ⟨⟨a0, a1, a2, a3, a4⟩, ⟨[v0], _, rfl, k0, [v1], _, rfl, k1, [v2], _, rfl, k2, [v3], [v4], rfl, k3, k4⟩, trivial⟩
def okTsk (x : S29) : Prop := x.f0.size ≤ maxLen ∧ (-9223372036854775808 ≤ x.f6 ∧ x.f6 ≤ 9223372036854775807) ∧ (-9223372036854775808 ≤ x.f1 ∧ x.f1 ≤ 9223372036854775807) ∧ (-9223372036854775808 ≤ x.f2 ∧ x.f2 ≤ 9223372036854775807) ∧ (-9223372036854775808 ≤ x.f3 ∧ x.f3 ≤ 9223372036854775807) ∧ (-9223372036854775808 ≤ x.f4 ∧ x.f4 ≤ 9223372036854775807) ∧ (-9223372036854775808 ≤ x.f5 ∧ x.f5 ≤ 9223372036854775807)
theorem reads_tsk : Reads k29 29 okTsk := by
  intro H enc w spare held fuel cs x h
  have hl := len_of Tryd.underlying29 h
  rw [show Tryd.prog.cellsOf 29 = 7 by kernel_rfl] at hl
  obtain ⟨v0, a0, e0, k0, o0⟩ := field_of Tryd.underlying29 h 0 _ rfl rfl (by kernel_rfl) (reads_string Tryd.underlying9) rfl
  obtain ⟨v1, a1, e1, k1, o1⟩ := field_of Tryd.underlying29 h 1 _ rfl rfl (by kernel_rfl) (reads_int Tryd.underlying2) rfl
  obtain ⟨v2, a2, e2, k2, o2⟩ := field_of Tryd.underlying29 h 2 _ rfl rfl (by kernel_rfl) (reads_int Tryd.underlying2) rfl
  obtain ⟨v3, a3, e3, k3, o3⟩ := field_of Tryd.underlying29 h 3 _ rfl rfl (by kernel_rfl) (reads_int Tryd.underlying2) rfl
  obtain ⟨v4, a4, e4, k4, o4⟩ := field_of Tryd.underlying29 h 4 _ rfl rfl (by kernel_rfl) (reads_int Tryd.underlying2) rfl
  obtain ⟨v5, a5, e5, k5, o5⟩ := field_of Tryd.underlying29 h 5 _ rfl rfl (by kernel_rfl) (reads_int Tryd.underlying2) rfl
  obtain ⟨v6, a6, e6, k6, o6⟩ := field_of Tryd.underlying29 h 6 _ rfl rfl (by kernel_rfl) (reads_int Tryd.underlying3) rfl
  obtain rfl : cs = [v0, v1, v2, v3, v4, v5, v6] := by
    match cs, hl with
    | [_, _, _, _, _, _, _], _ => simp at e0 e1 e2 e3 e4 e5 e6; simp [e0, e1, e2, e3, e4, e5, e6]
  exact ⟨⟨a0, a1, a2, a3, a4, a5, a6⟩, ⟨[v0], _, rfl, k0, [v1], _, rfl, k1, [v2], _, rfl, k2, [v3], _, rfl, k3, [v4], _, rfl, k4, [v5], [v6], rfl, k5, k6⟩, o0, wf3 _ o6, wf3 _ o1, wf3 _ o2, wf3 _ o3, wf3 _ o4, wf3 _ o5⟩
/-- An argument that is a slice of such. -/
theorem arg_slice {α : Type} {d : Kd α} {t e : TypeId} {ok : α → Prop} (ht : Tryd.prog.underlying t = some (.slice e)) (hs : Tryd.prog.cellsOf e = d.sz) (hd : Reads d e ok) {H : Type} {enc : TypeId × Value → H} {W : World} {spare : Nat → Bool} {held : Bool} {v : Value} {x : DataW H} {p : List MemPlace}
    (h : DataW.Trod enc Tryd.prog W 0 spare held t v x p) (hv : v.cells.toList = [v]) : ∃ A c xs, v = .slice A xs.length c ∧ xs.length ≤ c ∧ d.C W A xs.length xs ∧ ∀ a ∈ xs, ok a := by
  obtain ⟨fuel, hf⟩ := h
  rw [hv] at hf
  obtain ⟨xs, ⟨A, c, he, hl, hC⟩, hok⟩ := reads_slice ht hs hd hf
  injection he with he
  exact ⟨A, c, xs, he, hl, hC, hok⟩
theorem own : ownKnob Tryd.prog.godebug = none := by kernel_rfl
theorem laidOut : laidOutB Tryd.prog = true := by kernel_rfl

/-- All arguments read as they did. -/
theorem trodAll_below {H : Type} {enc : TypeId × Value → H} {P : Program} (hl : laidOutB P = true) {W W' : World} (hb : Below W.heap.size W W') :
    ∀ (ts : List TypeId) (vs : List Value) (ds : List (DataW H)) (ps : List MemPlace), (ts.all fun t => P.readableRec t && decide (t < P.types.size)) = true →
    DataW.TrodAll enc P W 0 (fun _ => true) true ts vs ds ps → (∀ x ∈ ps, x.block < W.heap.size) →
    DataW.TrodAll enc P W' 0 (fun b => decide (b < W.heap.size)) true ts vs ds ps
  | [], vs, ds, ps, _, h, _ => by
    obtain ⟨rfl, rfl, rfl⟩ := trodAll_nil h
    exact trodAll_mk0
  | t :: ts, vs, ds, ps, ht, h, hlt => by
    obtain ⟨v0, vs0, d0, ds0, p0, q0, rfl, rfl, rfl, h0, r0⟩ := trodAll_cons h
    simp only [List.all_cons, Bool.and_eq_true, decide_eq_true_eq] at ht
    exact trodAll_cons_mk (Below.trod hl ht.1.1 ht.1.2 h0 hb (fun x hx => hlt x (by simp [hx])))
      (trodAll_below hl hb ts vs0 ds0 q0 ht.2 r0 (fun x hx => hlt x (by simp [hx])))

set_option maxRecDepth 100000 in
theorem slice_cells {t e : TypeId} (ht : Tryd.prog.underlying t = some (.slice e)) {W : World} {base : Nat} {v : Value} (hok : Value.okWide Tryd.prog W .any base t v) : v.cells.toList = [v] := by
  obtain ⟨a0, len, cap, rfl⟩ := okWide_slice ht hok
  rfl
set_option maxRecDepth 100000 in
/-- The specs of a set, an argument. -/
theorem open_specs {H : Type} {enc : TypeId × Value → H} {W : World} {base : Nat} {v : Value} {d : DataW H} {p : List MemPlace} (hok : Value.okWide Tryd.prog W .any base 23 v)
    (h : DataW.Trod enc Tryd.prog W 0 (fun _ => true) true 23 v d p) : ∃ A c, ∃ l : List S43, v = .slice A l.length c ∧ l.length ≤ c ∧ Kd.C k43 W A l.length l := by
  obtain ⟨A, c, xs, he, hl, hC, _⟩ := arg_slice Tryd.underlying23 (by kernel_rfl) reads_sp h (slice_cells Tryd.underlying23 hok)
  exact ⟨A, c, xs, he, hl, hC⟩
set_option maxRecDepth 100000 in
/-- Tasks, an argument. -/
theorem open_tasks {H : Type} {enc : TypeId × Value → H} {W : World} {base : Nat} {v : Value} {d : DataW H} {p : List MemPlace} (hok : Value.okWide Tryd.prog W .any base 22 v)
    (h : DataW.Trod enc Tryd.prog W 0 (fun _ => true) true 22 v d p) : ∃ A c, ∃ l : List S29, v = .slice A l.length c ∧ l.length ≤ c ∧ Kd.C k29 W A l.length l ∧ ∀ x ∈ l, okTsk x :=
  arg_slice Tryd.underlying22 (by kernel_rfl) reads_tsk h (slice_cells Tryd.underlying22 hok)
end Go.Proofs.YtefdcjmfbjlinaaDoor.A
