/- Arguments that came in: slices of structs, as they are read. -/
import Derived.Test.YtcdmgalhboijcaaKinds
import Derived.Deep.Slices
import Derived.ProofKit
import Derived.SizedLaws
import Derived.OpenShut
namespace Go.Proofs.Ytcdmgalhboijcaa.Sc
open Go.RowKit Go.Shelf Go.Maps Go.Proofs.YtcdmgalhboijcaaW.PrintWords Go.Proofs.YtcdmgalhboijcaaW.PrintMore
open Go.ChangeShapes Go.WideShapes Go.ChangeAt Go.Deep

/-- What is trodden as of this type is read as of this kind. -/
def Reads {α : Type} (d : Kd α) (t : TypeId) (ok : α → Prop) : Prop :=
  ∀ {H : Type} {enc : TypeId × Value → H} {w : World} {spare : Nat → Bool} {held : Bool} {fuel : Nat} {cs : List Value} {x : DataW H × List MemPlace},
    DataW.trod enc Try.prog w 0 spare held fuel t cs = some x → ∃ a, d.K w a cs ∧ ok a
theorem reads_int {t : TypeId} {q : IntKind} (ht : Try.prog.underlying t = some (.int q)) : Reads (Kd.int q) t (fun x => (Lit.int q x).wf = true) := by
  intro H enc w spare held fuel cs x h
  obtain ⟨n, rfl, _, hw⟩ := DataW.trod_int ht h
  exact ⟨n, rfl, hw⟩
theorem reads_string {t : TypeId} (ht : Try.prog.underlying t = some .string) : Reads Kd.string t (fun x => x.size ≤ maxLen) := by
  intro H enc w spare held fuel cs x h
  obtain ⟨n, rfl, _, hw⟩ := DataW.trod_string ht h
  exact ⟨n, rfl, hw⟩
theorem reads_slice {α : Type} {d : Kd α} {t e : TypeId} {ok : α → Prop} (ht : Try.prog.underlying t = some (.slice e)) (hs : Try.prog.cellsOf e = d.sz) (hd : Reads d e ok) :
    Reads (Kd.slice e d) t (fun xs => ∀ a ∈ xs, ok a) := by
  intro H enc w spare held fuel cs x h
  rcases open_slice ht h with ⟨rfl, _⟩ | ⟨a, len, cap, m, n, D, Pl, rfl, hb, hl, hm, hmm, rfl, hx⟩
  · exact ⟨[], ⟨none, 0, rfl, Nat.le_refl _, rfl, by simp, fun h => absurd h (by simp)⟩, by simp⟩
  · have hlm : len ≤ m := by rw [hmm]; split <;> omega
    by_cases hne : len = 0
    · subst hne
      exact ⟨[], ⟨some a, cap, by simp, by simp, rfl, by simp, fun h => absurd h (by simp)⟩, by simp⟩
    have hex : ∀ i, ∃ y : α ⊕ Unit, i < len → ∃ z, y = .inl z ∧ ∃ cs', cs'.length = d.sz ∧ d.K w z cs' ∧ ok z ∧ ∀ r u, cs'[r]? = some u → w.cell? (a.add (i * d.sz + r)) = some u := by
      intro i
      by_cases hi : i < len
      · obtain ⟨cs', h1, h2⟩ := hx i (by omega)
        obtain ⟨z, hK, hok⟩ := hd h2
        rw [hs] at h1
        obtain ⟨_, hlen, hcell⟩ := World.cells?_some h1
        refine ⟨.inl z, fun _ => ⟨z, rfl, cs', hlen, hK, hok, fun r u hu => ?_⟩⟩
        have hr : r < cs'.length := by
          rcases Nat.lt_or_ge r cs'.length with h' | h'
          · exact h'
          · rw [List.getElem?_eq_none h'] at hu; cases hu
        have := hcell r (by omega)
        rw [Deep.add_add] at this
        rw [this]
        exact hu
      · exact ⟨.inr (), fun h => absurd h hi⟩
    obtain ⟨g, hg⟩ : ∃ g : Nat → α, ∀ i, i < len → ∃ cs', cs'.length = d.sz ∧ d.K w (g i) cs' ∧ ok (g i) ∧ ∀ r u, cs'[r]? = some u → w.cell? (a.add (i * d.sz + r)) = some u := by
      obtain ⟨y0, hy0⟩ := hex 0
      obtain ⟨z0, _, _⟩ := hy0 (by omega)
      refine ⟨fun i => match Classical.choose (hex i) with | .inl z => z | .inr _ => z0, fun i hi => ?_⟩
      have := Classical.choose_spec (hex i) hi
      obtain ⟨z, hz, h⟩ := this
      simp only [hz]
      exact h
    refine ⟨(List.range len).map g, ⟨some a, cap, by simp, by simpa using hl, by simp, by simp [maxLen] at hm ⊢; omega, fun _ => ⟨a, rfl, fun j p hj => ?_⟩⟩, fun p hp => ?_⟩
    · have hjl : j < len := by
        rcases Nat.lt_or_ge j len with h' | h'
        · exact h'
        · rw [List.getElem?_eq_none (by simpa using h')] at hj; simp at hj
      rw [List.getElem?_map, List.getElem?_range hjl] at hj
      simp at hj
      subst hj
      obtain ⟨cs', h1, h2, _, h3⟩ := hg j hjl
      exact ⟨cs', h1, h2, h3⟩
    · simp only [List.mem_map, List.mem_range] at hp
      obtain ⟨i, hi, rfl⟩ := hp
      obtain ⟨_, _, _, h, _⟩ := hg i hi
      exact h

/-- One cell of a struct, as its field reads. -/
theorem field_of {H : Type} {enc : TypeId × Value → H} {w : World} {spare : Nat → Bool} {held : Bool} {fuel : Nat} {cs : List Value} {x : DataW H × List MemPlace} {t : TypeId} {fs : Array Field} (ht : Try.prog.underlying t = some (.struct fs))
    (h : DataW.trod enc Try.prog w 0 spare held fuel t cs = some x) (i : Nat) (f : Field) (hf : fs[i]? = some f) (ho : f.offset = i) (hc : Try.prog.cellsOf f.type = 1) {α : Type} {d : Kd α} {ok : α → Prop} (hr : Reads d f.type ok) (hd : d.sz = 1) :
    ∃ v a, cs[i]? = some v ∧ d.K w a [v] ∧ ok a := by
  obtain ⟨xs, n, _, _, _, hxl, hff⟩ := DataW.trod_struct ht h
  have hi : i < fs.size := by
    rcases Nat.lt_or_ge i fs.size with h' | h'
    · exact h'
    · rw [Array.getElem?_eq_none h'] at hf; cases hf
  have h1 := hff i f hf
  rw [List.getElem?_eq_getElem (by omega), ho, hc] at h1
  obtain ⟨a, hK, hok⟩ := hr h1
  have hl := d.K_len hK
  rw [hd] at hl
  obtain ⟨v, hv⟩ : ∃ v, (cs.drop i).take 1 = [v] := by
    match hh : (cs.drop i).take 1, hl with
    | [v], _ => exact ⟨v, rfl⟩
  rw [hv] at hK
  refine ⟨v, a, ?_, hK, hok⟩
  have : ((cs.drop i).take 1)[0]? = some v := by rw [hv]; rfl
  simpa using this

/-- A spec of a task. -/
structure Sp where
  c : Int
  d : Int
  j : Int
  q : Int
  t : Int
def kSp : Kd Sp := Kd.iso (Kd.pair (Kd.int .i64) (Kd.pair (Kd.int .i64) (Kd.pair (Kd.int .i64) (Kd.pair (Kd.int .i64) (Kd.int .i64))))) (fun x : Sp => (x.c, x.d, x.j, x.q, x.t))

theorem len_of {H : Type} {enc : TypeId × Value → H} {w : World} {spare : Nat → Bool} {held : Bool} {fuel : Nat} {cs : List Value} {x : DataW H × List MemPlace} {t : TypeId} {fs : Array Field} (ht : Try.prog.underlying t = some (.struct fs))
    (h : DataW.trod enc Try.prog w 0 spare held fuel t cs = some x) : cs.length = Try.prog.cellsOf t := by
  obtain ⟨xs, n, _, _, hl, _, _⟩ := DataW.trod_struct ht h
  exact hl
theorem wf3 (x : Int) (h : (Lit.int .i64 x).wf = true) : -9223372036854775808 ≤ x ∧ x ≤ 9223372036854775807 := bounds_i64 h

def okSp (x : Sp) : Prop := True
theorem reads_sp : Reads kSp 52 okSp := by
  intro H enc w spare held fuel cs x h
  have hl := len_of Try.underlying52 h
  rw [show Try.prog.cellsOf 52 = 5 by kernel_rfl] at hl
  obtain ⟨v0, a0, e0, k0, _⟩ := field_of Try.underlying52 h 0 _ rfl rfl (by kernel_rfl) (reads_int Try.underlying3) rfl
  obtain ⟨v1, a1, e1, k1, _⟩ := field_of Try.underlying52 h 1 _ rfl rfl (by kernel_rfl) (reads_int Try.underlying3) rfl
  obtain ⟨v2, a2, e2, k2, _⟩ := field_of Try.underlying52 h 2 _ rfl rfl (by kernel_rfl) (reads_int Try.underlying3) rfl
  obtain ⟨v3, a3, e3, k3, _⟩ := field_of Try.underlying52 h 3 _ rfl rfl (by kernel_rfl) (reads_int Try.underlying3) rfl
  obtain ⟨v4, a4, e4, k4, _⟩ := field_of Try.underlying52 h 4 _ rfl rfl (by kernel_rfl) (reads_int Try.underlying3) rfl
  obtain rfl : cs = [v0, v1, v2, v3, v4] := by
    match cs, hl with
    | [_, _, _, _, _], _ => simp at e0 e1 e2 e3 e4; simp [e0, e1, e2, e3, e4]
  exact ⟨⟨a0, a1, a2, a3, a4⟩, ⟨[v0], _, rfl, k0, [v1], _, rfl, k1, [v2], _, rfl, k2, [v3], [v4], rfl, k3, k4⟩, trivial⟩

def okRw (x : Rw) : Prop := x.cuts.length ≤ maxLen
theorem reads_rw : Reads kRw 36 okRw := by
  intro H enc w spare held fuel cs x h
  have hl := len_of Try.underlying36 h
  rw [show Try.prog.cellsOf 36 = 5 by kernel_rfl] at hl
  obtain ⟨v0, a0, e0, k0, _⟩ := field_of Try.underlying36 h 0 _ rfl rfl (by kernel_rfl) (reads_int Try.underlying3) rfl
  obtain ⟨v1, a1, e1, k1, _⟩ := field_of Try.underlying36 h 1 _ rfl rfl (by kernel_rfl) (reads_int Try.underlying3) rfl
  obtain ⟨v2, a2, e2, k2, _⟩ := field_of Try.underlying36 h 2 _ rfl rfl (by kernel_rfl) (reads_int Try.underlying3) rfl
  obtain ⟨v3, a3, e3, k3, _⟩ := field_of Try.underlying36 h 3 _ rfl rfl (by kernel_rfl) (reads_int Try.underlying3) rfl
  obtain ⟨v4, a4, e4, k4, _⟩ := field_of Try.underlying36 h 4 _ rfl rfl (by kernel_rfl) (reads_slice (d := Kd.int .i64) Try.underlying34 (by kernel_rfl) (reads_int Try.underlying3)) rfl
  obtain rfl : cs = [v0, v1, v2, v3, v4] := by
    match cs, hl with
    | [_, _, _, _, _], _ => simp at e0 e1 e2 e3 e4; simp [e0, e1, e2, e3, e4]
  refine ⟨⟨a0, a1, a2, a3, a4⟩, ⟨[v0], _, rfl, k0, [v1], _, rfl, k1, [v2], _, rfl, k2, [v3], [v4], rfl, k3, k4⟩, ?_⟩
  obtain ⟨A, c, _, _, h3⟩ := k4
  have := h3.2.1
  simpa [okRw, maxLen] using this

def okTsk (x : Tsk) : Prop := x.nm.size ≤ maxLen ∧ (Lit.int .i64 x.p).wf = true ∧ (-9223372036854775808 ≤ x.c ∧ x.c ≤ 9223372036854775807) ∧ (-9223372036854775808 ≤ x.t ∧ x.t ≤ 9223372036854775807) ∧ (-9223372036854775808 ≤ x.d ∧ x.d ≤ 9223372036854775807) ∧ (-9223372036854775808 ≤ x.j ∧ x.j ≤ 9223372036854775807) ∧ (-9223372036854775808 ≤ x.q ∧ x.q ≤ 9223372036854775807)
theorem reads_tsk : Reads kTsk 46 okTsk := by
  intro H enc w spare held fuel cs x h
  have hl := len_of Try.underlying46 h
  rw [show Try.prog.cellsOf 46 = 7 by kernel_rfl] at hl
  obtain ⟨v0, a0, e0, k0, o0⟩ := field_of Try.underlying46 h 0 _ rfl rfl (by kernel_rfl) (reads_string Try.underlying9) rfl
  obtain ⟨v1, a1, e1, k1, o1⟩ := field_of Try.underlying46 h 1 _ rfl rfl (by kernel_rfl) (reads_int Try.underlying2) rfl
  obtain ⟨v2, a2, e2, k2, o2⟩ := field_of Try.underlying46 h 2 _ rfl rfl (by kernel_rfl) (reads_int Try.underlying2) rfl
  obtain ⟨v3, a3, e3, k3, o3⟩ := field_of Try.underlying46 h 3 _ rfl rfl (by kernel_rfl) (reads_int Try.underlying2) rfl
  obtain ⟨v4, a4, e4, k4, o4⟩ := field_of Try.underlying46 h 4 _ rfl rfl (by kernel_rfl) (reads_int Try.underlying2) rfl
  obtain ⟨v5, a5, e5, k5, o5⟩ := field_of Try.underlying46 h 5 _ rfl rfl (by kernel_rfl) (reads_int Try.underlying2) rfl
  obtain ⟨v6, a6, e6, k6, o6⟩ := field_of Try.underlying46 h 6 _ rfl rfl (by kernel_rfl) (reads_int Try.underlying3) rfl
  obtain rfl : cs = [v0, v1, v2, v3, v4, v5, v6] := by
    match cs, hl with
    | [_, _, _, _, _, _, _], _ => simp at e0 e1 e2 e3 e4 e5 e6; simp [e0, e1, e2, e3, e4, e5, e6]
  exact ⟨⟨a0, a1, a2, a3, a4, a5, a6⟩, ⟨[v0], _, rfl, k0, [v1], _, rfl, k1, [v2], _, rfl, k2, [v3], _, rfl, k3, [v4], _, rfl, k4, [v5], [v6], rfl, k5, k6⟩, o0, o6, wf3 _ o1, wf3 _ o2, wf3 _ o3, wf3 _ o4, wf3 _ o5⟩

/-- An argument that is a slice of such. -/
theorem arg_slice {α : Type} {d : Kd α} {t e : TypeId} {ok : α → Prop} (ht : Try.prog.underlying t = some (.slice e)) (hs : Try.prog.cellsOf e = d.sz) (hd : Reads d e ok) {H : Type} {enc : TypeId × Value → H} {W : World} {spare : Nat → Bool} {held : Bool} {v : Value} {x : DataW H} {p : List MemPlace}
    (h : DataW.Trod enc Try.prog W 0 spare held t v x p) (hv : v.cells.toList = [v]) : ∃ A c xs, v = .slice A xs.length c ∧ xs.length ≤ c ∧ d.C W A xs.length xs ∧ ∀ a ∈ xs, ok a := by
  obtain ⟨fuel, hf⟩ := h
  rw [hv] at hf
  obtain ⟨xs, ⟨A, c, he, hl, hC⟩, hok⟩ := reads_slice ht hs hd hf
  injection he with he
  exact ⟨A, c, xs, he, hl, hC, hok⟩
/-- Read as another kind that lies in memory alike. -/
theorem C_map {α β : Type} {d : Kd α} {d' : Kd β} (g : α → β) (hsz : d'.sz = d.sz) (hK : ∀ {w x cs}, d.K w x cs → d'.K w (g x) cs) {w : World} {A : Option Addr} {n : Nat} {xs : List α} (h : d.C w A n xs) : d'.C w A n (xs.map g) := by
  obtain ⟨h1, h2, h3⟩ := h
  refine ⟨by simpa using h1, h2, fun hn => ?_⟩
  obtain ⟨ad, he, hc⟩ := h3 hn
  refine ⟨ad, he, fun j p hj => ?_⟩
  rw [List.getElem?_map] at hj
  cases hx : xs[j]? with
  | none => rw [hx] at hj; cases hj
  | some x =>
    rw [hx] at hj
    injection hj with hj
    subst hj
    obtain ⟨c, hl, hKc, hcell⟩ := hc j x hx
    exact ⟨c, by rw [hsz]; exact hl, hK hKc, fun i u hu => by rw [hsz]; exact hcell i u hu⟩
end Go.Proofs.Ytcdmgalhboijcaa.Sc
