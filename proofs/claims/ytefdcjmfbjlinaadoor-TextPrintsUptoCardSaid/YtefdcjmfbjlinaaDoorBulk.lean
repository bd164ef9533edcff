/- What the bound of the second form gives: tasks that came in bear names of at most so many bytes. -/
import Derived.Test.YtefdcjmfbjlinaaDoorOpen
import Derived.Test.YtefdcjmfbjlinaaDoorGivP
namespace Go.Proofs.YtefdcjmfbjlinaaDoor.A
open Go.RowKit Go.Proofs.YtefdcjmfbjlinaaDoorW.PrintWords Go.Proofs.YtefdcjmfbjlinaaDoorW.PrintMore
open Go.ChangeShapes Go.WideShapes Go.ChangeAt Go.Deep

theorem bulk_part {H : Type} {d : DataW H} {l : List (DataW H)} (h : d ∈ l) : Rows.uptoBulk d ≤ Rows.uptoBulkAll l := by
  induction l with
  | nil => cases h
  | cons x r ih =>
    simp only [Rows.uptoBulkAll]
    cases List.mem_cons.1 h with
    | inl e => subst e; omega
    | inr e => have := ih e; omega
theorem bulk_first {H : Type} {d : DataW H} {l gs : List (DataW H)} (h : Rows.uptoSmall H (d :: l ++ gs) = true) : Rows.uptoBulk d ≤ 1048576 := by
  have h1 := of_decide_eq_true h
  exact Nat.le_trans (bulk_part (by simp)) h1
set_option maxRecDepth 100000 in
theorem names_bulk {H : Type} {enc : TypeId × Value → H} {W : World} {spare : Nat → Bool} {held : Bool} {fuel : Nat} {A : Option Addr} {c : Nat} {l : List S29} {x : DataW H × List MemPlace}
    (h : DataW.trod enc Tryd.prog W 0 spare held fuel 22 [.slice A l.length c] = some x) (hC : Kd.C k29 W A l.length l) : ∀ y ∈ l, y.f0.size ≤ Rows.uptoBulk x.1 := by
  intro y hy
  obtain ⟨i, hi⟩ := List.mem_iff_getElem?.1 hy
  have hil : i < l.length := (List.getElem?_eq_some_iff.1 hi).1
  rcases open_slice Tryd.underlying22 h with ⟨hcs, _⟩ | ⟨a, len, cap, m, n, D, Pl, hcs, hb, hl, hm, hmm, rfl, hx⟩
  · simp only [List.cons.injEq, Value.slice.injEq, and_true] at hcs
    omega
  · simp only [List.cons.injEq, Value.slice.injEq, and_true] at hcs
    obtain ⟨rfl, rfl, rfl⟩ := hcs
    have hlm : l.length ≤ m := by rw [hmm]; split <;> omega
    obtain ⟨cs', h1, h2⟩ := hx i (by omega)
    obtain ⟨_, hlen, hcell⟩ := World.cells?_some h1
    have ce : Tryd.prog.cellsOf 29 = 7 := by kernel_rfl
    rw [ce] at hlen hcell
    obtain ⟨ys, k, _, hD, _, hyl, hf⟩ := DataW.trod_struct Tryd.underlying29 h2
    have hf0 := hf 0 _ rfl
    obtain ⟨y0, hy0⟩ : ∃ y0, ys[0]? = some y0 := ⟨_, List.getElem?_eq_getElem (by rw [hyl]; decide)⟩
    rw [hy0] at hf0
    obtain ⟨s, hs, hy0e, _⟩ := DataW.trod_string Tryd.underlying9 hf0
    have cs1 : Tryd.prog.cellsOf 9 = 1 := by kernel_rfl
    have hs : (cs'.drop 0).take (Tryd.prog.cellsOf 9) = [.string s] := hs
    rw [cs1, List.drop_zero] at hs
    have hc0 : cs'[0]? = some (.string s) := by
      have h3 : (cs'.take 1)[0]? = some (.string s) := by rw [hs]; rfl
      rw [List.getElem?_take, if_pos (by omega)] at h3
      exact h3
    have hw0 := hcell 0 (by omega)
    rw [hc0] at hw0
    obtain ⟨ad, cc, he, _, hK, hcc⟩ := Kd.C_get hC z29 (i : Int) (by omega) (by omega)
    injection he with he
    subst he
    have hopen := k29_open hK
    have hz : (i : Int).toNat = i := by omega
    have h7 : k29.sz = 7 := rfl
    have hw1 := hcc 0 (.string y.f0) (by
      rw [hopen, hz, List.getD_eq_getElem?_getD, hi]
      rfl)
    rw [hz, h7, Nat.add_zero] at hw1
    rw [Deep.add_add, Nat.add_zero, hw1] at hw0
    injection hw0 with hw0
    injection hw0 with hw0
    have hin : D i ∈ (List.range l.length).map D := List.mem_map.2 ⟨i, List.mem_range.2 hil, rfl⟩
    have b1 := bulk_part hin
    have b2 : s.data.toList.length + 1 ≤ Rows.uptoBulk (D i) := by
      have hDi : D i = .agg (ys.map (·.1)) := by
        have := congrArg Prod.fst hD
        exact this
      have hin2 : (DataW.lit (.string s.data.toList) : DataW H) ∈ ys.map (·.1) := by
        refine List.mem_map.2 ⟨y0, List.mem_of_getElem? hy0, ?_⟩
        rw [hy0e]
      have b3 := bulk_part hin2
      rw [hDi]
      simp only [Rows.uptoBulk] at b3 ⊢
      omega
    have hsz : s.data.toList.length = s.size := by simp
    simp only [Rows.uptoBulk]
    rw [hw0]
    omega
set_option maxRecDepth 100000 in
/-- Tasks, an argument, within the bound. -/
theorem open_tasksB {H : Type} {enc : TypeId × Value → H} {W : World} {base : Nat} {v : Value} {d : DataW H} {p : List MemPlace} (hok : Value.okWide Tryd.prog W .any base 22 v)
    (h : DataW.Trod enc Tryd.prog W 0 (fun _ => true) true 22 v d p) (hb : Rows.uptoBulk d ≤ 1048576) : ∃ A c, ∃ l : List S29, v = .slice A l.length c ∧ l.length ≤ c ∧ Kd.C k29 W A l.length l ∧ ∀ x ∈ l, Sc.Wide 4000000 (toT x) := by
  obtain ⟨A, c, l, rfl, hl, hC, ht⟩ := open_tasks hok h
  refine ⟨A, c, l, rfl, hl, hC, fun x hx => ?_⟩
  obtain ⟨fuel, hf⟩ := h
  have h1 : x.f0.size ≤ Rows.uptoBulk d := names_bulk (show DataW.trod enc Tryd.prog W 0 (fun _ => true) true fuel 22 [.slice A l.length c] = some (d, p) from hf) hC x hx
  obtain ⟨_, h6, h2, h3, h4, h5, h7⟩ := ht x hx
  exact ⟨by simp only [toT]; omega, h2, h3, h4, h5, h7, h6⟩
end Go.Proofs.YtefdcjmfbjlinaaDoor.A
