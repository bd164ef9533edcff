/- The contracts of text.Line and text.Print, in the form of the printed ones. -/
import Derived.Test.YtefdcjmfbjlinaaDoorAx0
import Derived.Test.YtefdcjmfbjlinaaDoorGivT
import Derived.Test.YtefdcjmfbjlinaaDoorPrint
namespace Go.Proofs.YtefdcjmfbjlinaaDoor.A
open Go.RowKit Go.Proofs.YtefdcjmfbjlinaaDoorW.PrintWords Go.Proofs.YtefdcjmfbjlinaaDoorW.PrintLast Go.Proofs.YtefdcjmfbjlinaaDoorW.PrintMore
open Sc (addr_add)

theorem c_addr {α : Type} {d : Kd α} {w : World} {A : Option Addr} {xs : List α} (h : d.C w A xs.length xs) (hs : 0 < d.sz) : xs = [] ∨ ∃ b o, A = some ⟨b, o, none⟩ := by
  cases xs with
  | nil => exact .inl rfl
  | cons x xs =>
    right
    obtain ⟨h1, h2, h3⟩ := h
    obtain ⟨ad, he, hc⟩ := h3 (by simp)
    obtain ⟨c, hl, hK, hcell⟩ := hc 0 x rfl
    obtain ⟨u, hu⟩ : ∃ u, c[0]? = some u := ⟨c[0]'(by omega), by simp⟩
    have := hcell 0 u hu
    obtain ⟨b, off, spot⟩ := ad
    have hspot : spot = none := by simpa [Addr.add] using World.cell?_spot this
    subst hspot
    exact ⟨b, off, he⟩
theorem c_cells {α : Type} {d : Kd α} {w : World} {b o : Nat} {xs : List α} (h : d.C w (some ⟨b, o, none⟩) xs.length xs) (i : Nat) (x : α) (hx : xs[i]? = some x) : ∃ cs, d.K w x cs ∧ ∀ r u, cs[r]? = some u → w.cell? ⟨b, o + i * d.sz + r, none⟩ = some u := by
  obtain ⟨h1, h2, h3⟩ := h
  have hi : i < xs.length := by
    rcases Nat.lt_or_ge i xs.length with h' | h'
    · exact h'
    · rw [List.getElem?_eq_none h'] at hx; cases hx
  obtain ⟨ad, he, hc⟩ := h3 (by omega)
  injection he with he
  subst he
  obtain ⟨c, hl, hK, hcell⟩ := hc i x hx
  refine ⟨c, hK, fun r u hu => ?_⟩
  have := hcell r u hu
  rw [addr_add] at this
  rwa [Nat.add_assoc]
def toT (x : S29) : Sc.Tsk := ⟨x.f0, x.f1, x.f2, x.f3, x.f4, x.f5, x.f6⟩
theorem row_toT {w : World} {A : Option Addr} {xs : List S29} (h : Kd.C k29 w A xs.length xs) : Sc.RowTsk w A (xs.map toT) := by
  intro i y hy
  rw [List.getElem?_map] at hy
  obtain ⟨x, hx, rfl⟩ := Option.map_eq_some_iff.1 hy
  rcases c_addr h (by decide) with rfl | ⟨b, o, rfl⟩
  · simp at hx
  · obtain ⟨cs, hK, hc⟩ := c_cells h i x hx
    rw [k29_open hK] at hc
    exact ⟨b, o, rfl, hc⟩
def i64B (n : Int) : Bool := decide (-9223372036854775808 ≤ n) && decide (n ≤ 9223372036854775807)
def wideB (x : S29) : Bool := decide (x.f0.size ≤ 4000000) && (i64B x.f1 && (i64B x.f2 && (i64B x.f3 && (i64B x.f4 && (i64B x.f5 && i64B x.f6)))))
theorem wide_of {x : S29} (h : wideB x = true) : Sc.Wide 4000000 (toT x) := by
  unfold wideB i64B at h
  simp only [Bool.and_eq_true, decide_eq_true_eq] at h
  exact ⟨h.1, h.2.1, h.2.2.1, h.2.2.2.1, h.2.2.2.2.1, h.2.2.2.2.2.1, h.2.2.2.2.2.2⟩
def text_Print.f (l0 : List S29) : Option ByteArray := if (decide (l0.length ≤ 10000) && l0.all wideB) = true then some (Sc.printS (l0.map toT)) else none
theorem text_Print.calls (A0 : Option Addr) (c0 : Nat) (l0 : List S29) (r : ByteArray) (w : World) (HTAB : Aside0 (Sc.Tab w)) (hr0 : Kd.C k29 w A0 l0.length l0) (hc0 : l0.length ≤ c0) (h : text_Print.f l0 = some r) :
    Calls Tryd.prog 9 #[.slice A0 l0.length c0] w fun e w' => e = .returned (.string r) ∧ Below w.heap.size w w' := by
  unfold text_Print.f at h
  split at h
  · rename_i hc
    simp only [Option.some.injEq, Bool.and_eq_true, decide_eq_true_eq, List.all_eq_true] at h hc
    subst h
    have := Sc.print_any A0 c0 (l0.map toT) w (row_toT hr0) (by simpa using hc.1) (fun y hy => by
      obtain ⟨x, hx, rfl⟩ := List.mem_map.1 hy
      exact wide_of (hc.2 x hx)) HTAB.out
    rw [List.length_map] at this
    exact this
  · cases h
def text_Line.f (a0 : ByteArray) (a1 a2 a3 a4 a5 a6 : Int) : Option ByteArray := if wideB ⟨a0, a1, a2, a3, a4, a5, a6⟩ = true then some (Sc.lineS ⟨a0, a1, a2, a3, a4, a5, a6⟩) else none
theorem text_Line.calls (a0 : ByteArray) (a1 a2 a3 a4 a5 a6 : Int) (r : ByteArray) (w : World) (HTAB : Aside0 (Sc.Tab w)) (h : text_Line.f a0 a1 a2 a3 a4 a5 a6 = some r) :
    Calls Tryd.prog 11 #[.agg #[.string a0, .int .i64 a1, .int .i64 a2, .int .i64 a3, .int .i64 a4, .int .i64 a5, .int .i64 a6]] w fun e w' => e = .returned (.string r) ∧ Below w.heap.size w w' := by
  unfold text_Line.f at h
  split at h
  · rename_i hc
    simp only [Option.some.injEq] at h
    subst h
    exact Sc.line_any _ w (wide_of hc) HTAB.out
  · cases h
end Go.Proofs.YtefdcjmfbjlinaaDoor.A
