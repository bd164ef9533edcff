/- The contracts of scan's Lex and Word, and of each, in the form of the printed ones. -/
import Derived.Test.YtehlabphhcdooaaS5x0
import Derived.Test.YtehlabphhcdooaaLex2
import Derived.Test.YtehlabphhcdooaaRefone
namespace Go.Proofs.Ytehlabphhcdooaa.S5
open Go.RowKit Go.Proofs.YtehlabphhcdooaaW.PrintWords Go.Proofs.YtehlabphhcdooaaW.PrintLast Go.Proofs.YtehlabphhcdooaaW.PrintMore

/-- A token, as the print tells it. -/
def tkS (t : Sc.Tk) : S28 := ⟨t.kind, t.at_, ⟨t.text.toArray⟩, t.num⟩

theorem reps_tk (w : World) (base : Nat) (ok : Nat → Prop) : ∀ ts : List Sc.Tk, Reps (k28.M w base ok) 4 (ts.map tkS) (ts.flatMap Sc.cellsT) := by
  intro ts
  refine ⟨by induction ts with
    | nil => rfl
    | cons t ts ih => simp [List.flatMap_cons, Sc.cellsT] at ih ⊢; omega, ?_⟩
  intro j p hp
  have hdrop : ∀ (ts : List Sc.Tk) (j : Nat) (p : S28), (ts.map tkS)[j]? = some p → ∃ t, p = tkS t ∧ ((ts.flatMap Sc.cellsT).drop (j * 4)).take 4 = Sc.cellsT t := by
    intro ts
    induction ts with
    | nil => intro j p h; simp at h
    | cons t ts ih =>
      intro j p h
      cases j with
      | zero => simp at h; exact ⟨t, h.symm, by simp [List.flatMap_cons, Sc.cellsT]⟩
      | succ j =>
        simp at h
        obtain ⟨u, hu, he⟩ := ih j p (by simpa using h)
        refine ⟨u, hu, ?_⟩
        rw [← he, List.flatMap_cons, show (j + 1) * 4 = 4 + j * 4 by omega, ← List.drop_drop]
        rfl
  obtain ⟨t, rfl, he⟩ := hdrop ts j p hp
  rw [he]
  exact k28_mkM w base ok (tkS t)

theorem row_tk {w : World} {base : Nat} {v : Value} {ts : List Sc.Tk} (h : Sc.RowT w base v ts) : Kd.R k28 28 w base (fun _ => True) v (ts.map tkS) :=
  ⟨fun _ _ => trivial, _, by rw [List.length_map]; exact h, reps_tk _ _ _ _⟩

def scan_Lex.f (a0 : ByteArray) : Option (List S28 × Int × Int) := if a0.size ≤ 1000000 then some ((Sc.lexL a0.data.toList).1.map tkS, ((Sc.lexL a0.data.toList).2.1 : Nat), ((Sc.lexL a0.data.toList).2.2 : Nat)) else none
theorem scan_Lex.calls (a0 : ByteArray) (r1 : List S28) (r2 r3 : Int) (w : World) (h : scan_Lex.f a0 = some (r1, r2, r3)) :
    Calls Try.prog 13 #[.string a0] w fun e w' => ∃ v0_ : Value, e = .returned (.tuple #[v0_, .int .i64 r2, .int .i64 r3]) ∧ Kd.R k28 28 w' w.heap.size (fun _ => True) v0_ r1 ∧ Below w.heap.size w w' := by
  unfold scan_Lex.f at h
  split at h
  · simp only [Option.some.injEq, Prod.mk.injEq] at h
    obtain ⟨rfl, rfl, rfl⟩ := h
    refine (Sc.lex_any a0 (by assumption) w).mono ?_
    rintro e w' ⟨v, rfl, hr, hk⟩
    exact ⟨v, rfl, row_tk hr, hk.below (by simp) (Nat.le_refl _)⟩
  · cases h

def cadencylaw03_each.f (a0 : ByteArray) : Option (List S28 × Bool) := if a0.size ≤ 1000000 then some ((Sc.eachL a0.data.toList).1.map tkS, true) else none
theorem cadencylaw03_each.calls (a0 : ByteArray) (r1 : List S28) (r2 : Bool) (w : World) (h : cadencylaw03_each.f a0 = some (r1, r2)) :
    Calls Try.prog 10 #[.string a0] w fun e w' => ∃ v0_ : Value, e = .returned (.tuple #[v0_, .bool r2]) ∧ Kd.R k28 28 w' w.heap.size (fun _ => True) v0_ r1 ∧ Below w.heap.size w w' := by
  unfold cadencylaw03_each.f at h
  split at h
  · simp only [Option.some.injEq, Prod.mk.injEq] at h
    obtain ⟨rfl, rfl⟩ := h
    refine (Sc.law_each a0 (by assumption) w).mono ?_
    rintro e w' ⟨v, rfl, hr, hk⟩
    exact ⟨v, rfl, row_tk hr, hk.below (by simp) (Nat.le_refl _)⟩
  · cases h

def scan_Word.f (a0 : ByteArray) : Option Bool := if a0.size ≤ 140737488351232 then some (Sc.wordL a0.data.toList) else none
theorem scan_Word.calls (a0 : ByteArray) (r : Bool) (w : World) (h : scan_Word.f a0 = some r) :
    Calls Try.prog 17 #[.string a0] w fun e w' => e = .returned (.bool r) ∧ Below w.heap.size w w' := by
  unfold scan_Word.f at h
  split at h
  · cases h
    exact (Sc.word_any a0 (by assumption) w).mono fun e w' ⟨h1, h2⟩ => ⟨h1, h2 ▸ Below.refl _ _⟩
  · cases h

def tk0 (a : Nat) (l : List UInt8) : Sc.Tk := if (Sc.tkOf a l).kind = 0 then ⟨0, 0, [], 0⟩ else Sc.tkOf a l
theorem oneAt_tk0 (a : Nat) (l : List UInt8) : Sc.oneAt a l = Sc.tkV (tk0 a l) := by
  unfold Sc.oneAt tk0
  split <;> rfl
def cadencyref03_one.f (a0 : ByteArray) (a1 : Int) : Option (Int × Int × ByteArray × Int) :=
  if a0.size ≤ 1000000 ∧ 0 ≤ a1 ∧ a1 < (a0.size : Int) then some (((tk0 a1.toNat (a0.data.toList.drop a1.toNat)).kind : Nat), ((tk0 a1.toNat (a0.data.toList.drop a1.toNat)).at_ : Nat), ⟨(tk0 a1.toNat (a0.data.toList.drop a1.toNat)).text.toArray⟩, ((tk0 a1.toNat (a0.data.toList.drop a1.toNat)).num : Nat)) else none
theorem cadencyref03_one.calls (a0 : ByteArray) (a1 : Int) (r1 : Int) (r2 : Int) (r3 : ByteArray) (r4 : Int) (w : World) (h : cadencyref03_one.f a0 a1 = some (r1, r2, r3, r4)) :
    Calls Try.prog 23 #[.string a0, .int .i64 a1] w fun e w' => e = .returned (.agg #[.int .i64 r1, .int .i64 r2, .string r3, .int .i64 r4]) ∧ Below w.heap.size w w' := by
  unfold cadencyref03_one.f at h
  split at h
  · rename_i hc
    obtain ⟨h1, h2, h3⟩ := hc
    simp only [Option.some.injEq, Prod.mk.injEq] at h
    obtain ⟨rfl, rfl, rfl, rfl⟩ := h
    obtain ⟨a, rfl⟩ := Int.eq_ofNat_of_zero_le h2
    refine (Sc.refOne_any a0 h1 a (by omega) w).mono ?_
    rintro e w' ⟨rfl, hk⟩
    rw [oneAt_tk0]
    exact ⟨rfl, hk.below (by simp) (Nat.le_refl _)⟩
  · cases h
end Go.Proofs.Ytehlabphhcdooaa.S5
