/- The contracts of text.Read and text.Parse, in the form of the printed ones. -/
import Derived.Test.YtefdcjmfbjlinaaDoorAx0
import Derived.Test.YtefdcjmfbjlinaaDoorParse
namespace Go.Proofs.YtefdcjmfbjlinaaDoor.A
open Go.RowKit Go.Proofs.YtefdcjmfbjlinaaDoorW.PrintWords Go.Proofs.YtefdcjmfbjlinaaDoorW.PrintLast Go.Proofs.YtefdcjmfbjlinaaDoorW.PrintMore

/-- A task, as the print tells it. -/
def tskS (x : Sc.Tsk) : S29 := ⟨x.nm, x.c, x.t, x.d, x.j, x.q, x.p⟩
theorem reps_tsk (w : World) (base : Nat) (ok : Nat → Prop) : ∀ ts : List Sc.Tsk, Reps (k29.M w base ok) 7 (ts.map tskS) (ts.flatMap Sc.cellsTsk) := by
  intro ts
  refine ⟨by induction ts with
    | nil => rfl
    | cons t ts ih => simp [List.flatMap_cons, Sc.cellsTsk] at ih ⊢; omega, ?_⟩
  intro j p hp
  have hdrop : ∀ (ts : List Sc.Tsk) (j : Nat) (p : S29), (ts.map tskS)[j]? = some p → ∃ t, p = tskS t ∧ ((ts.flatMap Sc.cellsTsk).drop (j * 7)).take 7 = Sc.cellsTsk t := by
    intro ts
    induction ts with
    | nil => intro j p h; simp at h
    | cons t ts ih =>
      intro j p h
      cases j with
      | zero => simp at h; exact ⟨t, h.symm, by simp [List.flatMap_cons, Sc.cellsTsk]⟩
      | succ j =>
        simp at h
        obtain ⟨u, hu, he⟩ := ih j p (by simpa using h)
        refine ⟨u, hu, ?_⟩
        rw [← he, List.flatMap_cons, show (j + 1) * 7 = 7 + j * 7 by omega, ← List.drop_drop]
        rfl
  obtain ⟨t, rfl, he⟩ := hdrop ts j p hp
  rw [he]
  exact k29_mkM w base ok (tskS t)
theorem rowR_tsk {w : World} {base : Nat} {v : Value} {ts : List Sc.Tsk} (h : Sc.RowS w base v ts) : Kd.R k29 29 w base (fun _ => True) v (ts.map tskS) :=
  ⟨fun _ _ => trivial, _, by rw [List.length_map]; exact h, reps_tsk _ _ _ _⟩

def text_Read.f (a0 : ByteArray) : Option (List S29 × Int × Int) := if a0.size ≤ 100000 then some ((Sc.readT a0.data.toList).1.map tskS, ((Sc.readT a0.data.toList).2.1 : Nat), ((Sc.readT a0.data.toList).2.2 : Nat)) else none
def text_Parse.f (a0 : ByteArray) : Option (List S29 × Int × Int) := if a0.size ≤ 100000 then some ((Sc.parseT a0.data.toList).1.map tskS, (Sc.parseT a0.data.toList).2.1, (Sc.parseT a0.data.toList).2.2) else none
theorem text_Parse.calls (a0 : ByteArray) (r1 : List S29) (r2 r3 : Int) (w : World) (h : text_Parse.f a0 = some (r1, r2, r3)) :
    Calls Tryd.prog 19 #[.string a0] w fun e w' => ∃ v0_ : Value, e = .returned (.tuple #[v0_, .int .i64 r2, .int .i64 r3]) ∧ Kd.R k29 29 w' w.heap.size (fun _ => True) v0_ r1 ∧ Below w.heap.size w w' := by
  unfold text_Parse.f at h
  split at h
  · simp only [Option.some.injEq, Prod.mk.injEq] at h
    obtain ⟨rfl, rfl, rfl⟩ := h
    refine (Sc.parse_any a0 (by assumption) w).mono ?_
    rintro e w' ⟨v, rfl, hr, hk⟩
    exact ⟨v, rfl, rowR_tsk hr, hk.below (by simp) (Nat.le_refl _)⟩
  · cases h
end Go.Proofs.YtefdcjmfbjlinaaDoor.A
