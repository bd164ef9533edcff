/- Lines that are built are lexed and read back: plain lists. -/
import Derived.Test.YtefdcjmfbjlinaaDoorPtext
set_option linter.unusedVariables false
set_option linter.unusedSimpArgs false
namespace Go.Proofs.YtefdcjmfbjlinaaDoor.A
open Go.RowKit Go.Proofs.YtefdcjmfbjlinaaDoor.Sc

end Go.Proofs.YtefdcjmfbjlinaaDoor.A
/- What is printed of tasks that may be is read to them: plain lists. -/
set_option linter.unusedVariables false
set_option linter.unusedSimpArgs false
namespace Go.Proofs.YtefdcjmfbjlinaaDoor.A
open Go.RowKit Go.Proofs.YtefdcjmfbjlinaaDoor.Sc

/-- A task that may stand in a line. -/
structure GoodT (x : Tsk) : Prop where
  word : wordL x.nm.data.toList = true
  sz : x.nm.size ≤ 32
  c : 0 ≤ x.c ∧ x.c ≤ 2147483647
  t : 0 ≤ x.t ∧ x.t ≤ 2147483647
  d : 0 ≤ x.d ∧ x.d ≤ 2147483647
  j : 0 ≤ x.j ∧ x.j ≤ 2147483647
  q : 0 ≤ x.q ∧ x.q ≤ 2147483647
  p : 0 ≤ x.p ∧ x.p ≤ 2147483647
theorem good_check {x : Tsk} (h : checkE x = 0) : GoodT x := by
  unfold checkE at h
  by_cases hr : rangesB x = true
  · unfold rangesB inB at hr
    simp only [Bool.and_eq_true, decide_eq_true_eq] at hr
    obtain ⟨⟨⟨⟨⟨⟨⟨⟨⟨h1, h2⟩, h3⟩, h4⟩, h5⟩, h6⟩, h7⟩, h8⟩, h9⟩, h10⟩ := hr
    exact ⟨h1, h2, h4, h5, h6, h8, h7, by omega⟩
  · rw [if_neg hr] at h
    cases h
theorem from_good : ∀ (xs pre : List Tsk), (allFrom pre xs).2 = 0 → ∀ x ∈ xs, checkE x = 0
  | [], _, _ => by simp
  | x :: xs, pre, h => by
    unfold allFrom at h
    by_cases h1 : checkE x ≠ 0
    · rw [if_pos h1] at h
      exact absurd h h1
    · rw [if_neg h1] at h
      by_cases h2 : (pre.any (fun y => decide (y.nm = x.nm)) || pre.any (fun y => decide (y.p = x.p))) = true
      · rw [if_pos h2] at h
        cases h
      · rw [if_neg h2] at h
        intro y hy
        simp only [List.mem_cons] at hy
        rcases hy with rfl | hy
        · exact Decidable.not_not.1 h1
        · exact from_good xs _ h y hy
theorem all_good {l : List Tsk} (h : (checkAllL l).2 = 0) : ∀ x ∈ l, GoodT x := by
  unfold checkAllL at h
  by_cases h1 : l.length = 0 ∨ 1024 < l.length
  · rw [if_pos h1] at h
    cases h
  · rw [if_neg h1] at h
    exact fun x hx => good_check (from_good l [] h x hx)
theorem data_app (a b : ByteArray) : (a ++ b).data.toList = a.data.toList ++ b.data.toList := by simp
end Go.Proofs.YtefdcjmfbjlinaaDoor.A
