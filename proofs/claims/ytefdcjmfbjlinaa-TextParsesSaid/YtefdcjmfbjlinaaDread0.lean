/- The document's Read: what tokens are, and rows of them in the print's form. -/
import Derived.Test.YtefdcjmfbjlinaaPeach
import Derived.Test.YtefdcjmfbjlinaaDtask
import Derived.Test.YtefdcjmfbjlinaaParse
namespace Go.Proofs.Ytefdcjmfbjlinaa.A
open Go.RowKit Go.Proofs.YtefdcjmfbjlinaaW.PrintWords Go.Proofs.YtefdcjmfbjlinaaW.PrintLast Go.Proofs.YtefdcjmfbjlinaaW.PrintMore Go.Proofs.Ytefdcjmfbjlinaa.Sc

theorem reps_inv (w : World) (base : Nat) (ok : Nat → Prop) : ∀ (ts : List Sc.Tk) (cs : List Value), Reps (k56.M w base ok) 4 (ts.map tkS) cs → cs = ts.flatMap Sc.cellsT
  | [], cs, h => by
    have := h.1
    simp at this
    simpa using this
  | t :: ts, cs, h => by
    have h0 := h.2 0 (tkS t) (by simp)
    have hl := h.1
    simp at hl
    simp only [Nat.zero_mul, List.drop_zero] at h0
    have e0 := k56_openM h0
    have ih := reps_inv w base ok ts (cs.drop 4) ⟨by simp; omega, fun j p hp => by
      have := h.2 (j + 1) p (by simpa using hp)
      rw [List.drop_drop]
      rw [show 4 + j * 4 = (j + 1) * 4 by omega]
      exact this⟩
    rw [List.flatMap_cons, ← ih, ← List.take_append_drop 4 cs, e0]
    simp [tkS, Sc.cellsT]
theorem rowR_row {W : World} {base : Nat} {ok : Nat → Prop} {v : Value} {ts : List Sc.Tk} (h : Kd.R k56 56 W base ok v (ts.map tkS)) : Sc.RowT W base v ts := by
  obtain ⟨_, inner, ho, hr⟩ := h
  have := reps_inv _ _ _ _ _ hr
  subst this
  rw [List.length_map] at ho
  exact ho
theorem knd_let {c : UInt8} (h : isLet c = true) : knd c = 1 := by simp [knd, h]
theorem tok_wf {L : List UInt8} {t : Tk} (h : t ∈ (eachL L).1) : WfT t := by
  have key : ∀ (n at_ : Nat) (l : List UInt8), l.length ≤ n → ∀ t ∈ (rst at_ l).1, WfT t := by
    intro n
    induction n with
    | zero =>
      intro at_ l hl t ht
      have : l = [] := List.eq_nil_of_length_eq_zero (by omega)
      subst this
      simp [rst_nil] at ht
    | succ n ih =>
      intro at_ l hl t ht
      cases l with
      | nil => simp [rst_nil] at ht
      | cons c l =>
        by_cases hk : knd c = 0
        · rw [rst_none _ hk] at ht; simp at ht
        · rw [rst_some _ hk] at ht
          rcases List.mem_cons.1 ht with rfl | ht
          · have hp : 0 < tln (c :: l) := tln_pos c l
            obtain ⟨m, hm⟩ : ∃ m, tln (c :: l) = m + 1 := ⟨tln (c :: l) - 1, by omega⟩
            have ht : (tkOf at_ (c :: l)).text = c :: l.take m := by simp [tkOf, hm]
            have hkd : (tkOf at_ (c :: l)).kind = knd c := by simp [tkOf]
            refine ⟨fun h => ?_, fun h => ?_, by rw [hkd]; exact hk⟩
            · rw [ht] at h
              unfold taskW at h
              injection h with h1 h2
              subst h1
              rw [hkd]; rfl
            · rw [ht] at h
              rw [hkd]
              have : c = 99 ∨ c = 116 ∨ c = 100 ∨ c = 106 ∨ c = 113 ∨ c = 112 := by
                by_cases h' : c = 99 ∨ c = 116 ∨ c = 100 ∨ c = 106 ∨ c = 113 ∨ c = 112
                · exact h'
                · exact absurd (by unfold fldI; simp at h'; simp [h']) h
              rcases this with rfl | rfl | rfl | rfl | rfl | rfl <;> rfl
          · have := nxt_pos c l
            exact ih _ _ (by simp at hl ⊢; omega) t ht
  rw [eachL_eq] at h
  exact key _ _ _ (Nat.le_refl _) t h
theorem deach_any (s : ByteArray) (hs : s.size ≤ 1000000) (w : World) : Calls Try.prog 27 #[.string s] w fun r w' => ∃ v, r = .returned (.agg #[v, .int .i64 ((eachL s.data.toList).2 : Nat)]) ∧ Sc.RowT w' w.heap.size v (eachL s.data.toList).1 ∧ Sc.Keeps [] w w' := by
  refine (cadencyref03_Each.calls (2 * s.size + 10) s _ _ w (refEach_some s hs _ (Nat.le_refl _))).mono ?_
  rintro r w' ⟨v, rfl, hr, hb⟩
  exact ⟨v, rfl, rowR_row hr, Sc.Keeps.of_below hb⟩
end Go.Proofs.Ytefdcjmfbjlinaa.A
