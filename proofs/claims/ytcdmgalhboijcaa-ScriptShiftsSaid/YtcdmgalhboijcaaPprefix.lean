/- What is decoded of the first raw numbers, and of those of other tasks: plain Lean. -/
import Derived.Test.YtcdmgalhboijcaaDec
set_option linter.unusedVariables false
set_option linter.unusedSimpArgs false
namespace Go.Proofs.Ytcdmgalhboijcaa.Sc
open Go.RowKit Go.Shelf Go.Maps

/-- The jobs that raw numbers add. -/
def tl (l : List Tsk) (out : List Jb) : List Rw → List Jb
  | [] => []
  | r :: rs => stepJ l out r :: tl l (out ++ [stepJ l out r]) rs
theorem decodeFrom_tl (l : List Tsk) : ∀ (rs : List Rw) (out : List Jb), decodeFrom l out rs = out ++ tl l out rs
  | [], out => by simp [decodeFrom, tl]
  | r :: rs, out => by rw [decodeFrom, decodeFrom_tl l rs, tl, List.append_assoc]; rfl
theorem tl_length (l : List Tsk) : ∀ (rs : List Rw) (out : List Jb), (tl l out rs).length = rs.length
  | [], _ => rfl
  | r :: rs, out => by simp [tl, tl_length l rs]
theorem decodeL_tl {l : List Tsk} {rs : List Rw} (hm : mayB l = true) (hl : rs.length ≤ 4096) : decodeL l rs = tl l [] rs := by
  unfold decodeL
  rw [if_pos hm, List.take_of_length_le hl, decodeFrom_tl, List.nil_append]
theorem tl_take (l : List Tsk) : ∀ (rs : List Rw) (out : List Jb) (k : Nat), (tl l out rs).take k = tl l out (rs.take k)
  | [], _, k => by cases k <;> rfl
  | r :: rs, out, 0 => rfl
  | r :: rs, out, k + 1 => by
    simp only [tl, List.take_succ_cons]
    rw [tl_take l rs]
theorem tl_task (l : List Tsk) : ∀ (rs : List Rw) (out : List Jb) (i : Nat) (j : Jb), (tl l out rs)[i]? = some j → ∃ r, rs[i]? = some r ∧ j.task = r.task % (l.length : Int)
  | [], _, i, j, h => by cases h
  | r :: rs, out, 0, j, h => by
    injection h with h
    subst h
    exact ⟨r, rfl, rfl⟩
  | r :: rs, out, i + 1, j, h => tl_task l rs _ i j h

/-- What is of other tasks than t, of raw numbers and of jobs beside them. -/
def others (n t : Int) (rs : List Rw) : List Rw := rs.filter fun r => decide (r.task % n ≠ t)
def beside (n t : Int) (rs : List Rw) (js : List Jb) : List Jb := ((rs.zip js).filter fun p => decide (p.1.task % n ≠ t)).map Prod.snd
theorem tl_others (l : List Tsk) (t : Int) : ∀ (rs : List Rw) (out out' : List Jb), (∀ k, k ≠ t → soon l out k = soon l out' k) →
    tl l out' (others (l.length : Int) t rs) = beside (l.length : Int) t rs (tl l out rs)
  | [], _, _, _ => rfl
  | r :: rs, out, out', h => by
    simp only [tl, others, beside, List.zip_cons_cons, List.filter_cons]
    by_cases ht : r.task % (l.length : Int) = t
    · rw [decide_eq_false (by simpa using ht)]
      simp only [Bool.false_eq_true, if_false]
      refine tl_others l t rs _ _ (fun k hk => ?_)
      rw [soon_snoc, if_neg]
      · exact h k hk
      · intro e
        apply hk
        rw [← e, ← ht]
        rfl
    · rw [decide_eq_true (by simpa using ht)]
      simp only [if_true, List.map_cons]
      have hs := h _ ht
      have e : stepJ l out' r = stepJ l out r := by
        unfold stepJ
        simp only [hs]
      rw [tl, e]
      congr 1
      refine tl_others l t rs _ _ (fun k hk => ?_)
      rw [soon_snoc, soon_snoc]
      split
      · rfl
      · exact h k hk
theorem beside_snoc (n t : Int) (rs : List Rw) (js : List Jb) (i : Nat) (r : Rw) (j : Jb) (hr : rs[i]? = some r) (hj : js[i]? = some j) :
    others n t (rs.take (i + 1)) = others n t (rs.take i) ++ (if r.task % n ≠ t then [r] else []) ∧ beside n t (rs.take (i + 1)) (js.take (i + 1)) = beside n t (rs.take i) (js.take i) ++ (if r.task % n ≠ t then [j] else []) := by
  have e1 : rs.take (i + 1) = rs.take i ++ [r] := by rw [List.take_add_one, hr]; rfl
  have e2 : js.take (i + 1) = js.take i ++ [j] := by rw [List.take_add_one, hj]; rfl
  have h1 : i < rs.length := by
    rcases Nat.lt_or_ge i rs.length with h' | h'
    · exact h'
    · rw [List.getElem?_eq_none h'] at hr; cases hr
  have h2 : i < js.length := by
    rcases Nat.lt_or_ge i js.length with h' | h'
    · exact h'
    · rw [List.getElem?_eq_none h'] at hj; cases hj
  rw [e1, e2]
  unfold others beside
  rw [List.zip_append (by simp; omega)]
  simp only [List.filter_append, List.map_append, List.zip_cons_cons, List.zip_nil_right, List.filter_cons, List.filter_nil]
  by_cases ht : r.task % n = t
  · simp [ht]
  · simp [ht]
end Go.Proofs.Ytcdmgalhboijcaa.Sc
