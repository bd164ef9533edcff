/- What is decoded of the first raw numbers, and of those of other tasks: plain Lean. -/
import Derived.Test.YtcdmgalhboijcaaDecode
set_option linter.unusedVariables false
set_option linter.unusedSimpArgs false
namespace Go.Proofs.Ytcdmgalhboijcaa.Sc
open Go.RowKit Go.Shelf Go.Maps

/-- The jobs that raw numbers add. -/
def tl (l : List Tsk) (out : List Jb) : List Rw → List Jb
  | [] => []
  | r :: rs => stepJ l out r :: tl l (out ++ [stepJ l out r]) rs
theorem decodeFrom_tl (l : List Tsk) : ∀ (rs : List Rw) (out : List Jb), decodeFrom l out rs = out ++ tl l out rs
  | [], out => by simp [decodeFrom, tl]
  | r :: rs, out => by rw [decodeFrom, decodeFrom_tl l rs, tl, List.append_assoc]; rfl
theorem tl_length (l : List Tsk) : ∀ (rs : List Rw) (out : List Jb), (tl l out rs).length = rs.length
  | [], _ => rfl
  | r :: rs, out => by simp [tl, tl_length l rs]
theorem decodeL_tl {l : List Tsk} {rs : List Rw} (hm : mayB l = true) (hl : rs.length ≤ 4096) : decodeL l rs = tl l [] rs := by
  unfold decodeL
  rw [if_pos hm, List.take_of_length_le hl, decodeFrom_tl, List.nil_append]
theorem tl_take (l : List Tsk) : ∀ (rs : List Rw) (out : List Jb) (k : Nat), (tl l out rs).take k = tl l out (rs.take k)
  | [], _, k => by cases k <;> rfl
  | r :: rs, out, 0 => rfl
  | r :: rs, out, k + 1 => by
    simp only [tl, List.take_succ_cons]
    rw [tl_take l rs]
theorem tl_task (l : List Tsk) : ∀ (rs : List Rw) (out : List Jb) (i : Nat) (j : Jb), (tl l out rs)[i]? = some j → ∃ r, rs[i]? = some r ∧ j.task = r.task % (l.length : Int)
  | [], _, i, j, h => by cases h
  | r :: rs, out, 0, j, h => by
    injection h with h
    subst h
    exact ⟨r, rfl, rfl⟩
  | r :: rs, out, i + 1, j, h => tl_task l rs _ i j h

/-- What is of other tasks than t, of raw numbers and of jobs beside them. -/
def others (n t : Int) (rs : List Rw) : List Rw := rs.filter fun r => decide (r.task % n ≠ t)
def beside (n t : Int) (rs : List Rw) (js : List Jb) : List Jb := ((rs.zip js).filter fun p => decide (p.1.task % n ≠ t)).map Prod.snd
theorem tl_others (l : List Tsk) (t : Int) : ∀ (rs : List Rw) (out out' : List Jb), (∀ k, k ≠ t → soon l out k = soon l out' k) →
    tl l out' (others (l.length : Int) t rs) = beside (l.length : Int) t rs (tl l out rs)
  | [], _, _, _ => rfl
  | r :: rs, out, out', h => by
    simp only [tl, others, beside, List.zip_cons_cons, List.filter_cons]
    by_cases ht : r.task % (l.length : Int) = t
    · rw [decide_eq_false (by simpa using ht)]
      simp only [Bool.false_eq_true, if_false]
      refine tl_others l t rs _ _ (fun k hk => ?_)
      rw [soon_snoc, if_neg]
      · exact h k hk
      · intro e
        apply hk
        rw [← e, ← ht]
        rfl
    · rw [decide_eq_true (by simpa using ht)]
      simp only [if_true, List.map_cons]
      have hs := h _ ht
      have e : stepJ l out' r = stepJ l out r := by
        unfold stepJ
        simp only [hs]
      rw [tl, e]
      congr 1
      refine tl_others l t rs _ _ (fun k hk => ?_)
      rw [soon_snoc, soon_snoc]
      split
      · rfl
      · exact h k hk
theorem beside_snoc (n t : Int) (rs : List Rw) (js : List Jb) (i : Nat) (r : Rw) (j : Jb) (hr : rs[i]? = some r) (hj : js[i]? = some j) :
    others n t (rs.take (i + 1)) = others n t (rs.take i) ++ (if r.task % n ≠ t then [r] else []) ∧ beside n t (rs.take (i + 1)) (js.take (i + 1)) = beside n t (rs.take i) (js.take i) ++ (if r.task % n ≠ t then [j] else []) := by
  have e1 : rs.take (i + 1) = rs.take i ++ [r] := by rw [List.take_add_one, hr]; rfl
  have e2 : js.take (i + 1) = js.take i ++ [j] := by rw [List.take_add_one, hj]; rfl
  have h1 : i < rs.length := by
    rcases Nat.lt_or_ge i rs.length with h' | h'
    · exact h'
    · rw [List.getElem?_eq_none h'] at hr; cases hr
  have h2 : i < js.length := by
    rcases Nat.lt_or_ge i js.length with h' | h'
    · exact h'
    · rw [List.getElem?_eq_none h'] at hj; cases hj
  rw [e1, e2]
  unfold others beside
  rw [List.zip_append (by simp; omega)]
  simp only [List.filter_append, List.map_append, List.zip_cons_cons, List.zip_nil_right, List.filter_cons, List.filter_nil]
  by_cases ht : r.task % n = t
  · simp [ht]
  · simp [ht]
end Go.Proofs.Ytcdmgalhboijcaa.Sc
/- What is decoded if the first job of a task comes later: plain Lean. -/
set_option linter.unusedVariables false
set_option linter.unusedSimpArgs false
namespace Go.Proofs.Ytcdmgalhboijcaa.Sc
open Go.RowKit Go.Shelf Go.Maps

def bumpR (b : Int) (r : Rw) : Rw := ⟨r.task, r.gap + b, r.late, r.work, r.cuts⟩
def bumpL (n t b : Int) : List Rw → List Rw
  | [] => []
  | r :: rs => if r.task % n = t then bumpR b r :: rs else r :: bumpL n t b rs
def shiftJ (t b : Int) (j : Jb) : Jb := if j.task = t then ⟨j.task, j.arrive + b, j.release + b, j.work, j.cuts⟩ else j
def shiftL (t b : Int) (js : List Jb) : List Jb := js.map (shiftJ t b)
theorem tl_shift (l : List Tsk) (t b : Int) : ∀ (rs : List Rw) (out out' : List Jb), (∀ k, k ≠ t → soon l out' k = soon l out k) → soon l out' t = soon l out t + b → tl l out' rs = shiftL t b (tl l out rs)
  | [], _, _, _, _ => rfl
  | r :: rs, out, out', h1, h2 => by
    simp only [tl, shiftL, List.map_cons]
    have e : stepJ l out' r = shiftJ t b (stepJ l out r) := by
      unfold shiftJ stepJ
      by_cases ht : r.task % (l.length : Int) = t
      · simp only [ht, if_true, h2]
        congr 1 <;> omega
      · simp only [ht, if_false, h1 _ ht]
    congr 1
    refine tl_shift l t b rs _ _ (fun k hk => ?_) ?_
    · rw [soon_snoc, soon_snoc, e]
      unfold shiftJ
      by_cases ht : (stepJ l out r).task = t
      · rw [if_pos ht, if_neg, if_neg, h1 k hk]
        · rw [ht]; exact Ne.symm hk
        · show ¬ (stepJ l out r).task = k
          rw [ht]; exact Ne.symm hk
      · rw [if_neg ht, h1 k hk]
    · rw [soon_snoc, soon_snoc, e]
      unfold shiftJ
      by_cases ht : (stepJ l out r).task = t
      · rw [if_pos ht, if_pos ht, if_pos ht]
        show (stepJ l out r).arrive + b + (tsk l (stepJ l out r).task).t = _
        omega
      · rw [if_neg ht, if_neg ht, if_neg ht, h2]
theorem tl_bump (l : List Tsk) (t b : Int) (hb0 : 0 ≤ b) (hb1 : b ≤ 1000) : ∀ (rs : List Rw) (out : List Jb), (∀ r ∈ rs, 0 ≤ r.gap ∧ r.gap < 12) → tl l out (bumpL (l.length : Int) t b rs) = shiftL t b (tl l out rs) ∨ tl l out (bumpL (l.length : Int) t b rs) = shiftL t b (tl l out rs)
  | [], _, _ => .inl rfl
  | r :: rs, out, hg => by
    left
    have hr := hg r (List.mem_cons_self ..)
    unfold bumpL
    by_cases ht : r.task % (l.length : Int) = t
    · rw [if_pos ht]
      simp only [tl, shiftL, List.map_cons]
      have hm : (r.gap + b) % 1048576 = r.gap % 1048576 + b := by omega
      have e : stepJ l out (bumpR b r) = shiftJ t b (stepJ l out r) := by
        unfold shiftJ stepJ bumpR
        simp only [ht, if_true, hm]
        congr 1 <;> omega
      rw [e]
      congr 1
      have htk : (stepJ l out r).task = t := ht
      refine tl_shift l t b rs _ _ (fun k hk => ?_) ?_
      · rw [soon_snoc, soon_snoc]
        unfold shiftJ
        rw [if_pos htk, if_neg, if_neg]
        · rw [htk]; exact Ne.symm hk
        · show ¬ (stepJ l out r).task = k
          rw [htk]; exact Ne.symm hk
      · rw [soon_snoc, soon_snoc]
        unfold shiftJ
        rw [if_pos htk, if_pos htk, if_pos htk]
        show (stepJ l out r).arrive + b + (tsk l (stepJ l out r).task).t = _
        omega
    · rw [if_neg ht]
      simp only [tl, shiftL, List.map_cons]
      have e : shiftJ t b (stepJ l out r) = stepJ l out r := by
        unfold shiftJ
        exact if_neg ht
      rw [e]
      congr 1
      rcases tl_bump l t b hb0 hb1 rs (out ++ [stepJ l out r]) (fun x hx => hg x (List.mem_cons_of_mem _ hx)) with h | h <;> exact h
theorem tl_bump' (l : List Tsk) (t b : Int) (hb0 : 0 ≤ b) (hb1 : b ≤ 1000) (rs : List Rw) (hg : ∀ r ∈ rs, 0 ≤ r.gap ∧ r.gap < 12) : tl l [] (bumpL (l.length : Int) t b rs) = shiftL t b (tl l [] rs) := by
  rcases tl_bump l t b hb0 hb1 rs [] hg with h | h <;> exact h
theorem bumpL_length (n t b : Int) : ∀ rs, (bumpL n t b rs).length = rs.length
  | [] => rfl
  | r :: rs => by
    unfold bumpL
    split
    · rfl
    · simp [bumpL_length n t b rs]
theorem bumpL_at (n t b : Int) : ∀ (rs : List Rw) (i : Nat) (r : Rw), rs[i]? = some r → bumpL n t b rs = rs.take i ++ bumpL n t b (rs.drop i) → r.task % n = t → bumpL n t b rs = rs.set i (bumpR b r)
  | rs, i, r, hr, h, ht => by
    have hi : i < rs.length := by
      rcases Nat.lt_or_ge i rs.length with h' | h'
      · exact h'
      · rw [List.getElem?_eq_none h'] at hr; cases hr
    have e1 : rs.drop i = r :: rs.drop (i + 1) := by
      rw [List.drop_eq_getElem_cons hi]
      rw [List.getElem?_eq_getElem hi] at hr
      injection hr with hr
      rw [hr]
    rw [h, e1, bumpL, if_pos ht, List.set_eq_take_append_cons_drop, if_pos hi]
theorem bumpL_on (n t b : Int) (rs : List Rw) (i : Nat) (r : Rw) (hr : rs[i]? = some r) (h : bumpL n t b rs = rs.take i ++ bumpL n t b (rs.drop i)) (ht : ¬ r.task % n = t) : bumpL n t b rs = rs.take (i + 1) ++ bumpL n t b (rs.drop (i + 1)) := by
  have hi : i < rs.length := by
    rcases Nat.lt_or_ge i rs.length with h' | h'
    · exact h'
    · rw [List.getElem?_eq_none h'] at hr; cases hr
  have e1 : rs.drop i = r :: rs.drop (i + 1) := by
    rw [List.drop_eq_getElem_cons hi]
    rw [List.getElem?_eq_getElem hi] at hr
    injection hr with hr
    rw [hr]
  rw [h, e1, bumpL, if_neg ht, List.take_add_one, hr]
  simp
theorem bumpL_cuts (n t b : Int) (m : Nat) : ∀ rs : List Rw, (∀ r ∈ rs, r.cuts.length ≤ m) → ∀ r ∈ bumpL n t b rs, r.cuts.length ≤ m
  | [], _, r, h => by cases h
  | x :: xs, h, r, hr => by
    unfold bumpL at hr
    split at hr
    · rcases List.mem_cons.1 hr with rfl | hr
      · exact h x (List.mem_cons_self ..)
      · exact h r (List.mem_cons_of_mem _ hr)
    · rcases List.mem_cons.1 hr with rfl | hr
      · exact h r (List.mem_cons_self ..)
      · exact bumpL_cuts n t b m xs (fun y hy => h y (List.mem_cons_of_mem _ hy)) r hr
theorem tl_bounds {l : List Tsk} (hl : 1 ≤ l.length) (hf : ∀ x ∈ l, Fine x) : ∀ (rs : List Rw) (out : List Jb), Soon l out → out.length + rs.length ≤ 4096 → ∀ j ∈ tl l out rs, 0 ≤ j.arrive ∧ j.arrive ≤ 10000000000000 ∧ 0 ≤ j.release ∧ j.release ≤ 10000000000000
  | [], _, _, _, j, h => by cases h
  | r :: rs, out, hs, hn, j, hj => by
    simp only [tl] at hj
    rcases List.mem_cons.1 hj with rfl | hj
    · have hk := step_key hl r.task
      have hF := hf _ (tsk_mem hk.1 hk.2).1
      have hq := hs (r.task % (l.length : Int))
      have hg0 := Int.emod_nonneg r.gap (show (1048576 : Int) ≠ 0 by omega)
      have hg1 := Int.emod_lt_of_pos r.gap (show (0 : Int) < 1048576 by omega)
      have fj0 := hF.j0
      have fj1 := hF.j1
      have ha0 := Int.emod_nonneg r.late (show (tsk l (r.task % (l.length : Int))).j + 1 ≠ 0 by omega)
      have ha1 := Int.emod_lt_of_pos r.late (show 0 < (tsk l (r.task % (l.length : Int))).j + 1 by omega)
      simp only [List.length_cons] at hn
      have hle : (out.length : Int) ≤ 4095 := by omega
      have hs2 : soon l out (r.task % (l.length : Int)) ≤ 8798239457280 := by omega
      unfold stepJ
      simp only
      omega
    · exact tl_bounds hl hf rs _ (soon_step hl hf hs r) (by simp at hn ⊢; omega) j hj
theorem shift_get (t b : Int) (all : List Jb) (i : Nat) (hi : i < all.length) : (shiftL t b (all.take i) ++ all.drop i)[i]? = all[i]? := by
  unfold shiftL
  rw [List.getElem?_append_right (by simp; omega), List.length_map, List.length_take, Nat.min_eq_left (by omega), Nat.sub_self, List.getElem?_drop, Nat.add_zero]
theorem shift_step (t b : Int) (all : List Jb) (i : Nat) (j : Jb) (hj : all[i]? = some j) : (shiftL t b (all.take i) ++ all.drop i).set i (shiftJ t b j) = shiftL t b (all.take (i + 1)) ++ all.drop (i + 1) := by
  have hi : i < all.length := by
    rcases Nat.lt_or_ge i all.length with h' | h'
    · exact h'
    · rw [List.getElem?_eq_none h'] at hj; cases hj
  have e1 : all.drop i = j :: all.drop (i + 1) := by
    rw [List.drop_eq_getElem_cons hi]
    rw [List.getElem?_eq_getElem hi] at hj
    injection hj with hj
    rw [hj]
  unfold shiftL
  rw [List.set_append_right _ _ (by simp; omega), List.length_map, List.length_take, Nat.min_eq_left (by omega), Nat.sub_self, List.take_add_one, hj, e1]
  simp
theorem shift_stay (t b : Int) (all : List Jb) (i : Nat) (j : Jb) (hj : all[i]? = some j) (ht : ¬ j.task = t) : shiftL t b (all.take i) ++ all.drop i = shiftL t b (all.take (i + 1)) ++ all.drop (i + 1) := by
  rw [← shift_step t b all i j hj, shiftJ, if_neg ht]
  have hi : i < all.length := by
    rcases Nat.lt_or_ge i all.length with h' | h'
    · exact h'
    · rw [List.getElem?_eq_none h'] at hj; cases hj
  have hg := shift_get t b all i hi
  rw [hj] at hg
  have hlt : i < (shiftL t b (all.take i) ++ all.drop i).length := by
    rcases Nat.lt_or_ge i (shiftL t b (all.take i) ++ all.drop i).length with h' | h'
    · exact h'
    · rw [List.getElem?_eq_none h'] at hg; cases hg
  rw [List.getElem?_eq_getElem hlt] at hg
  injection hg with hg
  rw [← hg, List.set_getElem_self]
theorem shift_len (t b : Int) (all : List Jb) (i : Nat) : (shiftL t b (all.take i) ++ all.drop i).length = all.length := by
  unfold shiftL
  simp
  omega
end Go.Proofs.Ytcdmgalhboijcaa.Sc
