/- What script's Decode tells, in plain Lean. -/
import Derived.Test.YtcdmgalhboijcaaKinds
namespace Go.Proofs.Ytcdmgalhboijcaa.Sc
open Go.RowKit Go.Shelf Go.Maps

def noTsk : Tsk := ⟨⟨#[]⟩, 0, 0, 0, 0, 0, 0⟩
def tsk (l : List Tsk) (k : Int) : Tsk := l.getD k.toNat noTsk
/-- How soon a task's next job may come. -/
def soonStep (l : List Tsk) (k : Int) (s : Int) (j : Jb) : Int := if j.task = k then j.arrive + (tsk l j.task).t else s
def soon (l : List Tsk) (out : List Jb) (k : Int) : Int := out.foldl (soonStep l k) 0
theorem soon_snoc (l : List Tsk) (out : List Jb) (j : Jb) (k : Int) : soon l (out ++ [j]) k = if j.task = k then j.arrive + (tsk l j.task).t else soon l out k := by
  unfold soon
  rw [List.foldl_append]
  rfl
def stepJ (l : List Tsk) (out : List Jb) (r : Rw) : Jb :=
  let k := r.task % (l.length : Int)
  let t := tsk l k
  let arr := soon l out k + r.gap % 1048576
  let w := 1 + r.work % t.c
  ⟨k, arr, arr + r.late % (t.j + 1), w, cutL r.cuts w t.q⟩
def decodeFrom (l : List Tsk) (out : List Jb) : List Rw → List Jb
  | [] => out
  | r :: rs => decodeFrom l (out ++ [stepJ l out r]) rs
def decodeL (l : List Tsk) (raw : List Rw) : List Jb := if mayB l then decodeFrom l [] (raw.take 4096) else []

/-- What is told of jobs when they are decoded: bounds. -/
def Soon (l : List Tsk) (out : List Jb) : Prop := ∀ k, 0 ≤ soon l out k ∧ soon l out k ≤ out.length * 2148532224
theorem soon_nil (l : List Tsk) : Soon l [] := fun k => by simp [soon]
theorem tsk_mem {l : List Tsk} {k : Int} (h0 : 0 ≤ k) (h1 : k < l.length) : tsk l k ∈ l ∧ l[k.toNat]? = some (tsk l k) := by
  unfold tsk
  have h : k.toNat < l.length := by omega
  rw [List.getD_eq_getElem?_getD, List.getElem?_eq_getElem h]
  exact ⟨List.getElem_mem h, rfl⟩
theorem step_key {l : List Tsk} (hl : 1 ≤ l.length) (x : Int) : 0 ≤ x % (l.length : Int) ∧ x % (l.length : Int) < l.length :=
  ⟨Int.emod_nonneg _ (by omega), Int.emod_lt_of_pos _ (by omega)⟩
theorem soon_step {l : List Tsk} (hl : 1 ≤ l.length) (hf : ∀ x ∈ l, Fine x) {out : List Jb} (h : Soon l out) (r : Rw) : Soon l (out ++ [stepJ l out r]) := by
  intro k
  rw [soon_snoc]
  have hk := step_key hl r.task
  have hm := tsk_mem hk.1 hk.2
  have hF := hf _ hm.1
  have hs := h (r.task % (l.length : Int))
  have hg0 := Int.emod_nonneg r.gap (show (1048576 : Int) ≠ 0 by omega)
  have hg1 := Int.emod_lt_of_pos r.gap (show (0 : Int) < 1048576 by omega)
  have ht0 := hF.t0
  have ht1 := hF.t1
  have hlen : ((out ++ [stepJ l out r]).length : Int) = out.length + 1 := by simp
  rw [hlen]
  split
  · simp only [stepJ]
    omega
  · have := h k
    omega
theorem decodeFrom_length (l : List Tsk) : ∀ (rs : List Rw) (out : List Jb), (decodeFrom l out rs).length = out.length + rs.length
  | [], out => by simp [decodeFrom]
  | r :: rs, out => by
    rw [decodeFrom, decodeFrom_length l rs]
    simp
    omega
end Go.Proofs.Ytcdmgalhboijcaa.Sc
