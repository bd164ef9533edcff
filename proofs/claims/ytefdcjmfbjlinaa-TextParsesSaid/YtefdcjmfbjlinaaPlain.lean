/- What text's reader does, by plain lists. -/
import Derived.Test.YtefdcjmfbjlinaaFields
import Derived.Test.YtefdcjmfbjlinaaCheckall
namespace Go.Proofs.Ytefdcjmfbjlinaa.Sc

def taskW : List UInt8 := [116, 97, 115, 107]
/-- A field is set. -/
def setF (i : Nat) (n : Int) (x : Tsk) : Tsk :=
  if i = 0 then { x with c := n } else if i = 1 then { x with t := n } else if i = 2 then { x with d := n } else if i = 3 then { x with j := n } else if i = 4 then { x with q := n } else { x with p := n }
def finF (x : Tsk) (rem : Nat → Bool) : Option Tsk :=
  if rem 0 || rem 1 || rem 5 then none else some (if x.d < 0 then { x with d := x.t } else x)
def offF (rem : Nat → Bool) (i : Nat) : Nat → Bool := fun j => if j = i then false else rem j
/-- The fields of a line: the task, or none; and what is left of the tokens. -/
def fieldsL : List Tk → Tsk → (Nat → Bool) → Option Tsk × List Tk
  | [], x, rem => (finF x rem, [])
  | t :: l, x, rem =>
    if t.kind = 4 then (finF x rem, t :: l) else
    match fldI t.text with
    | none => (none, t :: l)
    | some i => if rem i = false then (none, t :: l) else
      match l with
      | [] => (none, [])
      | [t1] => if t1.kind = 3 then (none, []) else (none, [t1])
      | t1 :: t2 :: l' => if t1.kind = 3 then (if t2.kind = 2 then fieldsL l' (setF i t2.num x) (offF rem i) else (none, t2 :: l')) else (none, t1 :: t2 :: l')
def taskL : List Tk → Option Tsk × List Tk
  | [] => (none, [])
  | t :: l => if t.text = taskW then
      match l with
      | [] => (none, [])
      | n :: l' => if n.kind = 1 then fieldsL l' ⟨⟨n.text.toArray⟩, 0, 0, -1, 0, 1, 0⟩ (fun _ => true) else (none, n :: l')
    else (none, t :: l)
def placeL (e : Nat) : List Tk → Nat
  | [] => e
  | t :: _ => t.at_
/-- All lines: tasks, a place, an error. -/
def readL (e : Nat) : Nat → List Tk → List Tsk × Nat × Nat
  | 0, _ => ([], e, 0)
  | _ + 1, [] => ([], e, 0)
  | f + 1, t :: l =>
    if t.kind = 4 then readL e f l else
    match taskL (t :: l) with
    | (none, r) => ([], placeL e r, 10)
    | (some x, r) => if (readL e f r).2.2 = 0 then (x :: (readL e f r).1, (readL e f r).2) else ([], (readL e f r).2)
theorem fieldsL_len : ∀ (n : Nat) (l : List Tk) (x : Tsk) (rem : Nat → Bool), l.length ≤ n → (fieldsL l x rem).2.length ≤ l.length
  | 0, [], _, _, _ => by simp [fieldsL]
  | n + 1, [], _, _, _ => by simp [fieldsL]
  | n + 1, t :: l, x, rem, hn => by
    unfold fieldsL
    split
    · exact Nat.le_refl _
    · split
      · exact Nat.le_refl _
      · split
        · exact Nat.le_refl _
        · split
          · simp
          · split <;> simp
          · rename_i t1 t2 l'
            split
            · split
              · refine Nat.le_trans (fieldsL_len n l' _ _ (by simp at hn; omega)) ?_
                simp
                omega
              · simp
            · simp
/-- A line that is a task takes at least two tokens. -/
theorem taskL_some {l : List Tk} {t : Tk} {x : Tsk} {r : List Tk} (h : taskL (t :: l) = (some x, r)) : r.length < l.length := by
  by_cases ht : t.text = taskW
  · cases l with
    | nil => simp [taskL, ht] at h
    | cons n l' =>
      by_cases hk : n.kind = 1
      · have := fieldsL_len _ l' ⟨⟨n.text.toArray⟩, 0, 0, -1, 0, 1, 0⟩ (fun _ => true) (Nat.le_refl _)
        simp only [taskL, ht, hk, if_true] at h
        rw [h] at this
        simp at this ⊢
        omega
      · simp [taskL, ht, hk] at h
  · simp [taskL, ht] at h
end Go.Proofs.Ytefdcjmfbjlinaa.Sc
