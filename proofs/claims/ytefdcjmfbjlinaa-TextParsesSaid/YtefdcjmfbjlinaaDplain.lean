/- The document's reader, plain: what its arrays hold, and the task of it. -/
import Derived.Test.YtefdcjmfbjlinaaDrd
namespace Go.Proofs.Ytefdcjmfbjlinaa.Sc
open Go.RowKit Go.Shelf Go.Maps

/-- A token as scan tells it. -/
def WfT (t : Tk) : Prop := (t.text = taskW → t.kind = 1) ∧ (fldI t.text ≠ none → t.kind = 1) ∧ t.kind ≠ 0
def thO (th : Nat → Bool) : Obj := .cells #[.bool (th 0), .bool (th 1), .bool (th 2), .bool (th 3), .bool (th 4), .bool (th 5)] 89 (0, 0)
def nO (n : Nat → Int) : Obj := .cells #[.int .i64 (n 0), .int .i64 (n 1), .int .i64 (n 2), .int .i64 (n 3), .int .i64 (n 4), .int .i64 (n 5)] 90 (0, 0)
def upd {α : Type} (f : Nat → α) (i : Nat) (v : α) : Nat → α := fun j => if j = i then v else f j
/-- The program's task out of the document's numbers. -/
def xOf (nm : ByteArray) (n : Nat → Int) (th : Nat → Bool) : Tsk := ⟨nm, n 0, n 1, if th 2 then n 2 else -1, n 3, if th 4 then n 4 else 1, n 5⟩
theorem xOf_set (nm : ByteArray) (n : Nat → Int) (th : Nat → Bool) (i : Nat) (hi : i < 6) (v : Int) : setF i v (xOf nm n th) = xOf nm (upd n i v) (upd th i true) := by
  have : i = 0 ∨ i = 1 ∨ i = 2 ∨ i = 3 ∨ i = 4 ∨ i = 5 := by omega
  rcases this with rfl | rfl | rfl | rfl | rfl | rfl <;> simp [setF, xOf, upd]
theorem offF_upd (th : Nat → Bool) (i : Nat) : offF (fun j => !th j) i = fun j => !(upd th i true) j := by
  funext j
  unfold offF upd
  by_cases h : j = i <;> simp [h]
theorem finF_xOf {nm : ByteArray} {n : Nat → Int} {th : Nat → Bool} (hn : ∀ i, 0 ≤ n i) : finF (xOf nm n th) (fun j => !th j) = if th 0 && th 1 && th 5 then some ⟨nm, n 0, n 1, if th 2 then n 2 else n 1, n 3, if th 4 then n 4 else 1, n 5⟩ else none := by
  have h3 := hn 2
  cases h0 : th 0
  · simp [finF, h0]
  · cases h1 : th 1
    · simp [finF, h0, h1]
    · cases h5 : th 5
      · simp [finF, h0, h1, h5]
      · cases h2 : th 2
        · simp [finF, h0, h1, h5, xOf, h2]
        · have h6 : ¬ n 2 < 0 := by omega
          simp [finF, h0, h1, h5, xOf, h2, h6]
theorem th_set {w : World} {b : Nat} {th : Nat → Bool} (h : w.heap[b]? = some (thO th)) (i : Nat) (hi : i < 6) : (w.setCell ⟨b, i, none⟩ (.bool true)).heap[b]? = some (thO (upd th i true)) := by
  rw [blk_set_same h i (.bool true)]
  have : i = 0 ∨ i = 1 ∨ i = 2 ∨ i = 3 ∨ i = 4 ∨ i = 5 := by omega
  rcases this with rfl | rfl | rfl | rfl | rfl | rfl <;> simp [thO, upd]
theorem n_set {w : World} {b : Nat} {n : Nat → Int} (h : w.heap[b]? = some (nO n)) (i : Nat) (hi : i < 6) (v : Int) : (w.setCell ⟨b, i, none⟩ (.int .i64 v)).heap[b]? = some (nO (upd n i v)) := by
  rw [blk_set_same h i (.int .i64 v)]
  have : i = 0 ∨ i = 1 ∨ i = 2 ∨ i = 3 ∨ i = 4 ∨ i = 5 := by omega
  rcases this with rfl | rfl | rfl | rfl | rfl | rfl <;> simp [nO, upd]
theorem th_cell {w : World} {b : Nat} {th : Nat → Bool} (h : w.heap[b]? = some (thO th)) (i : Nat) (hi : i < 6) : w.cell? ⟨b, i, none⟩ = some (.bool (th i)) ∧ w.frozen? ⟨b, i, none⟩ = false := by
  refine ⟨?_, free_blk h i⟩
  rw [cell_blk h]
  have : i = 0 ∨ i = 1 ∨ i = 2 ∨ i = 3 ∨ i = 4 ∨ i = 5 := by omega
  rcases this with rfl | rfl | rfl | rfl | rfl | rfl <;> rfl
theorem n_cell {w : World} {b : Nat} {n : Nat → Int} (h : w.heap[b]? = some (nO n)) (i : Nat) (hi : i < 6) : w.cell? ⟨b, i, none⟩ = some (.int .i64 (n i)) ∧ w.frozen? ⟨b, i, none⟩ = false := by
  refine ⟨?_, free_blk h i⟩
  rw [cell_blk h]
  have : i = 0 ∨ i = 1 ∨ i = 2 ∨ i = 3 ∨ i = 4 ∨ i = 5 := by omega
  rcases this with rfl | rfl | rfl | rfl | rfl | rfl <;> rfl
theorem wf_here {ts : List Tk} (hw : ∀ t ∈ ts, WfT t) (k e : Nat) : (hereT ts k e = endTk e ∧ ts.drop k = [] ∧ ts.length ≤ k) ∨ (∃ t, ts[k]? = some t ∧ hereT ts k e = t ∧ WfT t ∧ k < ts.length) := by
  rcases here_drop ts k e with ⟨hd, hh⟩ | ⟨t, ht, hh⟩
  · exact .inl ⟨hh, hd, by simpa using hd⟩
  · exact .inr ⟨t, ht, hh, hw t (List.mem_of_getElem? ht), lt_some ht⟩
/-- No task begins here. -/
theorem task_no1 {ts : List Tk} (hw : ∀ t ∈ ts, WfT t) {k e : Nat} (h : (hereT ts k e).kind ≠ 1 ∨ (hereT ts k e).text ≠ taskW) : taskL (ts.drop k) = (none, ts.drop k) := by
  rcases wf_here hw k e with ⟨_, hd, _⟩ | ⟨t, ht, hh, hwt, _⟩
  · rw [hd]; rfl
  · rw [drop_cons ht]
    rw [hh] at h
    have : t.text ≠ taskW := by
      rcases h with h | h
      · exact fun hx => h (hwt.1 hx)
      · exact h
    simp [taskL, this]
theorem task_no2 {ts : List Tk} {k e : Nat} (h1 : (hereT ts k e).text = taskW) (h : (hereT ts (k + 1) e).kind ≠ 1) : taskL (ts.drop k) = (none, ts.drop (k + 1)) ∧ k < ts.length := by
  have ht := here_some (t := hereT ts k e) rfl (.inr (by rw [h1]; simp [taskW]))
  refine ⟨?_, lt_some ht⟩
  rw [drop_cons ht]
  rcases here_drop ts (k + 1) e with ⟨hd, _⟩ | ⟨v, hv, hh⟩
  · rw [hd]; simp [taskL, h1]
  · rw [drop_cons hv]
    rw [hh] at h
    simp [taskL, h1, h]
theorem task_yes {ts : List Tk} {k e : Nat} (h1 : (hereT ts k e).text = taskW) (h : (hereT ts (k + 1) e).kind = 1) : k + 1 < ts.length ∧ taskL (ts.drop k) = fieldsL (ts.drop (k + 1 + 1)) (xOf ⟨(hereT ts (k + 1) e).text.toArray⟩ (fun _ => 0) (fun _ => false)) (fun j => !(fun _ => false) j) := by
  have ht := here_some (t := hereT ts k e) rfl (.inr (by rw [h1]; simp [taskW]))
  have hu := here_some (t := hereT ts (k + 1) e) rfl (.inl (by rw [h]; decide))
  refine ⟨lt_some hu, ?_⟩
  rw [drop_cons ht, drop_cons hu]
  simp [taskL, h1, h, xOf]
/-- Neither a field nor the line's end. -/
theorem fields_odd {ts : List Tk} (hw : ∀ t ∈ ts, WfT t) {k e : Nat} {x : Tsk} {rem : Nat → Bool} (h1 : (hereT ts k e).kind ≠ 1) (h0 : (hereT ts k e).kind ≠ 0) (h4 : (hereT ts k e).kind ≠ 4) : fieldsL (ts.drop k) x rem = (none, ts.drop k) := by
  have ht := here_some (t := hereT ts k e) rfl (.inl h0)
  have hwt := hw _ (List.mem_of_getElem? ht)
  refine fields_bad ht h4 (.inl ?_)
  cases hf : fldI (hereT ts k e).text with
  | none => rfl
  | some i => exact absurd (hwt.2.1 (by rw [hf]; simp)) h1
theorem fields_stop {ts : List Tk} (hw : ∀ t ∈ ts, WfT t) {k e : Nat} {x : Tsk} {rem : Nat → Bool} (h : (hereT ts k e).kind = 0 ∨ (hereT ts k e).kind = 4) : fieldsL (ts.drop k) x rem = (finF x rem, ts.drop k) := by
  refine fields_end (e := e) ?_
  rcases wf_here hw k e with ⟨_, _, hl⟩ | ⟨t, ht, hh, hwt, _⟩
  · exact .inl hl
  · rcases h with h | h
    · rw [hh] at h; exact absurd h hwt.2.2
    · exact .inr h
def fldJ (l : List UInt8) : Int := match fldI l with | some i => (i : Int) | none => -1
end Go.Proofs.Ytefdcjmfbjlinaa.Sc
