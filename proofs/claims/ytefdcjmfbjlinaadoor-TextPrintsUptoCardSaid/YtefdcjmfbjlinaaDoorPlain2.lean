/- What text's reader does, by plain lists. -/
import Derived.Test.YtefdcjmfbjlinaaDoorFields
import Derived.Test.YtefdcjmfbjlinaaDoorCheckall
namespace Go.Proofs.YtefdcjmfbjlinaaDoor.Sc

def taskW : List UInt8 := [116, 97, 115, 107]
/-- A field is set. -/
def setF (i : Nat) (n : Int) (x : Tsk) : Tsk :=
  if i = 0 then { x with c := n } else if i = 1 then { x with t := n } else if i = 2 then { x with d := n } else if i = 3 then { x with j := n } else if i = 4 then { x with q := n } else { x with p := n }
def finF (x : Tsk) (rem : Nat → Bool) : Option Tsk :=
  if rem 0 || rem 1 || rem 5 then none else some (if x.d < 0 then { x with d := x.t } else x)
def offF (rem : Nat → Bool) (i : Nat) : Nat → Bool := fun j => if j = i then false else rem j
/-- The fields of a line: the task, or none; and what is left of the tokens. -/
def fieldsL : List Tk → Tsk → (Nat → Bool) → Option Tsk × List Tk
  | [], x, rem => (finF x rem, [])
  | t :: l, x, rem =>
    if t.kind = 4 then (finF x rem, t :: l) else
    match fldI t.text with
    | none => (none, t :: l)
    | some i => if rem i = false then (none, t :: l) else
      match l with
      | [] => (none, [])
      | [t1] => if t1.kind = 3 then (none, []) else (none, [t1])
      | t1 :: t2 :: l' => if t1.kind = 3 then (if t2.kind = 2 then fieldsL l' (setF i t2.num x) (offF rem i) else (none, t2 :: l')) else (none, t1 :: t2 :: l')
def taskL : List Tk → Option Tsk × List Tk
  | [] => (none, [])
  | t :: l => if t.text = taskW then
      match l with
      | [] => (none, [])
      | n :: l' => if n.kind = 1 then fieldsL l' ⟨⟨n.text.toArray⟩, 0, 0, -1, 0, 1, 0⟩ (fun _ => true) else (none, n :: l')
    else (none, t :: l)
def placeL (e : Nat) : List Tk → Nat
  | [] => e
  | t :: _ => t.at_
/-- All lines: tasks, a place, an error. -/
def readL (e : Nat) : Nat → List Tk → List Tsk × Nat × Nat
  | 0, _ => ([], e, 0)
  | _ + 1, [] => ([], e, 0)
  | f + 1, t :: l =>
    if t.kind = 4 then readL e f l else
    match taskL (t :: l) with
    | (none, r) => ([], placeL e r, 10)
    | (some x, r) => if (readL e f r).2.2 = 0 then (x :: (readL e f r).1, (readL e f r).2) else ([], (readL e f r).2)
theorem fieldsL_len : ∀ (n : Nat) (l : List Tk) (x : Tsk) (rem : Nat → Bool), l.length ≤ n → (fieldsL l x rem).2.length ≤ l.length
  | 0, [], _, _, _ => by simp [fieldsL]
  | n + 1, [], _, _, _ => by simp [fieldsL]
  | n + 1, t :: l, x, rem, hn => by
    unfold fieldsL
    split
    · exact Nat.le_refl _
    · split
      · exact Nat.le_refl _
      · split
        · exact Nat.le_refl _
        · split
          · simp
          · split <;> simp
          · rename_i t1 t2 l'
            split
            · split
              · refine Nat.le_trans (fieldsL_len n l' _ _ (by simp at hn; omega)) ?_
                simp
                omega
              · simp
            · simp
/-- A line that is a task takes at least two tokens. -/
theorem taskL_some {l : List Tk} {t : Tk} {x : Tsk} {r : List Tk} (h : taskL (t :: l) = (some x, r)) : r.length < l.length := by
  by_cases ht : t.text = taskW
  · cases l with
    | nil => simp [taskL, ht] at h
    | cons n l' =>
      by_cases hk : n.kind = 1
      · have := fieldsL_len _ l' ⟨⟨n.text.toArray⟩, 0, 0, -1, 0, 1, 0⟩ (fun _ => true) (Nat.le_refl _)
        simp only [taskL, ht, hk, if_true] at h
        rw [h] at this
        simp at this ⊢
        omega
      · simp [taskL, ht, hk] at h
  · simp [taskL, ht] at h
end Go.Proofs.YtefdcjmfbjlinaaDoor.Sc
/- Steps of the plain reader at a place; the map's delete at a walk's operation. -/
namespace Go.Proofs.YtefdcjmfbjlinaaDoor.Sc
open Go.RowKit Go.Shelf Go.Maps

theorem drop_cons {ts : List Tk} {k : Nat} {t : Tk} (h : ts[k]? = some t) : ts.drop k = t :: ts.drop (k + 1) := by
  have hk : k < ts.length := by
    rcases Nat.lt_or_ge k ts.length with h' | h'
    · exact h'
    · rw [List.getElem?_eq_none h'] at h; cases h
  rw [List.drop_eq_getElem_cons hk]
  rw [List.getElem?_eq_getElem hk] at h
  rw [Option.some.inj h]
theorem here_some {ts : List Tk} {k e : Nat} {t : Tk} (h : hereT ts k e = t) (hne : t.kind ≠ 0 ∨ t.text ≠ []) : ts[k]? = some t := by
  unfold hereT at h
  cases hk : ts[k]? with
  | some u => rw [hk] at h; simpa using h
  | none =>
    rw [hk] at h
    simp at h
    subst h
    simp [endTk] at hne
theorem lt_some {ts : List Tk} {k : Nat} {t : Tk} (h : ts[k]? = some t) : k < ts.length := by
  rcases Nat.lt_or_ge k ts.length with h' | h'
  · exact h'
  · rw [List.getElem?_eq_none h'] at h; cases h
theorem here_drop (ts : List Tk) (k e : Nat) : (ts.drop k = [] ∧ hereT ts k e = endTk e) ∨ (∃ t, ts[k]? = some t ∧ hereT ts k e = t) := by
  unfold hereT
  cases h : ts[k]? with
  | none => exact .inl ⟨by rw [List.drop_eq_nil_iff]; exact List.getElem?_eq_none_iff.1 h, rfl⟩
  | some t => exact .inr ⟨t, rfl, rfl⟩
theorem fields_end {ts : List Tk} {k e : Nat} {x : Tsk} {rem : Nat → Bool} (h : ts.length ≤ k ∨ (hereT ts k e).kind = 4) : fieldsL (ts.drop k) x rem = (finF x rem, ts.drop k) := by
  rcases here_drop ts k e with ⟨hd, _⟩ | ⟨t, ht, hh⟩
  · rw [hd]; rfl
  · rcases h with h | h
    · have := lt_some ht; omega
    · rw [drop_cons ht]
      rw [hh] at h
      simp [fieldsL, h]
theorem fields_bad {ts : List Tk} {k : Nat} {x : Tsk} {rem : Nat → Bool} {t : Tk} (ht : ts[k]? = some t) (h4 : t.kind ≠ 4) (hb : fldI t.text = none ∨ ∃ i, fldI t.text = some i ∧ rem i = false) : fieldsL (ts.drop k) x rem = (none, ts.drop k) := by
  rw [drop_cons ht]
  rcases hb with hb | ⟨i, hi, hr⟩
  · simp [fieldsL, h4, hb]
  · simp [fieldsL, h4, hi, hr]
theorem fields_eq {ts : List Tk} {k e : Nat} {x : Tsk} {rem : Nat → Bool} {t : Tk} {i : Nat} (ht : ts[k]? = some t) (h4 : t.kind ≠ 4) (hi : fldI t.text = some i) (hr : rem i = true) (h : (hereT ts (k + 1) e).kind ≠ 3) : fieldsL (ts.drop k) x rem = (none, ts.drop (k + 1)) := by
  rw [drop_cons ht]
  rcases here_drop ts (k + 1) e with ⟨hd, _⟩ | ⟨u, hu, hh⟩
  · rw [hd]; simp [fieldsL, h4, hi, hr]
  · rw [hh] at h
    rw [drop_cons hu]
    cases hd : ts.drop (k + 1 + 1) with
    | nil => simp [fieldsL, h4, hi, hr, h]
    | cons v l => simp [fieldsL, h4, hi, hr, h]
theorem fields_num {ts : List Tk} {k e : Nat} {x : Tsk} {rem : Nat → Bool} {t : Tk} {i : Nat} (ht : ts[k]? = some t) (h4 : t.kind ≠ 4) (hi : fldI t.text = some i) (hr : rem i = true) (h3 : (hereT ts (k + 1) e).kind = 3) (h : (hereT ts (k + 1 + 1) e).kind ≠ 2) : fieldsL (ts.drop k) x rem = (none, ts.drop (k + 1 + 1)) := by
  rw [drop_cons ht]
  have hu := here_some (t := hereT ts (k + 1) e) rfl (.inl (by rw [h3]; decide))
  rw [drop_cons hu]
  rcases here_drop ts (k + 1 + 1) e with ⟨hd, _⟩ | ⟨v, hv, hh⟩
  · rw [hd]; simp [fieldsL, h4, hi, hr, h3]
  · rw [hh] at h
    rw [drop_cons hv]
    simp [fieldsL, h4, hi, hr, h3, h]
theorem fields_go {ts : List Tk} {k e : Nat} {x : Tsk} {rem : Nat → Bool} {t : Tk} {i : Nat} (ht : ts[k]? = some t) (h4 : t.kind ≠ 4) (hi : fldI t.text = some i) (hr : rem i = true) (h3 : (hereT ts (k + 1) e).kind = 3) (h : (hereT ts (k + 1 + 1) e).kind = 2) :
    k + 1 + 1 + 1 ≤ ts.length ∧ fieldsL (ts.drop k) x rem = fieldsL (ts.drop (k + 1 + 1 + 1)) (setF i (hereT ts (k + 1 + 1) e).num x) (offF rem i) := by
  rw [drop_cons ht]
  have hu := here_some (t := hereT ts (k + 1) e) rfl (.inl (by rw [h3]; decide))
  have hv := here_some (t := hereT ts (k + 1 + 1) e) rfl (.inl (by rw [h]; decide))
  have := lt_some hv
  refine ⟨by omega, ?_⟩
  rw [drop_cons hu, drop_cons hv]
  simp [fieldsL, h4, hi, hr, h3, h]

theorem wpList_delF {ops : Array Oper} {rest : List Oper} {o : Oper} {a : Act} {w : World} {Q : Exit → Act → World → Prop} (hg : o.guard = none) (m x : Operand) (hop : o.op = Op.call { callee := Callee.builtin Builtin.delete, args := #[m, x], argTypes := #[84, 9] })
    (b n : Nat) (f f' : Lit → Value) (hm : a.eval m = .map (some b)) (h : IsMapF w b n f) (key : Value) (kl : Lit) (hx : a.eval x = key) (hk : keyOf Tryd.prog 9 key = some kl) (hkl : WideAt.IsKeyLit kl) (hv : f' kl = .nilFunc) (hf : ∀ k, WideAt.IsKeyLit k → k ≠ kl → f' k = f k)
    (hK : ∀ w', IsMapF w' b n f' → Keeps [b] w w' → wpList Tryd.prog ops Q rest (a.put o.dst (.tuple #[])) w') : wpList Tryd.prog ops Q (o :: rest) a w := by
  refine wpList_plain hg fun K' hK' => ?_
  obtain ⟨w', hrun, r1, r2⟩ := delF h hk hkl hv hf o.type
  unfold Oper.wp
  simp [execOp, hop, resolve, invoke, builtin, hm, hx, hrun, Result.andThen]
  exact hK' _ _ (hK w' r1 r2)
theorem mapF_key {B : Nat → Nat} {rem : Nat → Bool} {k : Nat} (hk : k < 6) : mapF B rem (.string (keyB k).data.toList) = if rem k then fldV B k else .nilFunc := by
  unfold mapF
  simp only [fldI_key hk]
theorem mapF_word {B : Nat → Nat} {rem : Nat → Bool} (l : List UInt8) : mapF B rem (.string l) = match fldI l with | some i => if rem i then fldV B i else .nilFunc | none => .nilFunc := rfl
theorem mapF_off {B : Nat → Nat} {rem : Nat → Bool} {l : List UInt8} {i : Nat} (hi : fldI l = some i) : mapF B (offF rem i) (.string l) = .nilFunc ∧ ∀ k, k ≠ .string l → mapF B (offF rem i) k = mapF B rem k := by
  obtain ⟨hl, hi6⟩ := key_fldI hi
  have := mapF_put (B := B) (r := rem) hi6 false
  rw [← hl] at this
  exact ⟨this.1, this.2⟩
end Go.Proofs.YtefdcjmfbjlinaaDoor.Sc
