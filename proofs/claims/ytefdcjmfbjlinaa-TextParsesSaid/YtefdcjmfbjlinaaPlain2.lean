/- Steps of the plain reader at a place; the map's delete at a walk's operation. -/
import Derived.Test.YtefdcjmfbjlinaaPlain
namespace Go.Proofs.Ytefdcjmfbjlinaa.Sc
open Go.RowKit Go.Shelf Go.Maps

theorem drop_cons {ts : List Tk} {k : Nat} {t : Tk} (h : ts[k]? = some t) : ts.drop k = t :: ts.drop (k + 1) := by
  have hk : k < ts.length := by
    rcases Nat.lt_or_ge k ts.length with h' | h'
    · exact h'
    · rw [List.getElem?_eq_none h'] at h; cases h
  rw [List.drop_eq_getElem_cons hk]
  rw [List.getElem?_eq_getElem hk] at h
  rw [Option.some.inj h]
theorem here_some {ts : List Tk} {k e : Nat} {t : Tk} (h : hereT ts k e = t) (hne : t.kind ≠ 0 ∨ t.text ≠ []) : ts[k]? = some t := by
  unfold hereT at h
  cases hk : ts[k]? with
  | some u => rw [hk] at h; simpa using h
  | none =>
    rw [hk] at h
    simp at h
    subst h
    simp [endTk] at hne
theorem lt_some {ts : List Tk} {k : Nat} {t : Tk} (h : ts[k]? = some t) : k < ts.length := by
  rcases Nat.lt_or_ge k ts.length with h' | h'
  · exact h'
  · rw [List.getElem?_eq_none h'] at h; cases h
theorem here_drop (ts : List Tk) (k e : Nat) : (ts.drop k = [] ∧ hereT ts k e = endTk e) ∨ (∃ t, ts[k]? = some t ∧ hereT ts k e = t) := by
  unfold hereT
  cases h : ts[k]? with
  | none => exact .inl ⟨by rw [List.drop_eq_nil_iff]; exact List.getElem?_eq_none_iff.1 h, rfl⟩
  | some t => exact .inr ⟨t, rfl, rfl⟩
theorem fields_end {ts : List Tk} {k e : Nat} {x : Tsk} {rem : Nat → Bool} (h : ts.length ≤ k ∨ (hereT ts k e).kind = 4) : fieldsL (ts.drop k) x rem = (finF x rem, ts.drop k) := by
  rcases here_drop ts k e with ⟨hd, _⟩ | ⟨t, ht, hh⟩
  · rw [hd]; rfl
  · rcases h with h | h
    · have := lt_some ht; omega
    · rw [drop_cons ht]
      rw [hh] at h
      simp [fieldsL, h]
theorem fields_bad {ts : List Tk} {k : Nat} {x : Tsk} {rem : Nat → Bool} {t : Tk} (ht : ts[k]? = some t) (h4 : t.kind ≠ 4) (hb : fldI t.text = none ∨ ∃ i, fldI t.text = some i ∧ rem i = false) : fieldsL (ts.drop k) x rem = (none, ts.drop k) := by
  rw [drop_cons ht]
  rcases hb with hb | ⟨i, hi, hr⟩
  · simp [fieldsL, h4, hb]
  · simp [fieldsL, h4, hi, hr]
theorem fields_eq {ts : List Tk} {k e : Nat} {x : Tsk} {rem : Nat → Bool} {t : Tk} {i : Nat} (ht : ts[k]? = some t) (h4 : t.kind ≠ 4) (hi : fldI t.text = some i) (hr : rem i = true) (h : (hereT ts (k + 1) e).kind ≠ 3) : fieldsL (ts.drop k) x rem = (none, ts.drop (k + 1)) := by
  rw [drop_cons ht]
  rcases here_drop ts (k + 1) e with ⟨hd, _⟩ | ⟨u, hu, hh⟩
  · rw [hd]; simp [fieldsL, h4, hi, hr]
  · rw [hh] at h
    rw [drop_cons hu]
    cases hd : ts.drop (k + 1 + 1) with
    | nil => simp [fieldsL, h4, hi, hr, h]
    | cons v l => simp [fieldsL, h4, hi, hr, h]
theorem fields_num {ts : List Tk} {k e : Nat} {x : Tsk} {rem : Nat → Bool} {t : Tk} {i : Nat} (ht : ts[k]? = some t) (h4 : t.kind ≠ 4) (hi : fldI t.text = some i) (hr : rem i = true) (h3 : (hereT ts (k + 1) e).kind = 3) (h : (hereT ts (k + 1 + 1) e).kind ≠ 2) : fieldsL (ts.drop k) x rem = (none, ts.drop (k + 1 + 1)) := by
  rw [drop_cons ht]
  have hu := here_some (t := hereT ts (k + 1) e) rfl (.inl (by rw [h3]; decide))
  rw [drop_cons hu]
  rcases here_drop ts (k + 1 + 1) e with ⟨hd, _⟩ | ⟨v, hv, hh⟩
  · rw [hd]; simp [fieldsL, h4, hi, hr, h3]
  · rw [hh] at h
    rw [drop_cons hv]
    simp [fieldsL, h4, hi, hr, h3, h]
theorem fields_go {ts : List Tk} {k e : Nat} {x : Tsk} {rem : Nat → Bool} {t : Tk} {i : Nat} (ht : ts[k]? = some t) (h4 : t.kind ≠ 4) (hi : fldI t.text = some i) (hr : rem i = true) (h3 : (hereT ts (k + 1) e).kind = 3) (h : (hereT ts (k + 1 + 1) e).kind = 2) :
    k + 1 + 1 + 1 ≤ ts.length ∧ fieldsL (ts.drop k) x rem = fieldsL (ts.drop (k + 1 + 1 + 1)) (setF i (hereT ts (k + 1 + 1) e).num x) (offF rem i) := by
  rw [drop_cons ht]
  have hu := here_some (t := hereT ts (k + 1) e) rfl (.inl (by rw [h3]; decide))
  have hv := here_some (t := hereT ts (k + 1 + 1) e) rfl (.inl (by rw [h]; decide))
  have := lt_some hv
  refine ⟨by omega, ?_⟩
  rw [drop_cons hu, drop_cons hv]
  simp [fieldsL, h4, hi, hr, h3, h]

theorem wpList_delF {ops : Array Oper} {rest : List Oper} {o : Oper} {a : Act} {w : World} {Q : Exit → Act → World → Prop} (hg : o.guard = none) (m x : Operand) (hop : o.op = Op.call { callee := Callee.builtin Builtin.delete, args := #[m, x], argTypes := #[80, 9] })
    (b n : Nat) (f f' : Lit → Value) (hm : a.eval m = .map (some b)) (h : IsMapF w b n f) (key : Value) (kl : Lit) (hx : a.eval x = key) (hk : keyOf Try.prog 9 key = some kl) (hkl : WideAt.IsKeyLit kl) (hv : f' kl = .nilFunc) (hf : ∀ k, WideAt.IsKeyLit k → k ≠ kl → f' k = f k)
    (hK : ∀ w', IsMapF w' b n f' → Keeps [b] w w' → wpList Try.prog ops Q rest (a.put o.dst (.tuple #[])) w') : wpList Try.prog ops Q (o :: rest) a w := by
  refine wpList_plain hg fun K' hK' => ?_
  obtain ⟨w', hrun, r1, r2⟩ := delF h hk hkl hv hf o.type
  unfold Oper.wp
  simp [execOp, hop, resolve, invoke, builtin, hm, hx, hrun, Result.andThen]
  exact hK' _ _ (hK w' r1 r2)
theorem mapF_key {B : Nat → Nat} {rem : Nat → Bool} {k : Nat} (hk : k < 6) : mapF B rem (.string (keyB k).data.toList) = if rem k then fldV B k else .nilFunc := by
  unfold mapF
  simp only [fldI_key hk]
theorem mapF_word {B : Nat → Nat} {rem : Nat → Bool} (l : List UInt8) : mapF B rem (.string l) = match fldI l with | some i => if rem i then fldV B i else .nilFunc | none => .nilFunc := rfl
theorem mapF_off {B : Nat → Nat} {rem : Nat → Bool} {l : List UInt8} {i : Nat} (hi : fldI l = some i) : mapF B (offF rem i) (.string l) = .nilFunc ∧ ∀ k, k ≠ .string l → mapF B (offF rem i) k = mapF B rem k := by
  obtain ⟨hl, hi6⟩ := key_fldI hi
  have := mapF_put (B := B) (r := rem) hi6 false
  rw [← hl] at this
  exact ⟨this.1, this.2⟩
end Go.Proofs.Ytefdcjmfbjlinaa.Sc
