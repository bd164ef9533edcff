/- Rows of structs that a call made, read; reading by lines, plain. -/
import Derived.Test.YtefdcjmfbjlinaaDoorTask
namespace Go.Proofs.YtefdcjmfbjlinaaDoor.Sc
open Go.RowKit Go.Shelf Go.Maps

theorem flat_at {α : Type} {c : α → List Value} {sz : Nat} (hc : ∀ x, (c x).length = sz) : ∀ (xs : List α) (i : Nat) (x : α) (r : Nat) (u : Value), xs[i]? = some x → (c x)[r]? = some u → (xs.flatMap c)[i * sz + r]? = some u
  | [], _, _, _, _, h, _ => by simp at h
  | y :: ys, i, x, r, u, h, hu => by
    rw [List.flatMap_cons]
    cases i with
    | zero =>
      simp at h
      subst h
      have hr : r < (c y).length := by
        rcases Nat.lt_or_ge r (c y).length with h' | h'
        · exact h'
        · rw [List.getElem?_eq_none h'] at hu; cases hu
      rw [List.getElem?_append_left (by omega)]
      simpa using hu
    | succ i =>
      rw [List.getElem?_append_right (by rw [hc, Nat.add_mul]; omega), hc]
      have e : (i + 1) * sz + r - sz = i * sz + r := by rw [Nat.add_mul]; omega
      rw [e]
      exact flat_at hc ys i x r u (by simpa using h) hu
theorem own_at {α : Type} {c : α → List Value} {sz : Nat} (hc : ∀ x, (c x).length = sz) {w : World} {base e n : Nat} {v : Value} {xs : List α} (hn : xs.length = n) (h : w.ownsRow base e sz v n (xs.flatMap c)) :
    ∃ A cap, v = .slice A n cap ∧ n ≤ cap ∧ (∀ a, A = some a → base ≤ a.block ∧ a.block < w.heap.size) ∧ ∀ i x, xs[i]? = some x → ∃ b, A = some ⟨b, 0, none⟩ ∧ ∀ r u, (c x)[r]? = some u → w.cell? ⟨b, i * sz + r, none⟩ = some u := by
  rcases h.2 with ⟨rfl, h0⟩ | ⟨g, cap, cur, rfl, h1, h2, h3, h4, h5, h6⟩
  · refine ⟨none, 0, by rw [h0], by omega, by simp, fun i x hx => ?_⟩
    have : xs = [] := List.eq_nil_of_length_eq_zero (by omega)
    subst this
    simp at hx
  · refine ⟨some ⟨g, 0, none⟩, cap, rfl, by omega, fun a ha => ?_, fun i x hx => ⟨g, rfl, fun r u hu => ?_⟩⟩
    · cases ha
      exact ⟨h1, blk_lt h2⟩
    · have := flat_at hc xs i x r u hx hu
      rw [cell_blk h2]
      have h7 : (cur.toList.take (n * sz))[i * sz + r]? = some u := by rw [h6]; exact this
      rw [List.getElem?_take] at h7
      split at h7
      · simpa using h7
      · cases h7
theorem row_tk {W : World} {base : Nat} {v : Value} {ts : List Tk} (h : RowT W base v ts) : ∃ A cap, v = .slice A ts.length cap ∧ ts.length ≤ cap ∧ (∀ a, A = some a → base ≤ a.block ∧ a.block < W.heap.size) ∧ RowTk W A ts := by
  obtain ⟨A, cap, h1, h2, h3, h4⟩ := own_at (c := cellsT) (sz := 4) (fun _ => rfl) rfl h
  refine ⟨A, cap, h1, h2, h3, fun i t ht => ?_⟩
  obtain ⟨b, hb, hc⟩ := h4 i t ht
  exact ⟨b, 0, hb, fun r u hu => by rw [Nat.zero_add]; exact hc r u hu⟩
def RowS (W : World) (base : Nat) (v : Value) (xs : List Tsk) : Prop := W.ownsRow base 29 7 v xs.length (xs.flatMap cellsTsk)
theorem row_tsk {W : World} {base : Nat} {v : Value} {xs : List Tsk} (h : RowS W base v xs) : ∃ A cap, v = .slice A xs.length cap ∧ xs.length ≤ cap ∧ (∀ a, A = some a → base ≤ a.block ∧ a.block < W.heap.size) ∧ RowTsk W A xs := by
  obtain ⟨A, cap, h1, h2, h3, h4⟩ := own_at (c := cellsTsk) (sz := 7) (fun _ => rfl) rfl h
  refine ⟨A, cap, h1, h2, h3, fun i t ht => ?_⟩
  obtain ⟨b, hb, hc⟩ := h4 i t ht
  exact ⟨b, 0, hb, fun r u hu => by rw [Nat.zero_add]; exact hc r u hu⟩

theorem toks_bound (L : List UInt8) : ∀ t ∈ (eachL L).1, t.at_ + t.text.length ≤ L.length := by
  have h := (lex_end L L.length 0 (by omega) (by omega)).2.2
  simp only [List.drop_zero, Nat.zero_add] at h
  rw [eachL_eq]
  exact h
theorem lexL_toks (L : List UInt8) : (lexL L).1.length ≤ L.length ∧ ∀ t ∈ (lexL L).1, t.at_ + t.text.length ≤ L.length := by
  unfold lexL
  split
  · simp
  · exact ⟨eachL_len L, toks_bound L⟩
theorem readL_fuel (e : Nat) : ∀ (f g : Nat) (l : List Tk), l.length ≤ f → l.length ≤ g → readL e f l = readL e g l
  | 0, 0, _, _, _ => rfl
  | 0, g + 1, l, h, _ => by
    have : l = [] := List.eq_nil_of_length_eq_zero (by omega)
    subst this
    rfl
  | f + 1, 0, l, _, h => by
    have : l = [] := List.eq_nil_of_length_eq_zero (by omega)
    subst this
    rfl
  | f + 1, g + 1, [], _, _ => rfl
  | f + 1, g + 1, t :: l, hf, hg => by
    simp at hf hg
    simp only [readL]
    split
    · exact readL_fuel e f g l hf hg
    · cases ht : taskL (t :: l) with
      | mk o r =>
        cases o with
        | none => rfl
        | some x =>
          have := taskL_some ht
          simp only
          rw [readL_fuel e f g r (by omega) (by omega)]
def rd (e : Nat) (l : List Tk) : List Tsk × Nat × Nat := readL e l.length l
theorem rd_nil (e : Nat) : rd e [] = ([], e, 0) := rfl
theorem rd_line (e : Nat) {t : Tk} {l : List Tk} (h : t.kind = 4) : rd e (t :: l) = rd e l := by
  unfold rd
  simp [readL, h]
theorem rd_none (e : Nat) {t : Tk} {l r : List Tk} (h : t.kind ≠ 4) (ht : taskL (t :: l) = (none, r)) : rd e (t :: l) = ([], placeL e r, 10) := by
  unfold rd
  simp [readL, h, ht]
theorem rd_some (e : Nat) {t : Tk} {l r : List Tk} {x : Tsk} (h : t.kind ≠ 4) (ht : taskL (t :: l) = (some x, r)) : rd e (t :: l) = if (rd e r).2.2 = 0 then (x :: (rd e r).1, (rd e r).2) else ([], (rd e r).2) := by
  have hl := taskL_some ht
  have hf := readL_fuel e l.length r.length r (by omega) (by omega)
  unfold rd
  simp [readL, h, ht, hf]
/-- What is told behind some tasks. -/
def joinR (pre : List Tsk) (r : List Tsk × Nat × Nat) : List Tsk × Nat × Nat := if r.2.2 = 0 then (pre ++ r.1, r.2) else ([], r.2)
theorem joinR_nil_rd (e : Nat) : ∀ (n : Nat) (l : List Tk), l.length ≤ n → joinR [] (rd e l) = rd e l
  | 0, l, h => by
    have : l = [] := List.eq_nil_of_length_eq_zero (by omega)
    subst this
    rfl
  | n + 1, [], _ => rfl
  | n + 1, t :: l, h => by
    simp at h
    by_cases hk : t.kind = 4
    · rw [rd_line e hk]; exact joinR_nil_rd e n l h
    · cases ht : taskL (t :: l) with
      | mk o r =>
        cases o with
        | none => rw [rd_none e hk ht]; simp [joinR]
        | some x =>
          rw [rd_some e hk ht]
          by_cases he : (rd e r).2.2 = 0
          · simp [joinR, he]
          · simp [joinR, he]
theorem joinR_step (pre : List Tsk) (x : Tsk) (r : List Tsk × Nat × Nat) : joinR pre (if r.2.2 = 0 then (x :: r.1, r.2) else ([], r.2)) = joinR (pre ++ [x]) r := by
  unfold joinR
  by_cases h : r.2.2 = 0
  · simp [h]
  · simp [h]
/-- text.Read. -/
def readT (l : List UInt8) : List Tsk × Nat × Nat := if (lexL l).2.2 = 0 then rd l.length (lexL l).1 else ([], (lexL l).2.1, (lexL l).2.2)
theorem place_here (ts : List Tk) (k e : Nat) : placeL e (ts.drop k) = (hereT ts k e).at_ := by
  rcases here_drop ts k e with ⟨hd, hh⟩ | ⟨t, ht, hh⟩
  · rw [hd, hh]; rfl
  · rw [drop_cons ht, hh]; rfl
end Go.Proofs.YtefdcjmfbjlinaaDoor.Sc
