/- What stands ahead of the line that is refused is read: of tokens. -/
import Derived.Test.YtefdcjmfbjlinaaParse
namespace Go.Proofs.Ytefdcjmfbjlinaa.Sc

/-- Nothing, or a line's end. -/
def Ends (r : List Tk) : Prop := ∀ t r', r = t :: r' → t.kind = 4
theorem fields_ends {r : List Tk} (h : Ends r) (x : Tsk) (rem : Nat → Bool) : fieldsL r x rem = (finF x rem, r) := by
  cases r with
  | nil => simp [fieldsL]
  | cons t r => unfold fieldsL; rw [if_pos (h t r rfl)]
theorem fields_ok : ∀ (n : Nat) (l : List Tk) (x y : Tsk) (rem : Nat → Bool) (r : List Tk), l.length ≤ n → fieldsL l x rem = (some y, r) → ∃ c, l = c ++ r ∧ Ends r ∧ ∀ r2, Ends r2 → fieldsL (c ++ r2) x rem = (some y, r2) := by
  intro n
  induction n with
  | zero =>
    intro l x y rem r hl h
    obtain rfl : l = [] := List.eq_nil_of_length_eq_zero (by omega)
    rw [fieldsL, Prod.mk.injEq] at h
    obtain ⟨h1, rfl⟩ := h
    exact ⟨[], rfl, (by intro t r' e; cases e), fun r2 h2 => by rw [List.nil_append, fields_ends h2, h1]⟩
  | succ n ih =>
    intro l x y rem r hl h
    cases l with
    | nil =>
      rw [fieldsL, Prod.mk.injEq] at h
      obtain ⟨h1, rfl⟩ := h
      exact ⟨[], rfl, (by intro t r' e; cases e), fun r2 h2 => by rw [List.nil_append, fields_ends h2, h1]⟩
    | cons t l =>
      by_cases h4 : t.kind = 4
      · unfold fieldsL at h
        rw [if_pos h4, Prod.mk.injEq] at h
        obtain ⟨h1, rfl⟩ := h
        exact ⟨[], rfl, (by intro u r' e; injection e with e1 e2; subst e1; exact h4), fun r2 h2 => by rw [List.nil_append, fields_ends h2, h1]⟩
      · unfold fieldsL at h
        rw [if_neg h4] at h
        cases hf : fldI t.text with
        | none => rw [hf] at h; cases h
        | some i =>
          rw [hf] at h
          simp only at h
          by_cases hr : rem i = false
          · rw [if_pos hr] at h; cases h
          · rw [if_neg hr] at h
            match l, hl, h with
            | [], _, h => cases h
            | [t1], _, h =>
              simp only at h
              split at h <;> cases h
            | t1 :: t2 :: l', hl, h =>
              simp only at h
              by_cases h3 : t1.kind = 3
              · rw [if_pos h3] at h
                by_cases h2 : t2.kind = 2
                · rw [if_pos h2] at h
                  obtain ⟨c, rfl, he, hc⟩ := ih l' _ y _ r (by simp at hl; omega) h
                  refine ⟨t :: t1 :: t2 :: c, rfl, he, fun r2 h2' => ?_⟩
                  have := hc r2 h2'
                  show fieldsL (t :: t1 :: t2 :: (c ++ r2)) x rem = _
                  rw [fieldsL, if_neg h4, hf]
                  simp only
                  rw [if_neg hr, if_pos h3, if_pos h2]
                  exact this
                · rw [if_neg h2] at h; cases h
              · rw [if_neg h3] at h; cases h
theorem fields_no : ∀ (n : Nat) (l : List Tk) (x : Tsk) (rem : Nat → Bool) (r : List Tk), l.length ≤ n → fieldsL l x rem = (none, r) → ∃ c, l = c ++ r ∧ ∀ t ∈ c, t.kind ≠ 4 := by
  intro n
  induction n with
  | zero =>
    intro l x rem r hl h
    obtain rfl : l = [] := List.eq_nil_of_length_eq_zero (by omega)
    rw [fieldsL, Prod.mk.injEq] at h
    exact ⟨[], by rw [← h.2]; rfl, by simp⟩
  | succ n ih =>
    intro l x rem r hl h
    cases l with
    | nil =>
      rw [fieldsL, Prod.mk.injEq] at h
      exact ⟨[], by rw [← h.2]; rfl, by simp⟩
    | cons t l =>
      unfold fieldsL at h
      by_cases h4 : t.kind = 4
      · rw [if_pos h4, Prod.mk.injEq] at h
        exact ⟨[], by rw [h.2]; rfl, by simp⟩
      · rw [if_neg h4] at h
        cases hf : fldI t.text with
        | none => rw [hf, Prod.mk.injEq] at h; exact ⟨[], by rw [h.2]; rfl, by simp⟩
        | some i =>
          rw [hf] at h
          simp only at h
          by_cases hr : rem i = false
          · rw [if_pos hr, Prod.mk.injEq] at h; exact ⟨[], by rw [h.2]; rfl, by simp⟩
          · rw [if_neg hr] at h
            match l, hl, h with
            | [], _, h =>
              rw [Prod.mk.injEq] at h
              exact ⟨[t], by rw [← h.2]; rfl, by simpa using h4⟩
            | [t1], _, h =>
              simp only at h
              by_cases h3 : t1.kind = 3
              · rw [if_pos h3, Prod.mk.injEq] at h
                exact ⟨[t, t1], by rw [← h.2]; rfl, by simp [h4, h3]⟩
              · rw [if_neg h3, Prod.mk.injEq] at h
                exact ⟨[t], by rw [← h.2]; rfl, by simpa using h4⟩
            | t1 :: t2 :: l', hl, h =>
              simp only at h
              by_cases h3 : t1.kind = 3
              · rw [if_pos h3] at h
                by_cases h2 : t2.kind = 2
                · rw [if_pos h2] at h
                  obtain ⟨c, rfl, hc⟩ := ih l' _ _ r (by simp at hl; omega) h
                  exact ⟨t :: t1 :: t2 :: c, rfl, by
                    intro u hu
                    simp only [List.mem_cons] at hu
                    rcases hu with rfl | rfl | rfl | hu
                    · exact h4
                    · omega
                    · omega
                    · exact hc u hu⟩
                · rw [if_neg h2, Prod.mk.injEq] at h
                  exact ⟨[t, t1], by rw [← h.2]; rfl, by simp [h4, h3]⟩
              · rw [if_neg h3, Prod.mk.injEq] at h
                exact ⟨[t], by rw [← h.2]; rfl, by simpa using h4⟩
theorem task_ok {l : List Tk} {x : Tsk} {r : List Tk} (h : taskL l = (some x, r)) : ∃ t c, l = t :: c ++ r ∧ Ends r ∧ ∀ r2, Ends r2 → taskL (t :: c ++ r2) = (some x, r2) := by
  match l, h with
  | [], h => simp [taskL] at h
  | [t], h =>
    simp only [taskL] at h
    split at h <;> cases h
  | t :: u :: l', h =>
    simp only [taskL] at h
    by_cases h1 : t.text = taskW
    · rw [if_pos h1] at h
      by_cases h2 : u.kind = 1
      · rw [if_pos h2] at h
        obtain ⟨c, rfl, he, hc⟩ := fields_ok _ _ _ _ _ _ (Nat.le_refl _) h
        refine ⟨t, u :: c, rfl, he, fun r2 hr2 => ?_⟩
        have := hc r2 hr2
        show taskL (t :: u :: (c ++ r2)) = _
        simp only [taskL]
        rw [if_pos h1, if_pos h2]
        exact this
      · rw [if_neg h2] at h; cases h
    · rw [if_neg h1] at h; cases h
theorem task_no {t : Tk} {l : List Tk} {r : List Tk} (h4 : t.kind ≠ 4) (h : taskL (t :: l) = (none, r)) : ∃ c, t :: l = c ++ r ∧ ∀ u ∈ c, u.kind ≠ 4 := by
  match l, h with
  | [], h =>
    simp only [taskL] at h
    split at h
    · rw [Prod.mk.injEq] at h
      exact ⟨[t], by rw [← h.2]; rfl, by simpa using h4⟩
    · rw [Prod.mk.injEq] at h
      exact ⟨[], by rw [h.2]; rfl, by simp⟩
  | u :: l', h =>
    simp only [taskL] at h
    by_cases h1 : t.text = taskW
    · rw [if_pos h1] at h
      by_cases h2 : u.kind = 1
      · rw [if_pos h2] at h
        obtain ⟨c, rfl, hc⟩ := fields_no _ _ _ _ _ (Nat.le_refl _) h
        exact ⟨t :: u :: c, rfl, by
          intro v hv
          simp only [List.mem_cons] at hv
          rcases hv with rfl | rfl | hv
          · exact h4
          · omega
          · exact hc v hv⟩
      · rw [if_neg h2, Prod.mk.injEq] at h
        exact ⟨[t], by rw [← h.2]; rfl, by simpa using h4⟩
    · rw [if_neg h1, Prod.mk.injEq] at h
      exact ⟨[], by rw [h.2]; rfl, by simp⟩
/-- Lines that end, or none. -/
def Lines (pre : List Tk) : Prop := pre = [] ∨ ∃ p u, pre = p ++ [u] ∧ u.kind = 4
theorem rd_bad (e : Nat) : ∀ (n : Nat) (l : List Tk), l.length ≤ n → (rd e l).2.2 ≠ 0 → ∃ pre c r, l = pre ++ c ++ r ∧ (pre = [] → ¬ (∃ t l', l = t :: l' ∧ t.kind = 4)) ∧ Lines pre ∧ (∀ t ∈ c, t.kind ≠ 4) ∧ rd e l = ([], placeL e r, 10) ∧ ∀ e', (rd e' pre).2.2 = 0 := by
  intro n
  induction n with
  | zero =>
    intro l hl h
    obtain rfl : l = [] := List.eq_nil_of_length_eq_zero (by omega)
    exact absurd rfl h
  | succ n ih =>
    intro l hl h
    cases l with
    | nil => exact absurd rfl h
    | cons t l =>
      simp at hl
      by_cases hk : t.kind = 4
      · rw [rd_line e hk] at h
        obtain ⟨pre, c, r, rfl, h1, h2, h3, h4, h5⟩ := ih l hl h
        refine ⟨t :: pre, c, r, rfl, fun hh => (by cases hh), ?_, h3, by rw [rd_line e hk, h4], fun e' => by rw [rd_line e' hk]; exact h5 e'⟩
        rcases h2 with rfl | ⟨p, u, rfl, hu⟩
        · exact .inr ⟨[], t, rfl, hk⟩
        · exact .inr ⟨t :: p, u, rfl, hu⟩
      · have hnot : ¬ (∃ t' l', t :: l = t' :: l' ∧ t'.kind = 4) := by
          rintro ⟨t', l', e, h'⟩
          injection e with e1 e2
          subst e1
          exact hk h'
        cases ht : taskL (t :: l) with
        | mk o r =>
          cases o with
          | none =>
            obtain ⟨c, hc, hc4⟩ := task_no hk ht
            exact ⟨[], c, r, hc, fun _ => hnot, .inl rfl, hc4, rd_none e hk ht, fun e' => rfl⟩
          | some x =>
            have hlen := taskL_some ht
            obtain ⟨t', c', hl', he, hc'⟩ := task_ok ht
            rw [rd_some e hk ht] at h
            have hr0 : (rd e r).2.2 ≠ 0 := by
              intro h0
              rw [if_pos h0] at h
              exact h h0
            obtain ⟨pre, c, r', rfl, h1, h2, h3, h4, h5⟩ := ih r (by omega) hr0
            have hpre : pre ≠ [] := by
              intro h0
              apply h1 h0
              cases hq : pre ++ c ++ r' with
              | nil => rw [hq] at hr0; exact absurd rfl hr0
              | cons a b => exact ⟨a, b, rfl, he a b hq⟩
            have hpe : Ends pre := by
              intro a b hab
              subst hab
              exact he a (b ++ c ++ r') (by simp)
            have hte : t' = t := by
              have := congrArg List.head? hl'
              simpa using this.symm
            subst hte
            refine ⟨t' :: c' ++ pre, c, r', by rw [hl']; simp, fun _ => hnot, ?_, h3, ?_, fun e' => ?_⟩
            · rcases h2 with rfl | ⟨p, u, rfl, hu⟩
              · exact absurd rfl hpre
              · exact .inr ⟨t' :: c' ++ p, u, by simp, hu⟩
            · rw [rd_some e hk ht, if_neg hr0, h4]
            · have h6 := hc' pre hpe
              have h7 := rd_some e' (t := t') (l := c' ++ pre) hk (by simpa using h6)
              show (rd e' (t' :: (c' ++ pre))).2.2 = 0
              rw [h7, if_pos (h5 e')]
              exact h5 e'
theorem rd_good (e : Nat) : ∀ (n : Nat) (l : List Tk), l.length ≤ n → (rd e l).2.2 = 0 → (rd e l).2.1 = e
  | _, [], _, _ => rfl
  | 0, t :: l, h, _ => by simp at h
  | n + 1, t :: l, hn, h => by
    simp at hn
    by_cases hk : t.kind = 4
    · rw [rd_line e hk] at h ⊢
      exact rd_good e n l hn h
    · cases ht : taskL (t :: l) with
      | mk o r =>
        cases o with
        | none => rw [rd_none e hk ht] at h; cases h
        | some x =>
          have hl := taskL_some ht
          rw [rd_some e hk ht] at h ⊢
          by_cases h0 : (rd e r).2.2 = 0
          · rw [if_pos h0] at h ⊢
            exact rd_good e n r (by omega) h0
          · rw [if_neg h0] at h
            exact absurd h h0
end Go.Proofs.Ytefdcjmfbjlinaa.Sc
/- What stands ahead of the line that is refused is read: of bytes. -/
namespace Go.Proofs.Ytefdcjmfbjlinaa.Sc

theorem spn_take (p : UInt8 → Bool) : ∀ (l : List UInt8) (m : Nat), spn p (l.take m) = min (spn p l) m
  | [], m => by simp [spn_nil]
  | c :: l, 0 => by simp [spn_nil]
  | c :: l, m + 1 => by
    rw [List.take_succ_cons, spn_cons, spn_cons, spn_take p l m]
    split <;> omega
theorem skp_take : ∀ (l : List UInt8) (b : Bool) (m : Nat), skp b (l.take m) = min (skp b l) m
  | [], b, m => by cases b <;> simp [skp]
  | c :: l, b, 0 => by cases b <;> simp [skp]
  | c :: l, false, m + 1 => by
    rw [List.take_succ_cons]
    simp only [skp]
    rw [skp_take l false m, skp_take l true m]
    split
    · omega
    · split <;> omega
  | c :: l, true, m + 1 => by
    rw [List.take_succ_cons]
    simp only [skp]
    rw [skp_take l true m]
    split <;> omega
theorem tln_take (c : UInt8) (l : List UInt8) (m : Nat) : tln ((c :: l).take (m + 1)) = min (tln (c :: l)) (m + 1) := by
  have h1 := spn_take isGo (c :: l) (m + 1)
  have h2 := spn_take isDig (c :: l) (m + 1)
  rw [List.take_succ_cons] at h1 h2 ⊢
  simp only [tln]
  split
  · exact h1
  · split
    · exact h2
    · omega
theorem tok_take (a : Nat) (c : UInt8) (l : List UInt8) (m : Nat) (h : tln (c :: l) ≤ m + 1) : tkOf a ((c :: l).take (m + 1)) = tkOf a (c :: l) := by
  have ht := tln_take c l m
  rw [List.take_succ_cons] at ht ⊢
  simp only [tkOf]
  rw [ht, Nat.min_eq_left h]
  have : (c :: l.take m).take (tln (c :: l)) = (c :: l).take (tln (c :: l)) := by
    rw [show c :: l.take m = (c :: l).take (m + 1) by rw [List.take_succ_cons], List.take_take, Nat.min_eq_left h]
  rw [this]
theorem nxt_take (c : UInt8) (l : List UInt8) (m : Nat) (h : nxt (c :: l) ≤ m + 1) : nxt ((c :: l).take (m + 1)) = nxt (c :: l) := by
  unfold nxt at h ⊢
  rw [tln_take, Nat.min_eq_left (by omega), List.drop_take, skp_take]
  omega
theorem one_nxt {c : UInt8} (h : knd c = 4) : tln [c] = 1 ∧ nxt [c] = 1 := by
  have hl : isLet c = false := by
    cases hh : isLet c with
    | false => rfl
    | true => simp [knd, hh] at h
  have hd : isDig c = false := by
    cases hh : isDig c with
    | false => rfl
    | true => simp [knd, hl, hh] at h
  have ht := tln_one (l := []) hl hd
  refine ⟨ht, ?_⟩
  unfold nxt
  rw [ht]
  simp [skp]
theorem rst_take : ∀ (pre : List Tk) (at_ : Nat) (l : List UInt8) (u : Tk) (rest : List Tk), (rst at_ l).1 = pre ++ u :: rest → u.kind = 4 → ∃ m, m ≤ l.length ∧ u.at_ + 1 = at_ + m ∧ rst at_ (l.take m) = (pre ++ [u], at_ + m) := by
  intro pre
  induction pre with
  | nil =>
    intro at_ l u rest h hu
    cases l with
    | nil => simp [rst_nil] at h
    | cons c l =>
      by_cases hk : knd c = 0
      · rw [rst_none _ hk] at h; simp at h
      · rw [rst_some _ hk] at h
        simp only [List.nil_append] at h
        injection h with h1 h2
        subst h1
        have hk4 : knd c = 4 := hu
        obtain ⟨ht1, hn1⟩ := one_nxt hk4
        refine ⟨1, by simp, by simp [tkOf], ?_⟩
        rw [List.take_succ_cons, List.take_zero, rst_some _ hk, hn1]
        simp only [List.drop_succ_cons, List.drop_nil, rst_nil, List.nil_append]
        have hl : isLet c = false := by
          cases hh : isLet c with
          | false => rfl
          | true => simp [knd, hh] at hk4
        have hd : isDig c = false := by
          cases hh : isDig c with
          | false => rfl
          | true => simp [knd, hl, hh] at hk4
        have e1 := tok_take at_ c l 0 (by rw [tln_one hl hd]; omega)
        rw [List.take_succ_cons, List.take_zero] at e1
        rw [e1]
  | cons t pre ih =>
    intro at_ l u rest h hu
    cases l with
    | nil => simp [rst_nil] at h
    | cons c l =>
      by_cases hk : knd c = 0
      · rw [rst_none _ hk] at h; simp at h
      · rw [rst_some _ hk] at h
        simp only [List.cons_append] at h
        injection h with h1 h2
        obtain ⟨m, hm, hua, hr⟩ := ih _ _ u rest h2 hu
        have hnl := nxt_le (c :: l)
        have hnp := nxt_pos c l
        have htn : tln (c :: l) ≤ nxt (c :: l) := by unfold nxt; omega
        rw [List.length_drop] at hm
        obtain ⟨k, hk'⟩ : ∃ k, nxt (c :: l) + m = k + 1 := ⟨nxt (c :: l) + m - 1, by omega⟩
        refine ⟨nxt (c :: l) + m, by omega, by omega, ?_⟩
        have e1 := tok_take at_ c l k (by omega)
        have e2 := nxt_take c l k (by omega)
        rw [hk']
        rw [List.take_succ_cons] at e1 e2 ⊢
        rw [rst_some _ hk, e1, e2, h1]
        have e3 : (c :: l.take k).drop (nxt (c :: l)) = ((c :: l).drop (nxt (c :: l))).take m := by
          rw [show c :: l.take k = (c :: l).take (k + 1) by rw [List.take_succ_cons], List.drop_take]
          congr 1
          omega
        rw [e3, hr]
        simp only [List.cons_append]
        rw [← hk', Nat.add_assoc]
theorem rst_sorted : ∀ (n at_ : Nat) (l : List UInt8), l.length ≤ n → (rst at_ l).1.Pairwise (fun a b => a.at_ < b.at_) ∧ ∀ t ∈ (rst at_ l).1, at_ ≤ t.at_ ∧ t.at_ < at_ + l.length := by
  intro n
  induction n with
  | zero =>
    intro at_ l hl
    obtain rfl : l = [] := List.eq_nil_of_length_eq_zero (by omega)
    simp [rst_nil]
  | succ n ih =>
    intro at_ l hl
    cases l with
    | nil => simp [rst_nil]
    | cons c l =>
      by_cases hk : knd c = 0
      · rw [rst_none _ hk]; simp
      · have hnl := nxt_le (c :: l)
        have hnp := nxt_pos c l
        obtain ⟨h1, h2⟩ := ih (at_ + nxt (c :: l)) ((c :: l).drop (nxt (c :: l))) (by rw [List.length_drop]; simp at hl ⊢; omega)
        rw [rst_some _ hk]
        simp only [List.pairwise_cons, List.mem_cons]
        rw [List.length_drop] at h2
        refine ⟨⟨fun t ht => ?_, h1⟩, ?_⟩
        · have := (h2 t ht).1
          show at_ < t.at_
          omega
        · rintro t (rfl | ht)
          · show at_ ≤ at_ ∧ at_ < at_ + (c :: l).length
            simp
          · have := h2 t ht
            omega
theorem each_take (L : List UInt8) (pre : List Tk) (u : Tk) (rest : List Tk) (h : (eachL L).1 = pre ++ u :: rest) (hu : u.kind = 4) : u.at_ + 1 ≤ L.length ∧ eachL (L.take (u.at_ + 1)) = (pre ++ [u], u.at_ + 1) := by
  rw [eachL_eq] at h
  obtain ⟨m, hm, hua, hr⟩ := rst_take pre _ _ u rest h hu
  have hs := skp_le false L
  rw [List.length_drop] at hm
  refine ⟨by omega, ?_⟩
  rw [eachL_eq, skp_take, hua, Nat.min_eq_left (by omega), List.drop_take, show skp false L + m - skp false L = m by omega]
  exact hr
/-- Where the line begins in which a place lies. -/
def lineOf (p : Nat) (ts : List Tk) (z : Nat) : Nat := ts.foldl (fun z t => if t.at_ < p ∧ t.kind = 4 then t.at_ + 1 else z) z
theorem lineOf_app (p : Nat) (a b : List Tk) (z : Nat) : lineOf p (a ++ b) z = lineOf p b (lineOf p a z) := by
  unfold lineOf; rw [List.foldl_append]
theorem lineOf_none (p : Nat) : ∀ (ts : List Tk) (z : Nat), (∀ t ∈ ts, ¬ (t.at_ < p ∧ t.kind = 4)) → lineOf p ts z = z
  | [], _, _ => rfl
  | t :: ts, z, h => by
    unfold lineOf
    rw [List.foldl_cons, if_neg (h t (by simp))]
    exact lineOf_none p ts z (fun u hu => h u (by simp [hu]))
theorem read_bad (L : List UInt8) (h : (readT L).2.2 ≠ 0) : (readT L).1 = [] ∧ (readT L).2.2 = 10 ∧ (readT L).2.1 ≤ L.length ∧
    (((eachL L).2 < L.length ∧ (readT L).2.1 = (eachL L).2) ∨ (¬ (eachL L).2 < L.length ∧ ((readT L).2.1 = L.length ∨ ∃ t ∈ (eachL L).1, t.at_ = (readT L).2.1) ∧ lineOf (readT L).2.1 (eachL L).1 0 ≤ L.length ∧ (readT (L.take (lineOf (readT L).2.1 (eachL L).1 0))).2.2 = 0)) := by
  by_cases hlt : (eachL L).2 < L.length
  · have e : readT L = ([], (eachL L).2, 10) := by
      unfold readT lexL
      rw [if_pos hlt]
      rfl
    rw [e]
    exact ⟨rfl, rfl, by simp only; omega, .inl ⟨hlt, rfl⟩⟩
  · have e : readT L = rd L.length (eachL L).1 := by
      unfold readT lexL
      rw [if_neg hlt]
      simp
    rw [e] at h ⊢
    obtain ⟨pre, c, r, hl, _, h2, h3, h4, h5⟩ := rd_bad L.length _ _ (Nat.le_refl _) h
    rw [h4]
    have hso := rst_sorted _ (skp false L) (L.drop (skp false L)) (Nat.le_refl _)
    rw [← eachL_eq] at hso
    have hs := skp_le false L
    rw [List.length_drop] at hso
    obtain ⟨hpw, hb⟩ := hso
    have hpl : placeL L.length r ≤ L.length ∧ (placeL L.length r = L.length ∨ ∃ t ∈ (eachL L).1, t.at_ = placeL L.length r) := by
      cases r with
      | nil => exact ⟨Nat.le_refl _, .inl rfl⟩
      | cons t r =>
        have hm : t ∈ (eachL L).1 := by rw [hl]; simp
        have := hb t hm
        exact ⟨by show t.at_ ≤ L.length; omega, .inr ⟨t, hm, rfl⟩⟩
    refine ⟨rfl, rfl, hpl.1, .inr ⟨hlt, hpl.2, ?_⟩⟩
    have hc : lineOf (placeL L.length r) (eachL L).1 0 = lineOf (placeL L.length r) pre 0 := by
      rw [hl, lineOf_app, lineOf_app]
      rw [lineOf_none _ c _ (fun t ht hh => h3 t ht hh.2)]
      apply lineOf_none
      intro t ht hh
      cases r with
      | nil => cases ht
      | cons v r =>
        have h6 : v.at_ ≤ t.at_ := by
          rcases List.mem_cons.1 ht with rfl | ht
          · exact Nat.le_refl _
          · rw [hl, List.pairwise_append] at hpw
            have := (List.pairwise_cons.1 hpw.2.1).1 t ht
            omega
        have h7 : t.at_ < v.at_ := hh.1
        omega
    rw [hc]
    rcases h2 with rfl | ⟨p, u, rfl, hu⟩
    · have e0 : lineOf (placeL L.length r) [] 0 = 0 := rfl
      rw [e0]
      exact ⟨by omega, rfl⟩
    · have hl2 : (eachL L).1 = p ++ u :: (c ++ r) := by rw [hl]; simp
      have hup : u.at_ < placeL L.length r := by
        cases r with
        | nil =>
          have := hb u (by rw [hl]; simp)
          show u.at_ < L.length
          omega
        | cons v r =>
          rw [hl, List.pairwise_append] at hpw
          exact hpw.2.2 u (by simp) v (by simp)
      have e1 : lineOf (placeL L.length r) (p ++ [u]) 0 = u.at_ + 1 := by
        rw [lineOf_app]
        unfold lineOf
        rw [List.foldl_cons, List.foldl_nil, if_pos ⟨hup, hu⟩]
      rw [e1]
      obtain ⟨h8, h9⟩ := each_take L p u (c ++ r) hl2 hu
      refine ⟨h8, ?_⟩
      have hlx : lexL (L.take (u.at_ + 1)) = (p ++ [u], u.at_ + 1, 0) := by
        unfold lexL
        rw [h9, if_neg (by rw [List.length_take]; show ¬ (u.at_ + 1 < min (u.at_ + 1) L.length); omega)]
      unfold readT
      rw [hlx, if_pos rfl]
      exact h5 _
theorem read_good (L : List UInt8) (h : (readT L).2.2 = 0) : (readT L).2.1 = L.length := by
  unfold readT at h ⊢
  split
  · rename_i h1
    rw [if_pos h1] at h
    exact rd_good _ _ _ (Nat.le_refl _) h
  · rename_i h1
    rw [if_neg h1] at h
    exact absurd h h1
end Go.Proofs.Ytefdcjmfbjlinaa.Sc
