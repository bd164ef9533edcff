/- Plain lemmas on heaps in lists: things by a key, and, of one key, by when they came. -/
namespace Go.Proofs.Ytlcbcagbiiachaa

section
variable {α : Type} (key : α → Int)

/-- One goes ahead of another one. -/
def ahead (a b : α × Nat) : Prop := key a.1 < key b.1 ∨ key a.1 = key b.1 ∧ a.2 < b.2

instance (a b : α × Nat) : Decidable (ahead key a b) := by unfold ahead; infer_instance

theorem ahead_irrefl (a : α × Nat) : ¬ ahead key a a := by unfold ahead; omega
theorem ahead_trans {a b c : α × Nat} (h : ahead key a b) (k : ahead key b c) : ahead key a c := by unfold ahead at *; omega
/-- Not behind. -/
def le (a b : α × Nat) : Prop := ¬ ahead key b a
theorem le_refl (a : α × Nat) : le key a a := ahead_irrefl key a
theorem le_trans {a b c : α × Nat} (h : le key a b) (k : le key b c) : le key a c := by unfold le ahead at *; omega
theorem le_of_ahead {a b : α × Nat} (h : ahead key a b) : le key a b := by unfold le ahead at *; omega
theorem le_total (a b : α × Nat) : le key a b ∨ le key b a := by unfold le ahead; omega
end

section
variable {β : Type} [Inhabited β]

def sw (L : List β) (i k : Nat) : List β := (L.set i L[k]!).set k L[i]!

theorem length_sw (L : List β) (i k : Nat) : (sw L i k).length = L.length := by simp [sw]

theorem get_set (L : List β) (i j : Nat) (x : β) : (L.set i x)[j]! = if i = j ∧ i < L.length then x else L[j]! := by
  simp only [List.getElem!_eq_getElem?_getD, List.getElem?_set]
  by_cases h : i = j
  · subst h
    by_cases h2 : i < L.length
    · simp [h2]
    · simp [h2]
  · simp [h]

theorem get_sw (L : List β) (i k j : Nat) (hi : i < L.length) (hk : k < L.length) : (sw L i k)[j]! = if j = k then L[i]! else if j = i then L[k]! else L[j]! := by
  unfold sw
  rw [get_set, get_set]
  simp only [List.length_set]
  by_cases h1 : j = k
  · subst h1; simp [hk]
  · by_cases h2 : j = i
    · subst h2; simp [h1, hi, Ne.symm h1]
    · simp [h1, h2, Ne.symm h1, Ne.symm h2]

theorem perm_sw (L : List β) (i k : Nat) (hi : i < L.length) (hk : k < L.length) : (sw L i k).Perm L := by
  unfold sw
  rw [getElem!_pos L k hk, getElem!_pos L i hi]
  exact List.set_set_perm hi hk
end

section
variable {α : Type} [Inhabited α] (key : α → Int)

def par (j : Nat) : Nat := (j - 1) / 2

def Hp (L : List (α × Nat)) : Prop := ∀ j, 0 < j → j < L.length → le key L[par j]! L[j]!

def Up (L : List (α × Nat)) (i : Nat) : Prop :=
  (∀ j, 0 < j → j < L.length → j ≠ i → le key L[par j]! L[j]!) ∧ (∀ j, 0 < j → j < L.length → par j = i → 0 < i → le key L[par i]! L[j]!)

def Down (L : List (α × Nat)) (i : Nat) : Prop :=
  (∀ j, 0 < j → j < L.length → par j ≠ i → le key L[par j]! L[j]!) ∧ (∀ j, 0 < j → j < L.length → par j = i → 0 < i → le key L[par i]! L[j]!)

variable {key}

theorem up_start {L : List (α × Nat)} (x : α × Nat) (h : Hp key L) : Up key (L ++ [x]) L.length := by
  refine ⟨fun j h0 hj hne => ?_, fun j h0 hj hp _ => ?_⟩
  · simp at hj
    have hlt : j < L.length := by omega
    have hp : par j < L.length := by unfold par; omega
    have := h j h0 hlt
    simp only [List.getElem!_eq_getElem?_getD] at *
    rw [List.getElem?_append_left hp, List.getElem?_append_left hlt]
    exact this
  · simp at hj
    unfold par at hp
    omega

theorem up_done {L : List (α × Nat)} {i : Nat} (h : Up key L i) (hd : i = 0 ∨ ¬ ahead key L[i]! L[par i]!) : Hp key L := by
  intro j h0 hj
  by_cases e : j = i
  · subst e
    rcases hd with h' | h'
    · omega
    · exact h'
  · exact h.1 j h0 hj e

theorem up_step {L : List (α × Nat)} {i : Nat} (h : Up key L i) (hi : 0 < i) (hl : i < L.length) (ha : ahead key L[i]! L[par i]!) : Up key (sw L i (par i)) (par i) := by
  have hq : par i < i := by unfold par; omega
  have hql : par i < L.length := by omega
  have g := fun j => get_sw L i (par i) j hl hql
  refine ⟨fun j h0 hj hne => ?_, fun j h0 hj hp hq0 => ?_⟩
  · rw [length_sw] at hj
    have hpj : par j < j := by unfold par; omega
    rw [g, g]
    by_cases e : j = i
    · subst e
      rw [if_pos rfl, if_neg (by omega), if_pos rfl]
      exact le_of_ahead key ha
    · rw [if_neg hne, if_neg e]
      by_cases e1 : par j = par i
      · rw [if_pos e1]
        have := h.1 j h0 hj e
        rw [e1] at this
        exact le_trans key (le_of_ahead key ha) this
      · rw [if_neg e1]
        by_cases e2 : par j = i
        · rw [if_pos e2]
          exact h.2 j h0 hj e2 hi
        · rw [if_neg e2]
          exact h.1 j h0 hj e
  · rw [length_sw] at hj
    have hpq : par (par i) < par i := by unfold par at *; omega
    rw [g, g, if_neg (by omega), if_neg (by omega)]
    have h1 := h.1 (par i) hq0 hql (by omega)
    by_cases e : j = i
    · subst e
      rw [if_neg (by omega), if_pos rfl]
      exact h1
    · have hjq : j ≠ par i := by intro hh; rw [hh] at hp; omega
      rw [if_neg hjq, if_neg e]
      have h2 := h.1 j h0 hj e
      rw [hp] at h2
      exact le_trans key h1 h2

theorem down_done {L : List (α × Nat)} {i : Nat} (h : Down key L i) (hd : ∀ j, 0 < j → j < L.length → par j = i → le key L[i]! L[j]!) : Hp key L := by
  intro j h0 hj
  by_cases e : par j = i
  · rw [e]; exact hd j h0 hj e
  · exact h.1 j h0 hj e

theorem down_step {L : List (α × Nat)} {i c : Nat} (h : Down key L i) (hi : i < L.length) (hc : c < L.length) (hp : par c = i) (hc0 : 0 < c) (hm : le key L[c]! L[i]!)
    (hs : ∀ j, 0 < j → j < L.length → par j = i → le key L[c]! L[j]!) : Down key (sw L i c) c := by
  have hic : i < c := by unfold par at hp; omega
  have g := fun j => get_sw L i c j hi hc
  refine ⟨fun j h0 hj hne => ?_, fun j h0 hj hpj _ => ?_⟩
  · rw [length_sw] at hj
    have hpj : par j < j := by unfold par; omega
    rw [g, g, if_neg hne]
    by_cases e : j = c
    · subst e
      rw [if_pos hp, if_pos rfl]
      exact hm
    · rw [if_neg e]
      by_cases e1 : par j = i
      · rw [if_pos e1, if_neg (by omega)]
        exact hs j h0 hj e1
      · rw [if_neg e1]
        by_cases e2 : j = i
        · subst e2
          rw [if_pos rfl]
          exact h.2 c hc0 hc hp h0
        · rw [if_neg e2]
          exact h.1 j h0 hj e1
  · rw [length_sw] at hj
    have hpj2 : par j < j := by unfold par; omega
    rw [g, g, hp, if_neg (by omega), if_pos rfl, if_neg (by omega), if_neg (by omega)]
    have := h.1 j h0 hj (by omega)
    rw [hpj] at this
    exact this

theorem hp_min {L : List (α × Nat)} (h : Hp key L) : ∀ j, j < L.length → le key L[0]! L[j]! := by
  intro j
  induction j using Nat.strongRecOn with
  | _ j ih =>
    intro hj
    rcases Nat.eq_zero_or_pos j with rfl | h0
    · exact le_refl key _
    · have hp : par j < j := by unfold par; omega
      exact le_trans key (ih (par j) hp (by omega)) (h j h0 hj)

theorem get_take (L : List (α × Nat)) (n j : Nat) (h : j < n) : (L.take n)[j]! = L[j]! := by
  simp only [List.getElem!_eq_getElem?_getD]
  rw [List.getElem?_take, if_pos h]

theorem down_start {L : List (α × Nat)} {n : Nat} (hl : L.length = n + 1) (h : Hp key L) : Down key ((sw L 0 n).take n) 0 := by
  refine ⟨fun j h0 hj hne => ?_, fun j h0 hj hp h00 => by omega⟩
  rw [List.length_take, length_sw] at hj
  have hj' : j < n := by omega
  have hpj : par j < j := by unfold par; omega
  rw [get_take _ _ _ (by omega), get_take _ _ _ hj', get_sw _ _ _ _ (by omega) (by omega), get_sw _ _ _ _ (by omega) (by omega)]
  rw [if_neg (by omega), if_neg (by omega), if_neg (by omega), if_neg (by omega)]
  exact h j h0 (by omega)

variable (key)
/-- In order. -/
def Ord (S : List (α × Nat)) : Prop := S.Pairwise (ahead key)

/-- A thing that comes last goes behind all whose key is not above its own. -/
def ins (x : α × Nat) : List (α × Nat) → List (α × Nat)
  | [] => [x]
  | y :: t => if key y.1 ≤ key x.1 then y :: ins x t else x :: y :: t
variable {key}

omit [Inhabited α] in
theorem ins_perm (x : α × Nat) (S : List (α × Nat)) : (ins key x S).Perm (x :: S) := by
  induction S with
  | nil => exact List.Perm.refl _
  | cons y t ih =>
    unfold ins
    split
    · exact (ih.cons y).trans (List.Perm.swap x y t)
    · exact List.Perm.refl _

omit [Inhabited α] in
theorem ins_ord {x : α × Nat} {S : List (α × Nat)} (h : Ord key S) (hx : ∀ y ∈ S, y.2 < x.2) : Ord key (ins key x S) := by
  induction S with
  | nil => exact List.pairwise_singleton _ _
  | cons y t ih =>
    unfold Ord at *
    rw [List.pairwise_cons] at h
    unfold ins
    split
    · rename_i hk
      rw [List.pairwise_cons]
      refine ⟨fun z hz => ?_, ih h.2 (fun z hz => hx z (by simp [hz]))⟩
      have hz' := (ins_perm (key := key) x t).mem_iff.1 hz
      simp at hz'
      rcases hz' with rfl | hz'
      · have := hx y (by simp)
        unfold ahead; omega
      · exact h.1 z hz'
    · rename_i hk
      rw [List.pairwise_cons]
      refine ⟨fun z hz => ?_, List.pairwise_cons.2 h⟩
      simp at hz
      rcases hz with rfl | hz
      · unfold ahead; omega
      · have := h.1 z hz
        unfold ahead at *; omega

/-- The first one in order is the one at the head. -/
theorem head_ord {L S : List (α × Nat)} {s : α × Nat} (hL : Hp key L) (hp : L.Perm (s :: S)) (ho : Ord key (s :: S)) : L[0]! = s := by
  have hlen : 0 < L.length := by rw [hp.length_eq]; simp
  have hs : s ∈ L := hp.mem_iff.2 (by simp)
  obtain ⟨j, hj, hje⟩ := List.getElem_of_mem hs
  have hm := hp_min hL j hj
  rw [getElem!_pos L j hj, hje] at hm
  have h0 : L[0]! ∈ s :: S := hp.mem_iff.1 (by rw [getElem!_pos L 0 hlen]; exact List.getElem_mem hlen)
  simp only [List.mem_cons] at h0
  rcases h0 with h0 | h0
  · exact h0
  · unfold Ord at ho
    rw [List.pairwise_cons] at ho
    exact absurd (ho.1 _ h0) hm

theorem pop_perm {L S : List (α × Nat)} {s : α × Nat} {n : Nat} (hl : L.length = n + 1) (hL : Hp key L) (hp : L.Perm (s :: S)) (ho : Ord key (s :: S)) : ((sw L 0 n).take n).Perm S := by
  have h0 := head_ord hL hp ho
  have h1 := perm_sw L 0 n (by omega) (by omega)
  have h2 : sw L 0 n = (sw L 0 n).take n ++ [s] := by
    have : (sw L 0 n)[n]! = s := by rw [get_sw _ _ _ _ (by omega) (by omega), if_pos rfl, h0]
    rw [getElem!_pos _ _ (by rw [length_sw]; omega)] at this
    rw [← this]
    have hlen : (sw L 0 n).length = n + 1 := by rw [length_sw, hl]
    conv => lhs; rw [← List.take_length (l := sw L 0 n), hlen]
    rw [List.take_add_one, List.getElem?_eq_getElem (by omega)]
    rfl
  have h3 : ((sw L 0 n).take n ++ [s]).Perm (s :: S) := by rw [← h2]; exact h1.trans hp
  have h4 : (s :: (sw L 0 n).take n).Perm (s :: S) := (List.perm_append_comm (l₁ := [s])).trans h3
  exact h4.cons_inv
end
end Go.Proofs.Ytlcbcagbiiachaa
