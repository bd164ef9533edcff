/- What a queue is in memory, and what Push, Pop, At and Len do with it. -/
import Derived.Test.YtoecfimmgiajpaaPop
namespace Go.Proofs.Ytoecfimmgiajpaa
open Go.RowKit

theorem mod_once {a size : Nat} (h : a < 2 * size) : a % size = if a < size then a else a - size := by
  split
  · exact Nat.mod_eq_of_lt ‹_›
  · rw [Nat.mod_eq_sub_mod (by omega), Nat.mod_eq_of_lt (by omega)]

/-- The queue at block b (its memory: F) has room for size things and holds l. -/
def IsQ {α : Type} (enc : α → Value) (T E : TypeId) (w : World) (b : Nat) (F : List Nat) (size : Nat) (l : List α) : Prop :=
  (F = [b] ∧ size = 0 ∧ l = [] ∧ w.heap[b]? = some (.cells #[.slice none 0 0, .int .i64 (0 : Nat), .int .i64 (0 : Nat)] T (0, 0))) ∨
  (∃ (r frm : Nat) (cs : List Value), F = [b, r] ∧ r ≠ b ∧ cs.length = size ∧ frm < size ∧ l.length ≤ size ∧ (∀ i, i < l.length → cs[(frm + i) % size]? = (l[i]?).map enc) ∧
    w.heap[b]? = some (.cells #[.slice (some ⟨r, 0, none⟩) size size, .int .i64 frm, .int .i64 l.length] T (0, 0)) ∧ w.heap[r]? = some (.cells cs.toArray E (0, 0)))

section
variable {α : Type} {enc : α → Value} {T E : TypeId} {w : World} {b : Nat} {F : List Nat} {size : Nat} {l : List α}

theorem IsQ.le (h : IsQ enc T E w b F size l) : l.length ≤ size := by
  rcases h with ⟨_, _, rfl, _⟩ | ⟨_, _, _, _, _, _, _, h, _⟩
  · simp
  · exact h

theorem IsQ.head (h : IsQ enc T E w b F size l) : ∃ ao frm : _, w.heap[b]? = some (.cells #[.slice ao size size, .int .i64 (frm : Nat), .int .i64 l.length] T (0, 0)) := by
  rcases h with ⟨_, rfl, rfl, h⟩ | ⟨r, frm, cs, _, _, _, _, _, _, h, _⟩
  · exact ⟨none, 0, h⟩
  · exact ⟨_, _, h⟩

theorem IsQ.mem (h : IsQ enc T E w b F size l) : b ∈ F := by
  rcases h with ⟨rfl, _⟩ | ⟨r, frm, cs, rfl, _⟩ <;> simp

/-- The queue is there as long as its memory is as it was. -/
theorem IsQ.kept {w' : World} {G : List Nat} (h : IsQ enc T E w b F size l) (k : Keeps G w w') (hG : ∀ g ∈ G, g ∉ F) : IsQ enc T E w' b F size l := by
  rcases h with ⟨rfl, h1, h2, h3⟩ | ⟨r, frm, cs, rfl, h2, h3, h4, h5, h6, h7, h8⟩
  · exact .inl ⟨rfl, h1, h2, k.blk h3 (fun hg => hG _ hg (by simp))⟩
  · exact .inr ⟨r, frm, cs, rfl, h2, h3, h4, h5, h6, k.blk h7 (fun hg => hG _ hg (by simp)), k.blk h8 (fun hg => hG _ hg (by simp))⟩

theorem IsQ.lt (h : IsQ enc T E w b F size l) : ∀ k ∈ F, k < w.heap.size := by
  rcases h with ⟨rfl, h1, h2, h3⟩ | ⟨r, frm, cs, rfl, h2, h3, h4, h5, h6, h7, h8⟩
  · intro k hk; simp at hk; subst hk; exact blk_lt h3
  · intro k hk; simp at hk; rcases hk with rfl | rfl
    · exact blk_lt h7
    · exact blk_lt h8
end

theorem push_ring {α : Type} {enc : α → Value} {cs : List Value} {size frm : Nat} {l : List α} (x : α) (hcs : cs.length = size) (hf : frm < size) (hl : l.length < size)
    (h : ∀ i, i < l.length → cs[(frm + i) % size]? = (l[i]?).map enc) :
    ∀ i, i < (l ++ [x]).length → (cs.set ((frm + l.length) % size) (enc x))[(frm + i) % size]? = ((l ++ [x])[i]?).map enc := by
  intro i hi
  simp at hi
  have m1 := mod_once (a := frm + l.length) (size := size) (by omega)
  have m2 := mod_once (a := frm + i) (size := size) (by omega)
  rw [List.getElem?_set]
  by_cases e : i = l.length
  · subst e
    have : (frm + l.length) % size < cs.length := by rw [hcs]; exact Nat.mod_lt _ (by omega)
    simp [this]
  · have hne : ¬ (frm + l.length) % size = (frm + i) % size := by
      rw [m1, m2]; split <;> split <;> omega
    rw [if_neg hne, h i (by omega), List.getElem?_append_left (by omega)]

theorem full_ring {α : Type} {enc : α → Value} {os cs : List Value} {size frm n : Nat} {l : List α} (x : α) (hcs : cs.length = size) (hs : n < size) (hos : os.length = n) (hf : frm ≤ n) (hl : l.length = n)
    (h : ∀ i, i < l.length → os[(frm + i) % n]? = (l[i]?).map enc) (ht : cs.take n = os.drop frm ++ os.take frm) :
    ∀ i, i < (l ++ [x]).length → (cs.set n (enc x))[(0 + i) % size]? = ((l ++ [x])[i]?).map enc := by
  intro i hi
  simp at hi
  rw [Nat.zero_add, Nat.mod_eq_of_lt (by omega), List.getElem?_set]
  by_cases e : i = n
  · subst e
    simp [hcs, hs, hl]
  · have hlt : i < n := by omega
    rw [if_neg (by omega)]
    have h1 : cs[i]? = (cs.take n)[i]? := by rw [List.getElem?_take, if_pos hlt]
    have h2 : ((l ++ [x])[i]?).map enc = (l[i]?).map enc := by rw [List.getElem?_append_left (by omega)]
    rw [h2, h1, ht, ← h i (by omega)]
    have m := mod_once (a := frm + i) (size := n) (by omega)
    by_cases hc : i < n - frm
    · rw [List.getElem?_append_left (by simp; omega), List.getElem?_drop, m, if_pos (by omega)]
    · rw [List.getElem?_append_right (by simp; omega), List.getElem?_take, m]
      simp only [List.length_drop, hos]
      rw [if_pos (by omega), if_neg (by omega)]
      congr 1
      omega

theorem full_cells {α : Type} {enc : α → Value} (h1 : ∀ x, (enc x).oneCell' = true) {os : List Value} {frm n : Nat} {l : List α} (hos : os.length = n) (hf : frm < n) (hl : l.length = n)
    (h : ∀ i, i < l.length → os[(frm + i) % n]? = (l[i]?).map enc) : ∀ u ∈ os, u.oneCell' = true := by
  intro u hu
  obtain ⟨j, hj, rfl⟩ := List.getElem_of_mem hu
  have hi : (if frm ≤ j then j - frm else j + n - frm) < l.length := by split <;> omega
  have hh := h _ hi
  have m := mod_once (a := frm + (if frm ≤ j then j - frm else j + n - frm)) (size := n) (by split <;> omega)
  have e : (frm + (if frm ≤ j then j - frm else j + n - frm)) % n = j := by
    rw [m]; split <;> split <;> omega
  rw [e, List.getElem?_eq_getElem hj, List.getElem?_eq_getElem hi] at hh
  simp at hh
  rw [hh]
  exact h1 _

theorem pop_ring {α : Type} {enc : α → Value} {cs : List Value} {size frm : Nat} {l : List α} {x : α} (z : Value) (hcs : cs.length = size) (hf : frm < size) (hl : (x :: l).length ≤ size)
    (h : ∀ i, i < (x :: l).length → cs[(frm + i) % size]? = ((x :: l)[i]?).map enc) :
    ∀ i, i < l.length → (cs.set frm z)[((frm + 1) % size + i) % size]? = (l[i]?).map enc := by
  intro i hi
  simp at hl
  have hh := h (i + 1) (by simp; omega)
  have e : ((frm + 1) % size + i) % size = (frm + (i + 1)) % size := by
    rw [Nat.mod_add_mod]; congr 1; omega
  have m := mod_once (a := frm + (i + 1)) (size := size) (by omega)
  rw [e, List.getElem?_set, if_neg (by rw [m]; split <;> omega), hh]
  simp

abbrev QS := IsQ (α := ByteArray) (fun x : ByteArray => Value.string x) 54 9

theorem lenS (b : Nat) (F : List Nat) (size : Nat) (l : List ByteArray) (w : World) (h : QS w b F size l) :
    Calls Try.prog 12 #[.pointer (some ⟨b, 0, none⟩)] w fun e w' => e = .returned (.int .i64 l.length) ∧ w = w' := by
  obtain ⟨ao, frm, hb⟩ := h.head
  exact lenOfS b l.length w (facts3 hb).2.2.1

theorem atS_out (b : Nat) (F : List Nat) (size : Nat) (l : List ByteArray) (i : Int) (w : World) (h : QS w b F size l) (hi : i < 0 ∨ l.length ≤ i) :
    Calls Try.prog 25 #[.pointer (some ⟨b, 0, none⟩), .int .i64 i] w fun e w' => e = .returned (.tuple #[.string ⟨#[]⟩, .bool false]) ∧ w = w' := by
  obtain ⟨ao, frm, hb⟩ := h.head
  exact atOutS b l.length i w hi (facts3 hb).2.2.1

theorem atS_in (b : Nat) (F : List Nat) (size : Nat) (l : List ByteArray) (i : Nat) (x : ByteArray) (w : World) (h : QS w b F size l) (hsz : size ≤ 3000000) (hx : l[i]? = some x) :
    Calls Try.prog 25 #[.pointer (some ⟨b, 0, none⟩), .int .i64 i] w fun e w' => e = .returned (.tuple #[.string x, .bool true]) ∧ w' = w.drew := by
  have hi : i < l.length := by
    rcases Nat.lt_or_ge i l.length with h' | h'
    · exact h'
    · rw [List.getElem?_eq_none h'] at hx; cases hx
  rcases h with ⟨_, _, rfl, _⟩ | ⟨r, frm, cs, rfl, h2, h3, h4, h5, h6, h7, h8⟩
  · simp at hi
  · refine atInS b r size frm l.length _ i x w hi h5 hsz h4 rfl h7 ?_
    rw [cell_blk h8]
    simpa [hx] using h6 i hi

theorem pushS (b : Nat) (F : List Nat) (size : Nat) (l : List ByteArray) (x : ByteArray) (w : World) (h : QS w b F size l) (hsz : size ≤ 1000000) :
    Calls Try.prog 10 #[.pointer (some ⟨b, 0, none⟩), .string x] w fun e w' => ∃ F' : List Nat, e = .returned (.tuple #[]) ∧ QS w' b F' (if l.length < size then size else max 8 (2 * size)) (l ++ [x]) ∧ Keeps F w w' ∧ ∀ k ∈ F', k ∈ F ∨ w.heap.size ≤ k := by
  have hle := h.le
  by_cases hlt : l.length < size
  · rcases h with ⟨_, rfl, _, _⟩ | ⟨r, frm, cs, rfl, h2, h3, h4, h5, h6, h7, h8⟩
    · omega
    · refine (pushRoomS b r size frm l.length _ x cs w hlt h4 (by omega) h3 h2 rfl h7 h8).mono ?_
      rintro e w' ⟨rfl, hb', hr', hk⟩
      refine ⟨[b, r], rfl, ?_, hk, fun k hk => .inl hk⟩
      rw [if_pos hlt]
      refine .inr ⟨r, frm, _, rfl, h2, by simpa using h3, h4, by simp; omega, push_ring (enc := (fun x : ByteArray => Value.string x)) x h3 h4 hlt h6, ?_, hr'⟩
      simpa using hb'
  · have hn : l.length = size := by omega
    rw [if_neg hlt]
    rcases h with ⟨rfl, rfl, rfl, hb⟩ | ⟨r, frm, os, rfl, h2, h3, h4, h5, h6, h7, h8⟩
    · refine (pushFullS b none 0 0 8 x [] w (by omega) (by omega) rfl rfl (fun _ => rfl) (fun a ha => by cases ha) (by simp) hb).mono ?_
      rintro e w' ⟨r, cs, rfl, hb', hr', hcs, ht, hrw, hk⟩
      have hbl := blk_lt hb
      refine ⟨[b, r], rfl, .inr ⟨r, 0, _, rfl, by omega, by simpa using hcs, by decide, by simp, full_ring (enc := (fun x : ByteArray => Value.string x)) (l := []) (os := []) x hcs (by decide) rfl (Nat.le_refl _) rfl (by simp) ht, by simpa using hb', hr'⟩, hk, ?_⟩
      intro k hk'
      simp at hk'
      rcases hk' with rfl | rfl
      · exact .inl (by simp)
      · exact .inr hrw
    · have h7' := h7
      rw [hn] at h7'
      refine (pushFullS b (some ⟨r, 0, none⟩) size frm (max 8 (2 * size)) x os w hsz (by omega) h3 rfl (fun hc => by cases hc) (fun a ha => ?_) (full_cells (enc := (fun x : ByteArray => Value.string x)) (fun _ => rfl) h3 h4 hn h6) h7').mono ?_
      · cases ha; exact ⟨r, rfl, h2, h8⟩
      rintro e w' ⟨r', cs, rfl, hb', hr', hcs, ht, hrw, hk⟩
      have hbl := blk_lt h7
      refine ⟨[b, r'], rfl, .inr ⟨r', 0, _, rfl, by omega, by simpa using hcs, by omega, by simp; omega, full_ring (enc := (fun x : ByteArray => Value.string x)) (l := l) (os := os) x hcs (by omega) h3 (by omega) hn h6 ht, ?_, hr'⟩, hk.mono (by simp), ?_⟩
      · simpa [hn] using hb'
      · intro k hk'
        simp at hk'
        rcases hk' with rfl | rfl
        · exact .inl (by simp)
        · exact .inr hrw

theorem popS_none (b : Nat) (F : List Nat) (size : Nat) (w : World) (h : QS w b F size []) :
    Calls Try.prog 11 #[.pointer (some ⟨b, 0, none⟩)] w fun e w' => e = .returned (.tuple #[.string ⟨#[]⟩, .bool false]) ∧ w = w' := by
  obtain ⟨ao, frm, hb⟩ := h.head
  exact popNoneS b w (facts3 hb).2.2.1

theorem popS_some (b : Nat) (F : List Nat) (size : Nat) (x : ByteArray) (l : List ByteArray) (w : World) (h : QS w b F size (x :: l)) (hsz : size ≤ 3000000) :
    Calls Try.prog 11 #[.pointer (some ⟨b, 0, none⟩)] w fun e w' => e = .returned (.tuple #[.string x, .bool true]) ∧ QS w' b F size l ∧ Keeps F w w' := by
  rcases h with ⟨_, _, h1, _⟩ | ⟨r, frm, cs, rfl, h2, h3, h4, h5, h6, h7, h8⟩
  · cases h1
  · have hx := h6 0 (by simp)
    simp only [Nat.add_zero, List.getElem?_cons_zero, Option.map_some] at hx
    rw [Nat.mod_eq_of_lt h4] at hx
    refine (popSomeS b r size frm (x :: l).length _ x cs w (by simp) h5 hsz h4 h3 h2 rfl h7 h8 hx).mono ?_
    rintro e w' ⟨rfl, hb', hr', hk⟩
    refine ⟨rfl, .inr ⟨r, (frm + 1) % size, _, rfl, h2, by simpa using h3, Nat.mod_lt _ (by omega), by simp at h5; omega, pop_ring (enc := (fun x : ByteArray => Value.string x)) _ h3 h4 h5 h6, ?_, hr'⟩, hk⟩
    simpa using hb'

abbrev QI := IsQ (α := Int) (fun x : Int => Value.int .i64 x) 45 3

theorem lenI (b : Nat) (F : List Nat) (size : Nat) (l : List Int) (w : World) (h : QI w b F size l) :
    Calls Try.prog 16 #[.pointer (some ⟨b, 0, none⟩)] w fun e w' => e = .returned (.int .i64 l.length) ∧ w = w' := by
  obtain ⟨ao, frm, hb⟩ := h.head
  exact lenOfI b l.length w (facts3 hb).2.2.1

theorem atI_out (b : Nat) (F : List Nat) (size : Nat) (l : List Int) (i : Int) (w : World) (h : QI w b F size l) (hi : i < 0 ∨ l.length ≤ i) :
    Calls Try.prog 20 #[.pointer (some ⟨b, 0, none⟩), .int .i64 i] w fun e w' => e = .returned (.tuple #[.int .i64 0, .bool false]) ∧ w = w' := by
  obtain ⟨ao, frm, hb⟩ := h.head
  exact atOutI b l.length i w hi (facts3 hb).2.2.1

theorem atI_in (b : Nat) (F : List Nat) (size : Nat) (l : List Int) (i : Nat) (x : Int) (w : World) (h : QI w b F size l) (hsz : size ≤ 3000000) (hx : l[i]? = some x) :
    Calls Try.prog 20 #[.pointer (some ⟨b, 0, none⟩), .int .i64 i] w fun e w' => e = .returned (.tuple #[.int .i64 x, .bool true]) ∧ w' = w.drew := by
  have hi : i < l.length := by
    rcases Nat.lt_or_ge i l.length with h' | h'
    · exact h'
    · rw [List.getElem?_eq_none h'] at hx; cases hx
  rcases h with ⟨_, _, rfl, _⟩ | ⟨r, frm, cs, rfl, h2, h3, h4, h5, h6, h7, h8⟩
  · simp at hi
  · refine atInI b r size frm l.length _ i x w hi h5 hsz h4 rfl h7 ?_
    rw [cell_blk h8]
    simpa [hx] using h6 i hi

theorem pushI (b : Nat) (F : List Nat) (size : Nat) (l : List Int) (x : Int) (w : World) (h : QI w b F size l) (hsz : size ≤ 1000000) :
    Calls Try.prog 15 #[.pointer (some ⟨b, 0, none⟩), .int .i64 x] w fun e w' => ∃ F' : List Nat, e = .returned (.tuple #[]) ∧ QI w' b F' (if l.length < size then size else max 8 (2 * size)) (l ++ [x]) ∧ Keeps F w w' ∧ ∀ k ∈ F', k ∈ F ∨ w.heap.size ≤ k := by
  have hle := h.le
  by_cases hlt : l.length < size
  · rcases h with ⟨_, rfl, _, _⟩ | ⟨r, frm, cs, rfl, h2, h3, h4, h5, h6, h7, h8⟩
    · omega
    · refine (pushRoomI b r size frm l.length _ x cs w hlt h4 (by omega) h3 h2 rfl h7 h8).mono ?_
      rintro e w' ⟨rfl, hb', hr', hk⟩
      refine ⟨[b, r], rfl, ?_, hk, fun k hk => .inl hk⟩
      rw [if_pos hlt]
      refine .inr ⟨r, frm, _, rfl, h2, by simpa using h3, h4, by simp; omega, push_ring (enc := (fun x : Int => Value.int .i64 x)) x h3 h4 hlt h6, ?_, hr'⟩
      simpa using hb'
  · have hn : l.length = size := by omega
    rw [if_neg hlt]
    rcases h with ⟨rfl, rfl, rfl, hb⟩ | ⟨r, frm, os, rfl, h2, h3, h4, h5, h6, h7, h8⟩
    · refine (pushFullI b none 0 0 8 x [] w (by omega) (by omega) rfl rfl (fun _ => rfl) (fun a ha => by cases ha) (by simp) hb).mono ?_
      rintro e w' ⟨r, cs, rfl, hb', hr', hcs, ht, hrw, hk⟩
      have hbl := blk_lt hb
      refine ⟨[b, r], rfl, .inr ⟨r, 0, _, rfl, by omega, by simpa using hcs, by decide, by simp, full_ring (enc := (fun x : Int => Value.int .i64 x)) (l := []) (os := []) x hcs (by decide) rfl (Nat.le_refl _) rfl (by simp) ht, by simpa using hb', hr'⟩, hk, ?_⟩
      intro k hk'
      simp at hk'
      rcases hk' with rfl | rfl
      · exact .inl (by simp)
      · exact .inr hrw
    · have h7' := h7
      rw [hn] at h7'
      refine (pushFullI b (some ⟨r, 0, none⟩) size frm (max 8 (2 * size)) x os w hsz (by omega) h3 rfl (fun hc => by cases hc) (fun a ha => ?_) (full_cells (enc := (fun x : Int => Value.int .i64 x)) (fun _ => rfl) h3 h4 hn h6) h7').mono ?_
      · cases ha; exact ⟨r, rfl, h2, h8⟩
      rintro e w' ⟨r', cs, rfl, hb', hr', hcs, ht, hrw, hk⟩
      have hbl := blk_lt h7
      refine ⟨[b, r'], rfl, .inr ⟨r', 0, _, rfl, by omega, by simpa using hcs, by omega, by simp; omega, full_ring (enc := (fun x : Int => Value.int .i64 x)) (l := l) (os := os) x hcs (by omega) h3 (by omega) hn h6 ht, ?_, hr'⟩, hk.mono (by simp), ?_⟩
      · simpa [hn] using hb'
      · intro k hk'
        simp at hk'
        rcases hk' with rfl | rfl
        · exact .inl (by simp)
        · exact .inr hrw

theorem popI_none (b : Nat) (F : List Nat) (size : Nat) (w : World) (h : QI w b F size []) :
    Calls Try.prog 17 #[.pointer (some ⟨b, 0, none⟩)] w fun e w' => e = .returned (.tuple #[.int .i64 0, .bool false]) ∧ w = w' := by
  obtain ⟨ao, frm, hb⟩ := h.head
  exact popNoneI b w (facts3 hb).2.2.1

theorem popI_some (b : Nat) (F : List Nat) (size : Nat) (x : Int) (l : List Int) (w : World) (h : QI w b F size (x :: l)) (hsz : size ≤ 3000000) :
    Calls Try.prog 17 #[.pointer (some ⟨b, 0, none⟩)] w fun e w' => e = .returned (.tuple #[.int .i64 x, .bool true]) ∧ QI w' b F size l ∧ Keeps F w w' := by
  rcases h with ⟨_, _, h1, _⟩ | ⟨r, frm, cs, rfl, h2, h3, h4, h5, h6, h7, h8⟩
  · cases h1
  · have hx := h6 0 (by simp)
    simp only [Nat.add_zero, List.getElem?_cons_zero, Option.map_some] at hx
    rw [Nat.mod_eq_of_lt h4] at hx
    refine (popSomeI b r size frm (x :: l).length _ x cs w (by simp) h5 hsz h4 h3 h2 rfl h7 h8 hx).mono ?_
    rintro e w' ⟨rfl, hb', hr', hk⟩
    refine ⟨rfl, .inr ⟨r, (frm + 1) % size, _, rfl, h2, by simpa using h3, Nat.mod_lt _ (by omega), by simp at h5; omega, pop_ring (enc := (fun x : Int => Value.int .i64 x)) _ h3 h4 h5 h6, ?_, hr'⟩, hk⟩
    simpa using hb'

end Go.Proofs.Ytoecfimmgiajpaa
