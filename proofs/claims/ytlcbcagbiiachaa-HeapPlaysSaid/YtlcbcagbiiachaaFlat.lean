/- Rows of things of several cells each. -/
import Derived.Test.YtlcbcagbiiachaaPlain
import Derived.Test.YtlcbcagbiiachaaBase
namespace Go.Proofs.Ytlcbcagbiiachaa

section
variable {β : Type} [Inhabited β] (ei : β → List Value)

def flat (L : List β) : List Value := L.flatMap ei

variable {ei} {sz : Nat} (hei : ∀ p, (ei p).length = sz)
include hei

omit [Inhabited β] in
theorem length_flat (L : List β) : (flat ei L).length = L.length * sz := by
  induction L with
  | nil => simp [flat]
  | cons a L ih => simp only [flat, List.flatMap_cons, List.length_append, hei, List.length_cons] at *; rw [ih, Nat.add_mul]; omega

theorem flat_get (L : List β) (q r : Nat) (hq : q < L.length) (hr : r < sz) : (flat ei L)[q * sz + r]? = (ei L[q]!)[r]? := by
  induction L generalizing q with
  | nil => simp at hq
  | cons a L ih =>
    simp only [flat, List.flatMap_cons]
    cases q with
    | zero => rw [List.getElem?_append_left (by rw [hei]; omega)]; simp
    | succ q =>
      rw [List.getElem?_append_right (by rw [hei, Nat.add_mul]; omega), hei]
      have e : (q + 1) * sz + r - sz = q * sz + r := by rw [Nat.add_mul]; omega
      rw [e]
      have := ih q (by simpa using hq)
      simp only [flat] at this
      rw [this]
      simp

theorem flat_ext {cs : List Value} {L : List β} (hsz : 0 < sz) (hl : cs.length = L.length * sz) (h : ∀ q, q < L.length → ∀ r, r < sz → cs[q * sz + r]? = (ei L[q]!)[r]?) : cs = flat ei L := by
  apply List.ext_getElem?
  intro m
  by_cases hm : m < L.length * sz
  · have hq : m / sz < L.length := Nat.div_lt_of_lt_mul (by rw [Nat.mul_comm]; exact hm)
    have hr : m % sz < sz := Nat.mod_lt _ hsz
    have e : m / sz * sz + m % sz = m := Nat.div_add_mod' m sz
    have h1 := h _ hq _ hr
    have h2 := flat_get hei L _ _ hq hr
    rw [e] at h1 h2
    rw [h1, h2]
  · rw [List.getElem?_eq_none (by omega), List.getElem?_eq_none (by rw [length_flat hei]; omega)]

/-- The cells of the things of a row, of which the block may hold more behind. -/
theorem take_get {cur : List Value} {L : List β} (ht : cur.take (L.length * sz) = flat ei L) (q r : Nat) (hq : q < L.length) (hr : r < sz) : cur[q * sz + r]? = (ei L[q]!)[r]? := by
  rw [← flat_get hei L q r hq hr, ← ht, List.getElem?_take, if_pos]
  calc q * sz + r < q * sz + sz := by omega
    _ = (q + 1) * sz := by rw [Nat.add_mul]; omega
    _ ≤ L.length * sz := Nat.mul_le_mul_right _ hq

theorem take_of_get {cur : List Value} {L : List β} (hsz : 0 < sz) (hl : L.length * sz ≤ cur.length) (h : ∀ q, q < L.length → ∀ r, r < sz → cur[q * sz + r]? = (ei L[q]!)[r]?) : cur.take (L.length * sz) = flat ei L := by
  refine flat_ext hei hsz (by simp; omega) (fun q hq r hr => ?_)
  rw [List.getElem?_take, if_pos]
  · exact h q hq r hr
  · calc q * sz + r < q * sz + sz := by omega
      _ = (q + 1) * sz := by rw [Nat.add_mul]; omega
      _ ≤ L.length * sz := Nat.mul_le_mul_right _ hq
omit hei [Inhabited β] in
theorem flat_append (A B : List β) : flat ei (A ++ B) = flat ei A ++ flat ei B := by simp [flat]
end

/-- Two places of a row of things of as many cells are two things' or one's. -/
theorem place_eq {sz q r q' r' : Nat} (hr : r < sz) (hr' : r' < sz) (h : q * sz + r = q' * sz + r') : q = q' ∧ r = r' := by
  have h1 : (q * sz + r) / sz = q := by rw [Nat.mul_comm, Nat.mul_add_div (by omega), Nat.div_eq_of_lt hr]; omega
  have h2 : (q' * sz + r') / sz = q' := by rw [Nat.mul_comm, Nat.mul_add_div (by omega), Nat.div_eq_of_lt hr']; omega
  have hq : q = q' := by rw [← h1, ← h2, h]
  subst hq
  exact ⟨rfl, by omega⟩
/-- Cells put down from a place on. -/
def putAt (cur : Array Value) (o : Nat) : List Value → Array Value
  | [] => cur
  | v :: vs => putAt (cur.setIfInBounds o v) (o + 1) vs

theorem size_putAt (vs : List Value) : ∀ (cur : Array Value) (o : Nat), (putAt cur o vs).size = cur.size := by
  induction vs with
  | nil => intro cur o; rfl
  | cons v vs ih => intro cur o; simp only [putAt]; rw [ih]; simp

theorem get_putAt (vs : List Value) : ∀ (cur : Array Value) (o m : Nat), (putAt cur o vs)[m]? = if o ≤ m ∧ m < o + vs.length ∧ m < cur.size then vs[m - o]? else cur[m]? := by
  induction vs with
  | nil => intro cur o m; simp only [putAt, List.length_nil]; rw [if_neg (by omega)]
  | cons v vs ih =>
    intro cur o m
    simp only [putAt, List.length_cons]
    rw [ih, Array.getElem?_setIfInBounds]
    simp only [Array.size_setIfInBounds]
    by_cases h : m = o
    · subst h
      by_cases h2 : m < cur.size
      · rw [if_neg (by omega), if_pos rfl, if_pos h2, if_pos (by omega)]; simp
      · rw [if_neg (by omega), if_pos rfl, if_neg h2, if_neg (by omega)]
        exact (Array.getElem?_eq_none (by omega)).symm
    · rw [if_neg (Ne.symm h)]
      by_cases h2 : o ≤ m ∧ m < o + (vs.length + 1) ∧ m < cur.size
      · rw [if_pos (by omega), if_pos h2]
        have : m - o = (m - (o + 1)) + 1 := by omega
        rw [this, List.getElem?_cons_succ]
      · rw [if_neg (by omega), if_neg h2]

section
variable {α : Type} [Inhabited α] {ei : α → List Value} {sz : Nat} (hei : ∀ p, (ei p).length = sz)
include hei
theorem swap_cells {cur : Array Value} {L : List α} (hsz : 0 < sz) (hl : L.length * sz ≤ cur.size) (ht : cur.toList.take (L.length * sz) = flat ei L) {i k : Nat} (hi : i < L.length) (hk : k < L.length) :
    (putAt (putAt cur (i * sz) (ei L[k]!)) (k * sz) (ei L[i]!)).toList.take (L.length * sz) = flat ei (sw L i k) := by
  have hlen := length_sw L i k
  rw [← hlen]
  refine take_of_get hei hsz (by rw [hlen]; simpa [size_putAt] using hl) (fun q hq r hr => ?_)
  rw [hlen] at hq
  have hin : q * sz + r < cur.size := by
    have : q * sz + r < (q + 1) * sz := by rw [Nat.add_mul]; omega
    exact Nat.lt_of_lt_of_le this (Nat.le_trans (Nat.mul_le_mul_right _ hq) hl)
  have h0 := take_get hei ht q r hq hr
  rw [Array.getElem?_toList] at h0 ⊢
  rw [get_putAt, get_putAt, get_sw _ _ _ _ hi hk, hei, hei, size_putAt]
  have near : ∀ j, j * sz ≤ q * sz + r ∧ q * sz + r < j * sz + sz ↔ q = j := by
    intro j
    constructor
    · rintro ⟨h1, h2⟩
      have hh : q * sz + r = j * sz + (q * sz + r - j * sz) := by omega
      exact (place_eq hr (by omega) hh).1
    · rintro rfl; omega
  by_cases e1 : q = k
  · subst e1
    rw [if_pos ⟨by omega, by omega, hin⟩, if_pos rfl]
    congr 1
    omega
  · have n1 : ¬ (k * sz ≤ q * sz + r ∧ q * sz + r < k * sz + sz ∧ q * sz + r < cur.size) := fun h => e1 ((near k).1 ⟨h.1, h.2.1⟩)
    rw [if_neg n1, if_neg e1]
    by_cases e2 : q = i
    · subst e2
      rw [if_pos ⟨by omega, by omega, hin⟩, if_pos rfl]
      congr 1
      omega
    · have n2 : ¬ (i * sz ≤ q * sz + r ∧ q * sz + r < i * sz + sz ∧ q * sz + r < cur.size) := fun h => e2 ((near i).1 ⟨h.1, h.2.1⟩)
      rw [if_neg n2, if_neg e2, h0]
end

end Go.Proofs.Ytlcbcagbiiachaa
