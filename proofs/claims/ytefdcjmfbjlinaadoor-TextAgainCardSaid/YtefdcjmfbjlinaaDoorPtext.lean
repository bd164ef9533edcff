/- The document's digits, lines and prints; what a text is spoilt to: plain Lean. -/
import Derived.Test.YtefdcjmfbjlinaaDoorPset
import Derived.Test.YtefdcjmfbjlinaaDoorAx10
import Derived.Test.YtefdcjmfbjlinaaDoorAx5
set_option linter.unusedVariables false
set_option linter.unusedSimpArgs false
namespace Go.Proofs.YtefdcjmfbjlinaaDoor.A
open Go.RowKit Go.Proofs.YtefdcjmfbjlinaaDoorW.PrintWords Go.Proofs.YtefdcjmfbjlinaaDoorW.PrintLast Go.Proofs.YtefdcjmfbjlinaaDoorW.PrintMore Go.Proofs.YtefdcjmfbjlinaaDoor.Sc

/-- A number's digits. -/
def dig (n : Nat) : List UInt8 := if n < 10 then [UInt8.ofNat (48 + n)] else dig (n / 10) ++ [UInt8.ofNat (48 + n % 10)]
termination_by n
decreasing_by omega
def digB (n : Nat) : ByteArray := ⟨(dig n).toArray⟩
theorem dig_small {n : Nat} (h : n < 10) : dig n = [UInt8.ofNat (48 + n)] := by rw [dig, if_pos h]
theorem dig_big {n : Nat} (h : ¬ n < 10) : dig n = dig (n / 10) ++ [UInt8.ofNat (48 + n % 10)] := by rw [dig, if_neg h]
theorem dig_ne (n : Nat) : dig n ≠ [] := by
  rw [dig]; split <;> simp
theorem dig_len : ∀ (d n : Nat), n < 10 ^ (d + 1) → (dig n).length ≤ d + 1
  | 0, n, h => by rw [dig_small (by simpa using h)]; simp
  | d + 1, n, h => by
    by_cases h' : n < 10
    · rw [dig_small h']; simp
    · rw [dig_big h', List.length_append]
      have := dig_len d (n / 10) (by rw [Nat.pow_succ] at h; omega)
      simpa using this
theorem toList_nil (s : ByteArray) : (s.toList == ([] : List UInt8)) = decide (s.size = 0) := by
  rw [Lib.toList_data]
  rw [Bool.eq_iff_iff]
  simp only [beq_iff_eq, decide_eq_true_eq]
  have hL : s.data.toList.length = s.size := by simp
  constructor
  · intro h; rw [← hL, h]; rfl
  · intro h; exact List.length_eq_zero_iff.1 (by omega)
theorem digB_size (d n : Nat) (h : n < 10 ^ (d + 1)) : (digB n).size ≤ d + 1 := by
  have := dig_len d n h
  unfold digB
  simpa [ByteArray.size] using this
/-- A task's line. -/
def lineB (x : S29) : ByteArray :=
  (⟨#[116, 97, 115, 107, 32]⟩ : ByteArray) ++ x.f0 ++ (⟨#[32, 99, 61]⟩ : ByteArray) ++ digB x.f1.toNat ++ (⟨#[32, 116, 61]⟩ : ByteArray) ++ digB x.f2.toNat ++ (⟨#[32, 100, 61]⟩ : ByteArray) ++ digB x.f3.toNat ++ (⟨#[32, 106, 61]⟩ : ByteArray) ++ digB x.f4.toNat ++ (⟨#[32, 113, 61]⟩ : ByteArray) ++ digB x.f5.toNat ++ (⟨#[32, 112, 61]⟩ : ByteArray) ++ digB x.f6.toNat ++ (⟨#[10]⟩ : ByteArray)
/-- A task of small numbers, a short name. -/
structure Few (n : Nat) (x : S29) : Prop where
  nm : x.f0.size ≤ n
  c : 0 ≤ x.f1 ∧ x.f1 < 1000000000000000
  t : 0 ≤ x.f2 ∧ x.f2 < 1000000000000000
  d : 0 ≤ x.f3 ∧ x.f3 < 1000000000000000
  j : 0 ≤ x.f4 ∧ x.f4 < 1000000000000000
  q : 0 ≤ x.f5 ∧ x.f5 < 1000000000000000
  p : 0 ≤ x.f6 ∧ x.f6 < 1000000000000000
theorem line_size {n : Nat} {x : S29} (h : Few n x) : (lineB x).size ≤ n + 130 := by
  obtain ⟨h0, h1, h2, h3, h4, h5, h6⟩ := h
  have d1 := digB_size 14 x.f1.toNat (by omega)
  have d2 := digB_size 14 x.f2.toNat (by omega)
  have d3 := digB_size 14 x.f3.toNat (by omega)
  have d4 := digB_size 14 x.f4.toNat (by omega)
  have d5 := digB_size 14 x.f5.toNat (by omega)
  have d6 := digB_size 14 x.f6.toNat (by omega)
  unfold lineB
  simp only [ByteArray.size_append]
  have e1 : (⟨#[116, 97, 115, 107, 32]⟩ : ByteArray).size = 5 := rfl
  have e2 : (⟨#[32, 99, 61]⟩ : ByteArray).size = 3 := rfl
  have e3 : (⟨#[32, 116, 61]⟩ : ByteArray).size = 3 := rfl
  have e4 : (⟨#[32, 100, 61]⟩ : ByteArray).size = 3 := rfl
  have e5 : (⟨#[32, 106, 61]⟩ : ByteArray).size = 3 := rfl
  have e6 : (⟨#[32, 113, 61]⟩ : ByteArray).size = 3 := rfl
  have e7 : (⟨#[32, 112, 61]⟩ : ByteArray).size = 3 := rfl
  have e8 : (⟨#[10]⟩ : ByteArray).size = 1 := rfl
  omega
/-- What is printed of tasks. -/
def printB : List S29 → ByteArray
  | [] => ⟨#[]⟩
  | x :: xs => lineB x ++ printB xs
theorem print_size {n : Nat} : ∀ xs : List S29, (∀ x ∈ xs, Few n x) → (printB xs).size ≤ xs.length * (n + 130)
  | [], _ => by simp [printB, ByteArray.size]
  | x :: xs, h => by
    have h1 := line_size (h x (by simp))
    have h2 := print_size xs (fun y hy => h y (by simp [hy]))
    simp only [printB, ByteArray.size_append, List.length_cons, Nat.add_mul, Nat.one_mul] at h2 ⊢
    omega
theorem few_set (l : List S43) (turn : Int) : ∀ y ∈ setOf l turn, Few 2 y := by
  intro y hy
  have key : ∀ l : List S43, 1 ≤ l.length → ∀ y ∈ setL l turn, Few 2 y := by
    intro l hl y hy
    obtain ⟨k, hk⟩ := List.mem_iff_getElem?.1 hy
    obtain ⟨h6, x, rfl⟩ := setL_get l turn k y hk
    have h0 := mod_in x.f0 4 (by omega)
    have h1 := mod_in x.f1 11 (by omega)
    have h4 := mod_in x.f4 7 (by omega)
    have h2 := mod_in x.f2 (1 + x.f0 % 4 + x.f1 % 11 - (1 + x.f0 % 4) + 1) (by omega)
    have h3 := mod_in x.f3 (1 + x.f0 % 4) (by omega)
    have hp := mod_in ((k : Int) * turnsL (min 6 l.length) turn + turn % ((min 6 l.length : Nat) : Int)) ((min 6 l.length : Nat) : Int) (by omega)
    constructor <;> simp only [prioAt, oneSet]
    · exact nm_size k
    all_goals (constructor <;> omega)
  unfold setOf at hy
  refine key _ ?_ y hy
  split
  · simp
  · omega
theorem set_print (l : List S43) (turn : Int) : (printB (setOf l turn)).size ≤ 792 := by
  have h := print_size (setOf l turn) (few_set l turn)
  have := (setOf_length l turn).2
  have h2 : (setOf l turn).length * (2 + 130) ≤ 6 * 132 := Nat.mul_le_mul this (by omega)
  omega
theorem rest5 (x n : Int) (h : 0 < n) (hn : n ≤ 4611686018427387904) : cadencylaw05_rest.f x n = some (x % n) := by
  unfold cadencylaw05_rest.f
  rw [if_neg (by omega), rest_wrap x n h hn]
/-- A text, at most 200 bytes of it. -/
def sh (s : ByteArray) : ByteArray := if s.size > 200 then s.extract 0 200 else s
theorem sh_size (s : ByteArray) : (sh s).size ≤ 200 := by
  unfold sh
  split
  · simp; omega
  · omega
theorem short_some (s : ByteArray) : cadencylaw05_short.f s = some (sh s) := by
  unfold cadencylaw05_short.f sh
  by_cases h : s.size > 200
  · rw [if_pos (by omega), if_pos (by decide), if_pos (by omega), if_pos h]
  · rw [if_neg (by omega), if_neg h]
theorem spoilt_some (s : ByteArray) (hs : s.size ≤ 100000) (q0 q1 q2 : Int) : ∃ r, cadencylaw05_spoilt.f s q0 q1 q2 = some r ∧ r.size ≤ s.size + 1 := by
  have hL : s.data.toList.length = s.size := by simp
  unfold cadencylaw05_spoilt.f
  rw [Lib.toList_data]
  by_cases h0 : s.data.toList = []
  · rw [if_pos h0]
    exact ⟨_, rfl, by rw [size_nums]; omega⟩
  · have hp : 0 < s.size := by
      rcases Nat.eq_zero_or_pos s.size with h | h
      · exact absurd (List.length_eq_zero_iff.1 (by omega)) h0
      · exact h
    rw [if_neg h0, rest5 q1 (s.size : Int) (by omega) (by omega)]
    simp only [Option.bind_some]
    have hm := mod_in q1 (s.size : Int) (by omega)
    obtain ⟨i, hi⟩ : ∃ i : Nat, q1 % (s.size : Int) = (i : Int) := Int.eq_ofNat_of_zero_le hm.1
    rw [hi] at hm ⊢
    rw [rest5 q0 3 (by omega) (by omega)]
    simp only [Option.bind_some, Int.toNat_natCast]
    have hw : wrap64 ((i : Int) + 1) = ((i + 1 : Nat) : Int) := by unfold wrap64; omega
    have x1 : (s.extract 0 i).size = i := by simp; omega
    have x2 : (s.extract (i + 1) s.size).size = s.size - (i + 1) := by simp
    have x3 : (s.extract i s.size).size = s.size - i := by simp
    have x4 := size_nums (q2 % 256)
    rw [hw]
    simp only [Int.toNat_natCast]
    by_cases h1 : q0 % 3 = 0
    · rw [if_pos h1, if_pos (by omega), if_pos (by omega), if_pos (by omega), if_pos (by omega), if_pos (by omega), if_pos (by rw [ByteArray.size_append]; omega)]
      exact ⟨_, rfl, by rw [ByteArray.size_append, ByteArray.size_append]; omega⟩
    · rw [if_neg h1]
      by_cases h2 : q0 % 3 = 1
      · rw [if_pos h2, if_pos (by omega), if_pos (by omega), if_pos (by omega), if_pos (by omega), if_pos (by omega)]
        exact ⟨_, rfl, by rw [ByteArray.size_append]; omega⟩
      · rw [if_neg h2, if_pos (by omega), if_pos (by omega), if_pos (by omega), if_pos (by rw [ByteArray.size_append]; omega)]
        exact ⟨_, rfl, by rw [ByteArray.size_append, ByteArray.size_append]; omega⟩
end Go.Proofs.YtefdcjmfbjlinaaDoor.A
