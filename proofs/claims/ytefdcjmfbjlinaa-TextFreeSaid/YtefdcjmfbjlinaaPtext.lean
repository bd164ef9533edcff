/- The document's digits, lines and prints; what a text is spoilt to: plain Lean. -/
import Derived.Test.YtefdcjmfbjlinaaPset
import Derived.Test.YtefdcjmfbjlinaaAx9
set_option linter.unusedVariables false
set_option linter.unusedSimpArgs false
namespace Go.Proofs.Ytefdcjmfbjlinaa.A
open Go.RowKit Go.Proofs.YtefdcjmfbjlinaaW.PrintWords Go.Proofs.YtefdcjmfbjlinaaW.PrintLast Go.Proofs.YtefdcjmfbjlinaaW.PrintMore Go.Proofs.Ytefdcjmfbjlinaa.Sc

/-- A number's digits. -/
def dig (n : Nat) : List UInt8 := if n < 10 then [UInt8.ofNat (48 + n)] else dig (n / 10) ++ [UInt8.ofNat (48 + n % 10)]
termination_by n
decreasing_by omega
def digB (n : Nat) : ByteArray := ⟨(dig n).toArray⟩
theorem dig_small {n : Nat} (h : n < 10) : dig n = [UInt8.ofNat (48 + n)] := by rw [dig, if_pos h]
theorem dig_big {n : Nat} (h : ¬ n < 10) : dig n = dig (n / 10) ++ [UInt8.ofNat (48 + n % 10)] := by rw [dig, if_neg h]
theorem dig_ne (n : Nat) : dig n ≠ [] := by
  rw [dig]; split <;> simp
theorem dig_len : ∀ (d n : Nat), n < 10 ^ (d + 1) → (dig n).length ≤ d + 1
  | 0, n, h => by rw [dig_small (by simpa using h)]; simp
  | d + 1, n, h => by
    by_cases h' : n < 10
    · rw [dig_small h']; simp
    · rw [dig_big h', List.length_append]
      have := dig_len d (n / 10) (by rw [Nat.pow_succ] at h; omega)
      simpa using this
theorem nums_one (n : Nat) (h : n < 256) : strOfNums [(n : Int)] = ⟨#[UInt8.ofNat n]⟩ := by
  unfold strOfNums
  simp
theorem toList_nil (s : ByteArray) : (s.toList == ([] : List UInt8)) = decide (s.size = 0) := by
  rw [Lib.toList_data]
  rw [Bool.eq_iff_iff]
  simp only [beq_iff_eq, decide_eq_true_eq]
  have hL : s.data.toList.length = s.size := by simp
  constructor
  · intro h; rw [← hL, h]; rfl
  · intro h; exact List.length_eq_zero_iff.1 (by omega)
/-- What is made of a number's rest and the digits behind it. -/
def digR (m : Nat) (acc : ByteArray) : ByteArray := if m = 0 ∧ acc.size ≠ 0 then acc else digB m ++ acc
theorem digR_step (m : Nat) (acc : ByteArray) (h : ¬ (m = 0 ∧ acc.size ≠ 0)) : digR (m / 10) (⟨#[UInt8.ofNat (48 + m % 10)]⟩ ++ acc) = digR m acc := by
  have hs : ((⟨#[UInt8.ofNat (48 + m % 10)]⟩ : ByteArray) ++ acc).size ≠ 0 := by
    rw [ByteArray.size_append]
    have : (⟨#[UInt8.ofNat (48 + m % 10)]⟩ : ByteArray).size = 1 := rfl
    omega
  unfold digR
  rw [if_neg h]
  by_cases hm : m < 10
  · rw [if_pos ⟨by omega, hs⟩]
    unfold digB
    rw [dig_small hm, Nat.mod_eq_of_lt hm]
  · rw [if_neg (fun hh => by omega)]
    unfold digB
    rw [dig_big hm, ← ByteArray.append_assoc]
    congr 1
theorem dig_go (x0 : Int) (hx : ¬ x0 < 0) : ∀ (m : Nat) (acc : ByteArray), acc.size + m ≤ 4611686018427387904 → Ev (fun k => cadencyref05_Digits.l0 k x0 acc (m : Int)) (digR m acc) := by
  intro m
  induction m using Nat.strongRecOn with
  | ind m ih =>
  intro acc hb
  have htl := toList_nil acc
  by_cases h : m = 0 ∧ acc.size ≠ 0
  · refine Ev.step (f := fun k => cadencyref05_Digits.j1 k x0 acc (m : Int) false) (fun k => ?_) (Ev.step (f := fun _ => some acc) (fun k => ?_) ?_)
    · simp only [cadencyref05_Digits.l0]
      rw [if_pos (by omega), htl, decide_eq_false h.2]
    · simp only [cadencyref05_Digits.j1]
      rw [if_neg (by decide), if_neg hx]
    · unfold digR; rw [if_pos h]; exact Ev.now _
  · have hst := digR_step m acc h
    have hsz : ((⟨#[UInt8.ofNat (48 + m % 10)]⟩ : ByteArray) ++ acc).size = 1 + acc.size := by rw [ByteArray.size_append]; rfl
    have hlast : Ev (fun k => cadencyref05_Digits.l0 k x0 ((⟨#[UInt8.ofNat (48 + m % 10)]⟩ : ByteArray) ++ acc) ((m / 10 : Nat) : Int)) (digR m acc) := by
      rw [← hst]
      by_cases hm : m = 0
      · subst hm
        have h0 : digR (0 / 10) ((⟨#[UInt8.ofNat (48 + 0 % 10)]⟩ : ByteArray) ++ acc) = (⟨#[UInt8.ofNat (48 + 0 % 10)]⟩ : ByteArray) ++ acc := by
          unfold digR
          rw [if_pos ⟨rfl, by rw [hsz]; omega⟩]
        rw [h0]
        refine Ev.step (f := fun k => cadencyref05_Digits.j1 k x0 ((⟨#[UInt8.ofNat (48 + 0 % 10)]⟩ : ByteArray) ++ acc) ((0 / 10 : Nat) : Int) false) (fun k => ?_) (Ev.step (f := fun _ => some ((⟨#[UInt8.ofNat (48 + 0 % 10)]⟩ : ByteArray) ++ acc)) (fun k => ?_) (Ev.now _))
        · simp only [cadencyref05_Digits.l0]
          rw [if_pos (by simp), toList_nil, decide_eq_false (by rw [hsz]; omega)]
        · simp only [cadencyref05_Digits.j1]
          rw [if_neg (by decide), if_neg hx]
      · exact ih (m / 10) (by omega) _ (by rw [hsz]; omega)
    refine Ev.step (f := fun k => cadencyref05_Digits.j1 k x0 acc (m : Int) true) (fun k => ?_) (Ev.step (f := fun k => cadencyref05_Digits.l0 k x0 ((⟨#[UInt8.ofNat (48 + m % 10)]⟩ : ByteArray) ++ acc) ((m / 10 : Nat) : Int)) (fun k => ?_) hlast)
    · simp only [cadencyref05_Digits.l0]
      by_cases hm : m = 0
      · rw [if_pos (by omega), htl, decide_eq_true (by omega)]
      · rw [if_neg (by omega)]
    · have hmod : Int.tmod (m : Int) 10 = ((m % 10 : Nat) : Int) := by
        rw [Int.tmod_eq_emod_of_nonneg (by omega)]; omega
      have hdiv : Int.tdiv (m : Int) 10 = ((m / 10 : Nat) : Int) := by
        rw [Int.tdiv_eq_ediv_of_nonneg (by omega)]; omega
      simp only [cadencyref05_Digits.j1]
      rw [if_pos trivial, hmod, hdiv, if_neg (by omega)]
      simp only [Option.bind_some]
      have e : (wrap64 (48 + ((m % 10 : Nat) : Int))) % 256 = ((48 + m % 10 : Nat) : Int) := by unfold wrap64; omega
      rw [e, nums_one _ (by omega)]
      rw [if_pos (by have : (⟨#[UInt8.ofNat (48 + m % 10)]⟩ : ByteArray).size = 1 := rfl
                     omega)]
      rw [show wrap64 ((m / 10 : Nat) : Int) = ((m / 10 : Nat) : Int) by unfold wrap64; omega]
theorem digits_some (n : Nat) (h : n ≤ 4611686018427387904) : Ev (fun k => cadencyref05_Digits.f k (n : Int)) (digB n) := by
  have := dig_go (n : Int) (by omega) n ⟨#[]⟩ (by have : (⟨#[]⟩ : ByteArray).size = 0 := rfl
                                                  omega)
  have e : digR n ⟨#[]⟩ = digB n := by
    unfold digR
    rw [if_neg (fun h => h.2 rfl)]
    apply ByteArray.ext
    simp
  rw [e] at this
  exact this
theorem digB_size (d n : Nat) (h : n < 10 ^ (d + 1)) : (digB n).size ≤ d + 1 := by
  have := dig_len d n h
  unfold digB
  simpa [ByteArray.size] using this
/-- A task of small numbers, a short name. -/
structure Few (n : Nat) (x : S33) : Prop where
  nm : x.f0.size ≤ n
  c : 0 ≤ x.f1 ∧ x.f1 < 1000000000000000
  t : 0 ≤ x.f2 ∧ x.f2 < 1000000000000000
  d : 0 ≤ x.f3 ∧ x.f3 < 1000000000000000
  j : 0 ≤ x.f4 ∧ x.f4 < 1000000000000000
  q : 0 ≤ x.f5 ∧ x.f5 < 1000000000000000
  p : 0 ≤ x.f6 ∧ x.f6 < 1000000000000000
theorem digits_int (n : Int) (h0 : 0 ≤ n) (h : n < 1000000000000000) : Ev (fun k => cadencyref05_Digits.f k n) (digB n.toNat) := by
  have := digits_some n.toNat (by omega)
  rwa [show ((n.toNat : Nat) : Int) = n by omega] at this
theorem few_set (l : List S43) (turn : Int) : ∀ y ∈ setOf l turn, Few 2 y := by
  intro y hy
  have key : ∀ l : List S43, 1 ≤ l.length → ∀ y ∈ setL l turn, Few 2 y := by
    intro l hl y hy
    obtain ⟨k, hk⟩ := List.mem_iff_getElem?.1 hy
    obtain ⟨h6, x, rfl⟩ := setL_get l turn k y hk
    have h0 := mod_in x.f0 4 (by omega)
    have h1 := mod_in x.f1 11 (by omega)
    have h4 := mod_in x.f4 7 (by omega)
    have h2 := mod_in x.f2 (1 + x.f0 % 4 + x.f1 % 11 - (1 + x.f0 % 4) + 1) (by omega)
    have h3 := mod_in x.f3 (1 + x.f0 % 4) (by omega)
    have hp := mod_in ((k : Int) * turnsL (min 6 l.length) turn + turn % ((min 6 l.length : Nat) : Int)) ((min 6 l.length : Nat) : Int) (by omega)
    constructor <;> simp only [prioAt, oneSet]
    · exact nm_size k
    all_goals (constructor <;> omega)
  unfold setOf at hy
  refine key _ ?_ y hy
  split
  · simp
  · omega
theorem rest5 (x n : Int) (h : 0 < n) (hn : n ≤ 4611686018427387904) : cadencylaw05_rest.f x n = some (x % n) := by
  unfold cadencylaw05_rest.f
  rw [if_neg (by omega), rest_wrap x n h hn]
end Go.Proofs.Ytefdcjmfbjlinaa.A
