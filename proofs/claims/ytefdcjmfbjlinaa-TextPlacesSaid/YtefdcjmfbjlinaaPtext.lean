/- The document's digits, lines and prints; what a text is spoilt to: plain Lean. -/
import Derived.Test.YtefdcjmfbjlinaaPset
import Derived.Test.YtefdcjmfbjlinaaAx9
set_option linter.unusedVariables false
set_option linter.unusedSimpArgs false
namespace Go.Proofs.Ytefdcjmfbjlinaa.A
open Go.RowKit Go.Proofs.YtefdcjmfbjlinaaW.PrintWords Go.Proofs.YtefdcjmfbjlinaaW.PrintLast Go.Proofs.YtefdcjmfbjlinaaW.PrintMore Go.Proofs.Ytefdcjmfbjlinaa.Sc

/-- A number's digits. -/
def dig (n : Nat) : List UInt8 := if n < 10 then [UInt8.ofNat (48 + n)] else dig (n / 10) ++ [UInt8.ofNat (48 + n % 10)]
termination_by n
decreasing_by omega
def digB (n : Nat) : ByteArray := ⟨(dig n).toArray⟩
theorem dig_small {n : Nat} (h : n < 10) : dig n = [UInt8.ofNat (48 + n)] := by rw [dig, if_pos h]
theorem dig_big {n : Nat} (h : ¬ n < 10) : dig n = dig (n / 10) ++ [UInt8.ofNat (48 + n % 10)] := by rw [dig, if_neg h]
theorem dig_len : ∀ (d n : Nat), n < 10 ^ (d + 1) → (dig n).length ≤ d + 1
  | 0, n, h => by rw [dig_small (by simpa using h)]; simp
  | d + 1, n, h => by
    by_cases h' : n < 10
    · rw [dig_small h']; simp
    · rw [dig_big h', List.length_append]
      have := dig_len d (n / 10) (by rw [Nat.pow_succ] at h; omega)
      simpa using this
theorem nums_one (n : Nat) (h : n < 256) : strOfNums [(n : Int)] = ⟨#[UInt8.ofNat n]⟩ := by
  unfold strOfNums
  simp
theorem toList_nil (s : ByteArray) : (s.toList == ([] : List UInt8)) = decide (s.size = 0) := by
  rw [Lib.toList_data]
  rw [Bool.eq_iff_iff]
  simp only [beq_iff_eq, decide_eq_true_eq]
  have hL : s.data.toList.length = s.size := by simp
  constructor
  · intro h; rw [← hL, h]; rfl
  · intro h; exact List.length_eq_zero_iff.1 (by omega)
/-- What is made of a number's rest and the digits behind it. -/
def digR (m : Nat) (acc : ByteArray) : ByteArray := if m = 0 ∧ acc.size ≠ 0 then acc else digB m ++ acc
theorem digR_step (m : Nat) (acc : ByteArray) (h : ¬ (m = 0 ∧ acc.size ≠ 0)) : digR (m / 10) (⟨#[UInt8.ofNat (48 + m % 10)]⟩ ++ acc) = digR m acc := by
  have hs : ((⟨#[UInt8.ofNat (48 + m % 10)]⟩ : ByteArray) ++ acc).size ≠ 0 := by
    rw [ByteArray.size_append]
    have : (⟨#[UInt8.ofNat (48 + m % 10)]⟩ : ByteArray).size = 1 := rfl
    omega
  unfold digR
  rw [if_neg h]
  by_cases hm : m < 10
  · rw [if_pos ⟨by omega, hs⟩]
    unfold digB
    rw [dig_small hm, Nat.mod_eq_of_lt hm]
  · rw [if_neg (fun hh => by omega)]
    unfold digB
    rw [dig_big hm, ← ByteArray.append_assoc]
    congr 1
theorem dig_go (x0 : Int) (hx : ¬ x0 < 0) : ∀ (m : Nat) (acc : ByteArray), acc.size + m ≤ 4611686018427387904 → Ev (fun k => cadencyref05_Digits.l0 k x0 acc (m : Int)) (digR m acc) := by
  intro m
  induction m using Nat.strongRecOn with
  | ind m ih =>
  intro acc hb
  have htl := toList_nil acc
  by_cases h : m = 0 ∧ acc.size ≠ 0
  · refine Ev.step (f := fun k => cadencyref05_Digits.j1 k x0 acc (m : Int) false) (fun k => ?_) (Ev.step (f := fun _ => some acc) (fun k => ?_) ?_)
    · simp only [cadencyref05_Digits.l0]
      rw [if_pos (by omega), htl, decide_eq_false h.2]
    · simp only [cadencyref05_Digits.j1]
      rw [if_neg (by decide), if_neg hx]
    · unfold digR; rw [if_pos h]; exact Ev.now _
  · have hst := digR_step m acc h
    have hsz : ((⟨#[UInt8.ofNat (48 + m % 10)]⟩ : ByteArray) ++ acc).size = 1 + acc.size := by rw [ByteArray.size_append]; rfl
    have hlast : Ev (fun k => cadencyref05_Digits.l0 k x0 ((⟨#[UInt8.ofNat (48 + m % 10)]⟩ : ByteArray) ++ acc) ((m / 10 : Nat) : Int)) (digR m acc) := by
      rw [← hst]
      by_cases hm : m = 0
      · subst hm
        have h0 : digR (0 / 10) ((⟨#[UInt8.ofNat (48 + 0 % 10)]⟩ : ByteArray) ++ acc) = (⟨#[UInt8.ofNat (48 + 0 % 10)]⟩ : ByteArray) ++ acc := by
          unfold digR
          rw [if_pos ⟨rfl, by rw [hsz]; omega⟩]
        rw [h0]
        refine Ev.step (f := fun k => cadencyref05_Digits.j1 k x0 ((⟨#[UInt8.ofNat (48 + 0 % 10)]⟩ : ByteArray) ++ acc) ((0 / 10 : Nat) : Int) false) (fun k => ?_) (Ev.step (f := fun _ => some ((⟨#[UInt8.ofNat (48 + 0 % 10)]⟩ : ByteArray) ++ acc)) (fun k => ?_) (Ev.now _))
        · simp only [cadencyref05_Digits.l0]
          rw [if_pos (by simp), toList_nil, decide_eq_false (by rw [hsz]; omega)]
        · simp only [cadencyref05_Digits.j1]
          rw [if_neg (by decide), if_neg hx]
      · exact ih (m / 10) (by omega) _ (by rw [hsz]; omega)
    refine Ev.step (f := fun k => cadencyref05_Digits.j1 k x0 acc (m : Int) true) (fun k => ?_) (Ev.step (f := fun k => cadencyref05_Digits.l0 k x0 ((⟨#[UInt8.ofNat (48 + m % 10)]⟩ : ByteArray) ++ acc) ((m / 10 : Nat) : Int)) (fun k => ?_) hlast)
    · simp only [cadencyref05_Digits.l0]
      by_cases hm : m = 0
      · rw [if_pos (by omega), htl, decide_eq_true (by omega)]
      · rw [if_neg (by omega)]
    · have hmod : Int.tmod (m : Int) 10 = ((m % 10 : Nat) : Int) := by
        rw [Int.tmod_eq_emod_of_nonneg (by omega)]; omega
      have hdiv : Int.tdiv (m : Int) 10 = ((m / 10 : Nat) : Int) := by
        rw [Int.tdiv_eq_ediv_of_nonneg (by omega)]; omega
      simp only [cadencyref05_Digits.j1]
      rw [if_pos trivial, hmod, hdiv, if_neg (by omega)]
      simp only [Option.bind_some]
      have e : (wrap64 (48 + ((m % 10 : Nat) : Int))) % 256 = ((48 + m % 10 : Nat) : Int) := by unfold wrap64; omega
      rw [e, nums_one _ (by omega)]
      rw [if_pos (by have : (⟨#[UInt8.ofNat (48 + m % 10)]⟩ : ByteArray).size = 1 := rfl
                     omega)]
      rw [show wrap64 ((m / 10 : Nat) : Int) = ((m / 10 : Nat) : Int) by unfold wrap64; omega]
theorem digits_some (n : Nat) (h : n ≤ 4611686018427387904) : Ev (fun k => cadencyref05_Digits.f k (n : Int)) (digB n) := by
  have := dig_go (n : Int) (by omega) n ⟨#[]⟩ (by have : (⟨#[]⟩ : ByteArray).size = 0 := rfl
                                                  omega)
  have e : digR n ⟨#[]⟩ = digB n := by
    unfold digR
    rw [if_neg (fun h => h.2 rfl)]
    apply ByteArray.ext
    simp
  rw [e] at this
  exact this
theorem digB_size (d n : Nat) (h : n < 10 ^ (d + 1)) : (digB n).size ≤ d + 1 := by
  have := dig_len d n h
  unfold digB
  simpa [ByteArray.size] using this
/-- A task's line. -/
def lineB (x : S33) : ByteArray :=
  (⟨#[116, 97, 115, 107, 32]⟩ : ByteArray) ++ x.f0 ++ (⟨#[32, 99, 61]⟩ : ByteArray) ++ digB x.f1.toNat ++ (⟨#[32, 116, 61]⟩ : ByteArray) ++ digB x.f2.toNat ++ (⟨#[32, 100, 61]⟩ : ByteArray) ++ digB x.f3.toNat ++ (⟨#[32, 106, 61]⟩ : ByteArray) ++ digB x.f4.toNat ++ (⟨#[32, 113, 61]⟩ : ByteArray) ++ digB x.f5.toNat ++ (⟨#[32, 112, 61]⟩ : ByteArray) ++ digB x.f6.toNat ++ (⟨#[10]⟩ : ByteArray)
/-- A task of small numbers, a short name. -/
structure Few (n : Nat) (x : S33) : Prop where
  nm : x.f0.size ≤ n
  c : 0 ≤ x.f1 ∧ x.f1 < 1000000000000000
  t : 0 ≤ x.f2 ∧ x.f2 < 1000000000000000
  d : 0 ≤ x.f3 ∧ x.f3 < 1000000000000000
  j : 0 ≤ x.f4 ∧ x.f4 < 1000000000000000
  q : 0 ≤ x.f5 ∧ x.f5 < 1000000000000000
  p : 0 ≤ x.f6 ∧ x.f6 < 1000000000000000
theorem line_size {n : Nat} {x : S33} (h : Few n x) : (lineB x).size ≤ n + 130 := by
  obtain ⟨h0, h1, h2, h3, h4, h5, h6⟩ := h
  have d1 := digB_size 14 x.f1.toNat (by omega)
  have d2 := digB_size 14 x.f2.toNat (by omega)
  have d3 := digB_size 14 x.f3.toNat (by omega)
  have d4 := digB_size 14 x.f4.toNat (by omega)
  have d5 := digB_size 14 x.f5.toNat (by omega)
  have d6 := digB_size 14 x.f6.toNat (by omega)
  unfold lineB
  simp only [ByteArray.size_append]
  have e1 : (⟨#[116, 97, 115, 107, 32]⟩ : ByteArray).size = 5 := rfl
  have e2 : (⟨#[32, 99, 61]⟩ : ByteArray).size = 3 := rfl
  have e3 : (⟨#[32, 116, 61]⟩ : ByteArray).size = 3 := rfl
  have e4 : (⟨#[32, 100, 61]⟩ : ByteArray).size = 3 := rfl
  have e5 : (⟨#[32, 106, 61]⟩ : ByteArray).size = 3 := rfl
  have e6 : (⟨#[32, 113, 61]⟩ : ByteArray).size = 3 := rfl
  have e7 : (⟨#[32, 112, 61]⟩ : ByteArray).size = 3 := rfl
  have e8 : (⟨#[10]⟩ : ByteArray).size = 1 := rfl
  omega
theorem digits_int (n : Int) (h0 : 0 ≤ n) (h : n < 1000000000000000) : Ev (fun k => cadencyref05_Digits.f k n) (digB n.toNat) := by
  have := digits_some n.toNat (by omega)
  rwa [show ((n.toNat : Nat) : Int) = n by omega] at this
set_option maxHeartbeats 4000000 in
theorem line_some {n : Nat} (hn : n ≤ 1000000) {x : S33} (h : Few n x) : Ev (fun k => cadencyref05_Line.f k x.f0 x.f1 x.f2 x.f3 x.f4 x.f5 x.f6) (lineB x) := by
  obtain ⟨h0, h1, h2, h3, h4, h5, h6⟩ := h
  have d1 := digB_size 14 x.f1.toNat (by omega)
  have d2 := digB_size 14 x.f2.toNat (by omega)
  have d3 := digB_size 14 x.f3.toNat (by omega)
  have d4 := digB_size 14 x.f4.toNat (by omega)
  have d5 := digB_size 14 x.f5.toNat (by omega)
  have d6 := digB_size 14 x.f6.toNat (by omega)
  obtain ⟨K1, k1⟩ := digits_int x.f1 h1.1 h1.2
  obtain ⟨K2, k2⟩ := digits_int x.f2 h2.1 h2.2
  obtain ⟨K3, k3⟩ := digits_int x.f3 h3.1 h3.2
  obtain ⟨K4, k4⟩ := digits_int x.f4 h4.1 h4.2
  obtain ⟨K5, k5⟩ := digits_int x.f5 h5.1 h5.2
  obtain ⟨K6, k6⟩ := digits_int x.f6 h6.1 h6.2
  have e1 : (⟨#[116, 97, 115, 107, 32]⟩ : ByteArray).size = 5 := rfl
  have e2 : (⟨#[32, 99, 61]⟩ : ByteArray).size = 3 := rfl
  have e3 : (⟨#[32, 116, 61]⟩ : ByteArray).size = 3 := rfl
  have e4 : (⟨#[32, 100, 61]⟩ : ByteArray).size = 3 := rfl
  have e5 : (⟨#[32, 106, 61]⟩ : ByteArray).size = 3 := rfl
  have e6 : (⟨#[32, 113, 61]⟩ : ByteArray).size = 3 := rfl
  have e7 : (⟨#[32, 112, 61]⟩ : ByteArray).size = 3 := rfl
  have e8 : (⟨#[10]⟩ : ByteArray).size = 1 := rfl
  refine ⟨K1 + K2 + K3 + K4 + K5 + K6, fun k hk => ?_⟩
  show cadencyref05_Line.f k x.f0 x.f1 x.f2 x.f3 x.f4 x.f5 x.f6 = _
  have k1 := k1 k (by omega)
  have k2 := k2 k (by omega)
  have k3 := k3 k (by omega)
  have k4 := k4 k (by omega)
  have k5 := k5 k (by omega)
  have k6 := k6 k (by omega)
  dsimp only at k1 k2 k3 k4 k5 k6
  unfold cadencyref05_Line.f
  rw [if_pos (by omega), if_pos (by simp only [ByteArray.size_append]; omega), k1, Option.bind_some]
  repeat first
    | rw [if_pos (by simp only [ByteArray.size_append]; omega)]
    | rw [k2, Option.bind_some]
    | rw [k3, Option.bind_some]
    | rw [k4, Option.bind_some]
    | rw [k5, Option.bind_some]
    | rw [k6, Option.bind_some]
  have e10 : strOfNums [(10 : Int)] = ⟨#[10]⟩ := nums_one 10 (by omega)
  rw [Option.bind_some, e10, if_pos (by simp only [ByteArray.size_append]; omega)]
  rfl
/-- What is printed of tasks. -/
def printB : List S33 → ByteArray
  | [] => ⟨#[]⟩
  | x :: xs => lineB x ++ printB xs
theorem print_size {n : Nat} : ∀ xs : List S33, (∀ x ∈ xs, Few n x) → (printB xs).size ≤ xs.length * (n + 130)
  | [], _ => by simp [printB, ByteArray.size]
  | x :: xs, h => by
    have h1 := line_size (h x (by simp))
    have h2 := print_size xs (fun y hy => h y (by simp [hy]))
    simp only [printB, ByteArray.size_append, List.length_cons, Nat.add_mul, Nat.one_mul] at h2 ⊢
    omega
theorem nil_app (b : ByteArray) : (⟨#[]⟩ : ByteArray) ++ b = b := by
  apply ByteArray.ext; simp
theorem app_nil (b : ByteArray) : b ++ (⟨#[]⟩ : ByteArray) = b := by
  apply ByteArray.ext; simp
theorem print_go {n : Nat} (hn : n ≤ 1000000) (xs : List S33) (hf : ∀ x ∈ xs, Few n x) (hl : xs.length ≤ 1000000) : ∀ (d i : Nat) (acc : ByteArray), xs.length - i = d → i ≤ xs.length → acc.size ≤ i * (n + 130) → Ev (fun k => cadencyref05_Print.l0 k xs acc (i : Int)) (acc ++ printB (xs.drop i)) := by
  intro d
  induction d with
  | zero =>
    intro i acc hd hi ha
    rw [List.drop_eq_nil_of_le (by omega)]
    simp only [printB, app_nil]
    refine Ev.step (f := fun _ => some acc) (fun k => ?_) (Ev.now _)
    simp only [cadencyref05_Print.l0]
    rw [if_neg (by omega)]
  | succ d ih =>
    intro i acc hd hi ha
    have hlt : i < xs.length := by omega
    obtain ⟨x, hx⟩ : ∃ x, xs[i]? = some x := ⟨_, List.getElem?_eq_getElem hlt⟩
    have hdr : xs.drop i = x :: xs.drop (i + 1) := by
      rw [List.drop_eq_getElem_cons hlt]
      rw [List.getElem?_eq_getElem hlt] at hx
      injection hx with hx
      rw [hx]
    have hfx := hf x (List.mem_of_getElem? hx)
    have hs := line_size hfx
    have ha2 : (acc ++ lineB x).size ≤ (i + 1) * (n + 130) := by
      rw [ByteArray.size_append, Nat.add_mul, Nat.one_mul]; omega
    have hn2 := ih (i + 1) (acc ++ lineB x) (by omega) (by omega) ha2
    obtain ⟨K1, k1⟩ := line_some hn hfx
    obtain ⟨K2, k2⟩ := hn2
    rw [hdr]
    simp only [printB]
    rw [← ByteArray.append_assoc]
    refine ⟨K1 + K2 + 1, fun k hk => ?_⟩
    obtain ⟨k, rfl⟩ : ∃ m, k = m + 1 := ⟨k - 1, by omega⟩
    have k1 := k1 k (by omega)
    have k2 := k2 k (by omega)
    dsimp only at k1 k2 ⊢
    simp only [cadencyref05_Print.l0]
    have hb : i * (n + 130) ≤ 1000000 * 1000130 := Nat.mul_le_mul (by omega) (by omega)
    rw [if_pos (by omega), if_pos (by omega), rd46 xs i x hx, k1, Option.bind_some, if_pos (by omega), show wrap64 ((i : Int) + 1) = ((i + 1 : Nat) : Int) by unfold wrap64; omega]
    exact k2
theorem print_some {n : Nat} (hn : n ≤ 1000000) (xs : List S33) (hf : ∀ x ∈ xs, Few n x) (hl : xs.length ≤ 1000000) : Ev (fun k => cadencyref05_Print.f k xs) (printB xs) := by
  have h0 : (⟨#[]⟩ : ByteArray).size = 0 := rfl
  have := print_go hn xs hf hl xs.length 0 ⟨#[]⟩ (by omega) (by omega) (by omega)
  rw [List.drop_zero, nil_app] at this
  exact this
theorem few_set (l : List S43) (turn : Int) : ∀ y ∈ setOf l turn, Few 2 y := by
  intro y hy
  have key : ∀ l : List S43, 1 ≤ l.length → ∀ y ∈ setL l turn, Few 2 y := by
    intro l hl y hy
    obtain ⟨k, hk⟩ := List.mem_iff_getElem?.1 hy
    obtain ⟨h6, x, rfl⟩ := setL_get l turn k y hk
    have h0 := mod_in x.f0 4 (by omega)
    have h1 := mod_in x.f1 11 (by omega)
    have h4 := mod_in x.f4 7 (by omega)
    have h2 := mod_in x.f2 (1 + x.f0 % 4 + x.f1 % 11 - (1 + x.f0 % 4) + 1) (by omega)
    have h3 := mod_in x.f3 (1 + x.f0 % 4) (by omega)
    have hp := mod_in ((k : Int) * turnsL (min 6 l.length) turn + turn % ((min 6 l.length : Nat) : Int)) ((min 6 l.length : Nat) : Int) (by omega)
    constructor <;> simp only [prioAt, oneSet]
    · exact nm_size k
    all_goals (constructor <;> omega)
  unfold setOf at hy
  refine key _ ?_ y hy
  split
  · simp
  · omega
theorem set_print (l : List S43) (turn : Int) : (printB (setOf l turn)).size ≤ 792 := by
  have h := print_size (setOf l turn) (few_set l turn)
  have := (setOf_length l turn).2
  have h2 : (setOf l turn).length * (2 + 130) ≤ 6 * 132 := Nat.mul_le_mul this (by omega)
  omega
theorem rest5 (x n : Int) (h : 0 < n) (hn : n ≤ 4611686018427387904) : cadencylaw05_rest.f x n = some (x % n) := by
  unfold cadencylaw05_rest.f
  rw [if_neg (by omega), rest_wrap x n h hn]
/-- A text, at most 200 bytes of it. -/
def sh (s : ByteArray) : ByteArray := if s.size > 200 then s.extract 0 200 else s
theorem sh_size (s : ByteArray) : (sh s).size ≤ 200 := by
  unfold sh
  split
  · simp; omega
  · omega
theorem short_some (s : ByteArray) : cadencylaw05_short.f s = some (sh s) := by
  unfold cadencylaw05_short.f sh
  by_cases h : s.size > 200
  · rw [if_pos (by omega), if_pos (by decide), if_pos (by omega), if_pos h]
  · rw [if_neg (by omega), if_neg h]
theorem spoilt_some (s : ByteArray) (hs : s.size ≤ 100000) (q0 q1 q2 : Int) : ∃ r, cadencylaw05_spoilt.f s q0 q1 q2 = some r ∧ r.size ≤ s.size + 1 := by
  have hL : s.data.toList.length = s.size := by simp
  unfold cadencylaw05_spoilt.f
  rw [Lib.toList_data]
  by_cases h0 : s.data.toList = []
  · rw [if_pos h0]
    exact ⟨_, rfl, by rw [size_nums]; omega⟩
  · have hp : 0 < s.size := by
      rcases Nat.eq_zero_or_pos s.size with h | h
      · exact absurd (List.length_eq_zero_iff.1 (by omega)) h0
      · exact h
    rw [if_neg h0, rest5 q1 (s.size : Int) (by omega) (by omega)]
    simp only [Option.bind_some]
    have hm := mod_in q1 (s.size : Int) (by omega)
    obtain ⟨i, hi⟩ : ∃ i : Nat, q1 % (s.size : Int) = (i : Int) := Int.eq_ofNat_of_zero_le hm.1
    rw [hi] at hm ⊢
    rw [rest5 q0 3 (by omega) (by omega)]
    simp only [Option.bind_some, Int.toNat_natCast]
    have hw : wrap64 ((i : Int) + 1) = ((i + 1 : Nat) : Int) := by unfold wrap64; omega
    have x1 : (s.extract 0 i).size = i := by simp; omega
    have x2 : (s.extract (i + 1) s.size).size = s.size - (i + 1) := by simp
    have x3 : (s.extract i s.size).size = s.size - i := by simp
    have x4 := size_nums (q2 % 256)
    rw [hw]
    simp only [Int.toNat_natCast]
    by_cases h1 : q0 % 3 = 0
    · rw [if_pos h1, if_pos (by omega), if_pos (by omega), if_pos (by omega), if_pos (by omega), if_pos (by omega), if_pos (by rw [ByteArray.size_append]; omega)]
      exact ⟨_, rfl, by rw [ByteArray.size_append, ByteArray.size_append]; omega⟩
    · rw [if_neg h1]
      by_cases h2 : q0 % 3 = 1
      · rw [if_pos h2, if_pos (by omega), if_pos (by omega), if_pos (by omega), if_pos (by omega), if_pos (by omega)]
        exact ⟨_, rfl, by rw [ByteArray.size_append]; omega⟩
      · rw [if_neg h2, if_pos (by omega), if_pos (by omega), if_pos (by omega), if_pos (by rw [ByteArray.size_append]; omega)]
        exact ⟨_, rfl, by rw [ByteArray.size_append, ByteArray.size_append]; omega⟩
end Go.Proofs.Ytefdcjmfbjlinaa.A
