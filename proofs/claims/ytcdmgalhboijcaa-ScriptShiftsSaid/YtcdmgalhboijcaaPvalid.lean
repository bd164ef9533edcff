/- A set by numbers may be: plain Lean. -/
import Derived.Test.YtcdmgalhboijcaaPset
set_option linter.unusedVariables false
set_option linter.unusedSimpArgs false
namespace Go.Proofs.Ytcdmgalhboijcaa.Pu
open Go.RowKit Go.Proofs.Ytcdmgalhboijcaa.D Go.Proofs.YtcdmgalhboijcaaW.PrintWords Go.Proofs.YtcdmgalhboijcaaW.PrintLast Go.Proofs.Ytcdmgalhboijcaa.Sc

theorem ones_get : ∀ (xs : List S52) (i k : Nat), (ones i xs)[k]? = xs[k]?.map (oneSet (i + k))
  | [], _, _ => by simp [ones]
  | x :: xs, i, 0 => by simp [ones]
  | x :: xs, i, k + 1 => by
    simp only [ones, List.getElem?_cons_succ]
    rw [ones_get xs (i + 1) k, show i + 1 + k = i + (k + 1) by omega]
theorem prios_get (u r : Int) (n : Nat) : ∀ (xs : List S46) (i k : Nat), (prios u r n i xs)[k]? = xs[k]?.map (prioAt u r n (i + k))
  | [], _, _ => by simp [prios]
  | x :: xs, i, 0 => by simp [prios]
  | x :: xs, i, k + 1 => by
    simp only [prios, List.getElem?_cons_succ]
    rw [prios_get u r n xs (i + 1) k, show i + 1 + k = i + (k + 1) by omega]
theorem prios_length (u r : Int) (n : Nat) : ∀ (xs : List S46) (i : Nat), (prios u r n i xs).length = xs.length
  | [], _ => rfl
  | x :: xs, i => by simp [prios, prios_length u r n xs]
theorem setL_length (l : List S52) (turn : Int) : (setL l turn).length = min 5 l.length := by
  unfold setL
  rw [prios_length, ones_length]
  simp
theorem setOf_length (l : List S52) (turn : Int) : 1 ≤ (setOf l turn).length ∧ (setOf l turn).length ≤ 5 := by
  unfold setOf
  rw [setL_length]
  split
  · simp
  · omega
theorem setL_get (l : List S52) (turn : Int) (k : Nat) (y : S46) (h : (setL l turn)[k]? = some y) : k < 5 ∧ ∃ x, y = prioAt (turnsL (min 5 l.length) turn) (turn % ((min 5 l.length : Nat) : Int)) (min 5 l.length) k (oneSet k x) := by
  have hlen : (ones 0 (l.take 5)).length = min 5 l.length := by rw [ones_length]; simp
  unfold setL at h
  rw [hlen, prios_get, ones_get] at h
  simp only [Nat.zero_add, Option.map_map] at h
  cases hx : (l.take 5)[k]? with
  | none => rw [hx] at h; cases h
  | some x =>
    rw [hx] at h
    have hk : k < (l.take 5).length := by
      rcases Nat.lt_or_ge k (l.take 5).length with h' | h'
      · exact h'
      · rw [List.getElem?_eq_none h'] at hx; cases hx
    refine ⟨by simp at hk; omega, x, ?_⟩
    have : some (prioAt (turnsL (min 5 l.length) turn) (turn % ((min 5 l.length : Nat) : Int)) (min 5 l.length) k (oneSet k x)) = some y := h
    injection this with this
    exact this.symm
theorem word_nm : ∀ k, k < 5 → wordL (nmOf k).data.toList = true := by decide +kernel
theorem nm_ne : ∀ i, i < 5 → ∀ j, j < 5 → i < j → (nmOf i).data ≠ (nmOf j).data := by decide +kernel
theorem nm_size (k : Nat) : (nmOf k).size ≤ 2 := by
  unfold nmOf
  rw [ByteArray.size_append, size_nums]
  decide
theorem check_one (k : Nat) (hk : k < 5) (x : S52) (u r : Int) (n : Nat) (hn : 1 ≤ n ∧ n ≤ 5) : checkE (toT (prioAt u r n k (oneSet k x))) = 0 := by
  have h0 := mod_in x.f0 4 (by omega)
  have h1 := mod_in x.f1 11 (by omega)
  have h4 := mod_in x.f4 7 (by omega)
  have h2 := mod_in x.f2 (1 + x.f0 % 4 + x.f1 % 11 - (1 + x.f0 % 4) + 1) (by omega)
  have h3 := mod_in x.f3 (1 + x.f0 % 4) (by omega)
  have hp := mod_in ((k : Int) * u + r) (n : Int) (by omega)
  have hw := word_nm k hk
  have hs := nm_size k
  have hr : rangesB (toT (prioAt u r n k (oneSet k x))) = true := by
    unfold rangesB inB toT prioAt oneSet
    simp only [Bool.and_eq_true, decide_eq_true_eq]
    refine ⟨⟨⟨⟨⟨⟨⟨⟨⟨hw, by omega⟩, by omega⟩, by omega, by omega⟩, by omega, by omega⟩, by omega, by omega⟩, by omega, by omega⟩, by omega, by omega⟩, by omega⟩, by omega⟩
  have hf : fitsB (toT (prioAt u r n k (oneSet k x))) = true := by
    unfold fitsB toT prioAt oneSet
    simp only [Bool.and_eq_true, decide_eq_true_eq]
    refine ⟨⟨by omega, ?_⟩, by omega⟩
    unfold wrap64
    omega
  unfold checkE
  rw [hr, hf]
  rfl
def prioB : Bool := (List.range 6).all fun n => (List.range n).all fun r => (List.range n).all fun i => (List.range n).all fun j => !(decide (i < j)) || (decide ((i * 1 + r) % n ≠ (j * 1 + r) % n) && (!(decide (2 < n)) || decide ((i * (n - 1) + r) % n ≠ (j * (n - 1) + r) % n)))
theorem prioB_true : prioB = true := by decide +kernel
theorem prio_nat (n : Nat) (hn : n < 6) (r : Nat) (hr : r < n) (i : Nat) (hi : i < n) (j : Nat) (hj : j < n) (hij : i < j) : ((i * 1 + r) % n ≠ (j * 1 + r) % n) ∧ (2 < n → (i * (n - 1) + r) % n ≠ (j * (n - 1) + r) % n) := by
  have h := prioB_true
  unfold prioB at h
  simp only [List.all_eq_true, List.mem_range] at h
  have h2 := h n hn r hr i hi j hj
  rw [decide_eq_true hij] at h2
  simp only [Bool.not_true, Bool.false_or, Bool.and_eq_true, decide_eq_true_eq, Bool.or_eq_true, Bool.not_eq_true', decide_eq_false_iff_not] at h2
  refine ⟨h2.1, fun h3 => ?_⟩
  rcases h2.2 with h4 | h4
  · exact absurd h3 h4
  · exact h4
theorem prio_ne (n i j : Nat) (turn : Int) (hn : 1 ≤ n ∧ n ≤ 5) (hi : i < n) (hj : j < n) (hij : i < j) :
    1 + ((i : Int) * turnsL n turn + turn % (n : Int)) % (n : Int) ≠ 1 + ((j : Int) * turnsL n turn + turn % (n : Int)) % (n : Int) := by
  have hm := mod_in turn (n : Int) (by omega)
  obtain ⟨r, hr⟩ : ∃ r : Nat, turn % (n : Int) = (r : Int) := Int.eq_ofNat_of_zero_le hm.1
  have h := prio_nat n (by omega) r (by omega) i hi j hj hij
  rw [hr]
  unfold turnsL
  split
  · rename_i ht
    have h2 := h.2 (by omega)
    intro e
    apply h2
    have e2 : ((i : Int) * ((n : Int) - 1) + (r : Int)) % (n : Int) = ((j : Int) * ((n : Int) - 1) + (r : Int)) % (n : Int) := by omega
    rw [show ((n : Int) - 1) = ((n - 1 : Nat) : Int) by omega] at e2
    exact_mod_cast e2
  · intro e
    apply h.1
    have e2 : ((i : Int) * 1 + (r : Int)) % (n : Int) = ((j : Int) * 1 + (r : Int)) % (n : Int) := by omega
    exact_mod_cast e2

theorem allFrom_ok : ∀ (xs pre : List Tsk), (∀ x ∈ xs, checkE x = 0) → (pre ++ xs).Pairwise (fun y x => y.nm ≠ x.nm ∧ y.p ≠ x.p) → (allFrom pre xs).2 = 0
  | [], _, _, _ => rfl
  | x :: xs, pre, h, hp => by
    have hx := h x (by simp)
    have hpre : ∀ y ∈ pre, y.nm ≠ x.nm ∧ y.p ≠ x.p := fun y hy => (List.pairwise_append.1 hp).2.2 y hy x (by simp)
    have h1 : pre.any (fun y => decide (y.nm = x.nm)) = false := by
      rw [List.any_eq_false]
      intro y hy
      simp [(hpre y hy).1]
    have h2 : pre.any (fun y => decide (y.p = x.p)) = false := by
      rw [List.any_eq_false]
      intro y hy
      simp [(hpre y hy).2]
    rw [allFrom, if_neg (by simp [hx]), h1, h2]
    simp only [Bool.or_self, Bool.false_eq_true, if_false]
    exact allFrom_ok xs (pre ++ [x]) (fun y hy => h y (by simp [hy])) (by rw [List.append_assoc]; exact hp)
theorem may_setL (l : List S52) (turn : Int) (hl : 1 ≤ l.length) : mayB ((setL l turn).map toT) = true := by
  have hlen := setL_length l turn
  unfold mayB checkAllL
  rw [if_neg (by rw [List.length_map]; omega)]
  rw [allFrom_ok]
  · rfl
  · intro y hy
    obtain ⟨z, hz, rfl⟩ := List.mem_map.1 hy
    obtain ⟨k, hk⟩ := List.mem_iff_getElem?.1 hz
    obtain ⟨h5, x, rfl⟩ := setL_get l turn k z hk
    exact check_one k h5 x _ _ _ (by omega)
  · rw [List.nil_append, List.pairwise_iff_getElem]
    intro i j hi hj hij
    rw [List.length_map] at hi hj
    obtain ⟨hi5, x, hx⟩ := setL_get l turn i _ (List.getElem?_eq_getElem hi)
    obtain ⟨hj5, z, hz⟩ := setL_get l turn j _ (List.getElem?_eq_getElem hj)
    rw [List.getElem_map, List.getElem_map, hx, hz]
    constructor
    · intro e
      exact nm_ne i hi5 j hj5 hij (congrArg ByteArray.data e)
    · exact prio_ne (min 5 l.length) i j turn (by omega) (by omega) (by omega) hij
theorem may_set (l : List S52) (turn : Int) : mayB ((setOf l turn).map toT) = true := by
  unfold setOf
  refine may_setL _ turn ?_
  split
  · simp
  · omega
end Go.Proofs.Ytcdmgalhboijcaa.Pu
