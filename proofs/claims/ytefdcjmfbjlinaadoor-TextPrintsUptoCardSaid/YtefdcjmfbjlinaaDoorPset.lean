/- Sets by numbers, in plain Lean. -/
import Derived.Test.YtefdcjmfbjlinaaDoorAx3
import Derived.Test.YtefdcjmfbjlinaaDoorPcheck
set_option linter.unusedVariables false
set_option linter.unusedSimpArgs false
namespace Go.Proofs.YtefdcjmfbjlinaaDoor.A
open Go.RowKit Go.Proofs.YtefdcjmfbjlinaaDoorW.PrintWords Go.Proofs.YtefdcjmfbjlinaaDoorW.PrintLast Go.Proofs.YtefdcjmfbjlinaaDoorW.PrintMore Go.Proofs.YtefdcjmfbjlinaaDoor.Sc

theorem neg_lt_tmod (x n : Int) (h : 0 < n) : -n < x.tmod n := by
  have h1 := Int.tmod_lt_of_pos (-x) h
  rw [Int.neg_tmod] at h1
  omega
theorem rest_val (x n : Int) (h : 0 < n) : (x.tmod n + n).tmod n = x % n := by
  have h1 := Int.tmod_lt_of_pos x h
  have h2 : -n < x.tmod n := neg_lt_tmod x n h
  rw [Int.tmod_eq_emod_of_nonneg (by omega), Int.add_emod_right]
  have e := Int.tmod_add_mul_tdiv x n
  have : x % n = (x.tmod n) % n := by
    conv => lhs; rw [← e]
    rw [Int.add_mul_emod_self_left]
  exact this.symm
theorem rest_wrap (x n : Int) (h : 0 < n) (hn : n ≤ 4611686018427387904) : Int.tmod (wrap64 ((Int.tmod x n) + n)) n = x % n := by
  have h1 := Int.tmod_lt_of_pos x h
  have h2 : -n < x.tmod n := neg_lt_tmod x n h
  rw [show wrap64 ((Int.tmod x n) + n) = Int.tmod x n + n by unfold wrap64; omega]
  exact rest_val x n h
theorem rest4 (x n : Int) (h : 0 < n) (hn : n ≤ 4611686018427387904) : cadencyref04_rest.f x n = some (x % n) := by
  unfold cadencyref04_rest.f
  rw [if_neg (by omega), rest_wrap x n h hn]
theorem mod_in (x n : Int) (h : 0 < n) : 0 ≤ x % n ∧ x % n < n := ⟨Int.emod_nonneg _ (by omega), Int.emod_lt_of_pos _ h⟩

theorem rd52 (l : List S43) (i : Nat) (x : S43) (h : l[i]? = some x) : rd_T43 l (i : Int) = x := by
  unfold rd_T43
  rw [List.getD_eq_getElem?_getD]
  simp [h]
theorem size_nums (n : Int) : (strOfNums [n]).size = 1 := by rfl
def nmOf (i : Nat) : ByteArray := (⟨#[116]⟩ : ByteArray) ++ (strOfNums [(97 + (i : Int)) % 256])
def oneSet (i : Nat) (x : S43) : S29 :=
  ⟨nmOf i, 1 + x.f0 % 4, 1 + x.f0 % 4 + x.f1 % 11 + x.f4 % 7, 1 + x.f0 % 4 + x.f1 % 11, x.f2 % (1 + x.f0 % 4 + x.f1 % 11 - (1 + x.f0 % 4) + 1), 1 + x.f3 % (1 + x.f0 % 4), 0⟩
def ones : Nat → List S43 → List S29
  | _, [] => []
  | i, x :: xs => oneSet i x :: ones (i + 1) xs
theorem ones_length : ∀ (xs : List S43) (i : Nat), (ones i xs).length = xs.length
  | [], _ => rfl
  | x :: xs, i => by simp [ones, ones_length xs]
def prioAt (u r : Int) (n i : Nat) (x : S29) : S29 := ⟨x.f0, x.f1, x.f2, x.f3, x.f4, x.f5, 1 + ((i : Int) * u + r) % (n : Int)⟩
def prios (u r : Int) (n : Nat) : Nat → List S29 → List S29
  | _, [] => []
  | i, x :: xs => prioAt u r n i x :: prios u r n (i + 1) xs
def turnsL (n : Nat) (turn : Int) : Int := if (n : Int) > 2 ∧ (turn.tdiv n) % 2 = 1 then (n : Int) - 1 else 1
def setL (l : List S43) (turn : Int) : List S29 := prios (turnsL (ones 0 (l.take 6)).length turn) (turn % ((ones 0 (l.take 6)).length : Int)) (ones 0 (l.take 6)).length 0 (ones 0 (l.take 6))
theorem turns_some (n : Nat) (turn : Int) (h1 : 1 ≤ n) (h5 : n ≤ 6) : ∃ u, (cadencyref04_turns.f (n : Int) turn = some u ∧ turnsL n turn = u) ∧ (0 ≤ u ∧ u ≤ 6) := by
  unfold cadencyref04_turns.f turnsL
  by_cases h : (n : Int) > 2
  · have hq : wrap64 (turn.tdiv (n : Int)) % 2 = turn.tdiv (n : Int) % 2 := by unfold wrap64; omega
    rw [if_pos h, if_neg (by omega), rest4 _ 2 (by omega) (by omega), hq]
    simp only [Option.bind_some]
    by_cases h2 : turn.tdiv (n : Int) % 2 = 1
    · rw [if_pos h2, if_pos ⟨h, h2⟩, show wrap64 ((n : Int) - 1) = (n : Int) - 1 by unfold wrap64; omega]
      exact ⟨_, ⟨rfl, rfl⟩, by omega, by omega⟩
    · rw [if_neg h2, if_neg (fun hh => h2 hh.2)]
      exact ⟨_, ⟨rfl, rfl⟩, by omega, by omega⟩
  · rw [if_neg h, if_neg (fun hh => h hh.1)]
    exact ⟨_, ⟨rfl, rfl⟩, by omega, by omega⟩

theorem set_l1_T (n : Nat) (turn u r : Int) (hn : 1 ≤ n ∧ n ≤ 6) (hu : cadencyref04_turns.f (n : Int) turn = some u) (hu0 : 0 ≤ u ∧ u ≤ 6) (hr : cadencyref04_rest.f turn (n : Int) = some r) (hr0 : 0 ≤ r ∧ r < n) :
    ∀ (d i : Nat) (pre xs : List S29), n - i = d → pre.length = i → pre.length + xs.length = n → ∀ k, d + 1 ≤ k →
      cadencyref04_SetT.l1 k turn (pre ++ xs) (n : Int) (i : Int) = some (pre ++ prios u r n i xs) := by
  intro d
  induction d with
  | zero =>
    intro i pre xs hd hp hl k hk
    obtain ⟨k, rfl⟩ : ∃ m, k = m + 1 := ⟨k - 1, by omega⟩
    obtain rfl : xs = [] := List.length_eq_zero_iff.1 (by omega)
    rw [cadencyref04_SetT.l1, if_neg (by omega)]
    rfl
  | succ d ih =>
    intro i pre xs hd hp hl k hk
    obtain ⟨k, rfl⟩ : ∃ m, k = m + 1 := ⟨k - 1, by omega⟩
    match xs, hl with
    | [], hl => simp at hl; omega
    | x :: xs, hl =>
      have hx : (pre ++ x :: xs)[i]? = some x := by rw [List.getElem?_append_right (by omega), hp, Nat.sub_self]; rfl
      have hset : (pre ++ x :: xs).set i (prioAt u r n i x) = (pre ++ [prioAt u r n i x]) ++ xs := by
        rw [List.set_append_right _ _ (by omega), hp, Nat.sub_self]
        simp
      have hm := mod_in ((i : Int) * u + r) (n : Int) (by omega)
      have hiu : 0 ≤ (i : Int) * u ∧ (i : Int) * u ≤ 36 := by
        have h5 : (i : Int) ≤ 6 := by omega
        constructor
        · exact Int.mul_nonneg (by omega) hu0.1
        · calc (i : Int) * u ≤ 6 * 6 := Int.mul_le_mul h5 hu0.2 hu0.1 (by omega)
            _ = 36 := rfl
      have hlen : (pre ++ x :: xs).length = n := by simpa using hl
      rw [cadencyref04_SetT.l1, if_pos (by omega), hu]
      simp only [Option.bind_some]
      rw [hr]
      simp only [Option.bind_some]
      rw [if_neg (by omega), if_pos (by omega), if_pos (by rw [hlen]; omega), rd46 _ i x hx]
      rw [show wrap64 ((i : Int) * u) = (i : Int) * u by unfold wrap64; omega, show wrap64 ((i : Int) * u + r) = (i : Int) * u + r by unfold wrap64; omega, Int.tmod_eq_emod_of_nonneg (by omega), show wrap64 (1 + ((i : Int) * u + r) % (n : Int)) = 1 + ((i : Int) * u + r) % (n : Int) by unfold wrap64; omega, show wrap64 ((i : Int) + 1) = ((i + 1 : Nat) : Int) by unfold wrap64; omega]
      rw [show ((i : Int)).toNat = i by omega]
      have := ih (i + 1) (pre ++ [prioAt u r n i x]) xs (by omega) (by simp [hp]) (by simp at hl ⊢; omega) k (by omega)
      rw [show (⟨x.f0, x.f1, x.f2, x.f3, x.f4, x.f5, 1 + ((i : Int) * u + r) % (n : Int)⟩ : S29) = prioAt u r n i x from rfl, hset, this]
      simp [prios]
theorem set_l1_F (n : Nat) (turn u r : Int) (hn : 1 ≤ n ∧ n ≤ 6) (hu : cadencyref04_turns.f (n : Int) turn = some u) (hu0 : 0 ≤ u ∧ u ≤ 6) (hr : cadencyref04_rest.f turn (n : Int) = some r) (hr0 : 0 ≤ r ∧ r < n) :
    ∀ (d i : Nat) (pre xs : List S29), n - i = d → pre.length = i → pre.length + xs.length = n → ∀ k, d + 1 ≤ k →
      cadencyref04_SetF.l1 k turn (pre ++ xs) (n : Int) (i : Int) = some (pre ++ prios u r n i xs) := by
  intro d
  induction d with
  | zero =>
    intro i pre xs hd hp hl k hk
    obtain ⟨k, rfl⟩ : ∃ m, k = m + 1 := ⟨k - 1, by omega⟩
    obtain rfl : xs = [] := List.length_eq_zero_iff.1 (by omega)
    rw [cadencyref04_SetF.l1, if_neg (by omega)]
    rfl
  | succ d ih =>
    intro i pre xs hd hp hl k hk
    obtain ⟨k, rfl⟩ : ∃ m, k = m + 1 := ⟨k - 1, by omega⟩
    match xs, hl with
    | [], hl => simp at hl; omega
    | x :: xs, hl =>
      have hx : (pre ++ x :: xs)[i]? = some x := by rw [List.getElem?_append_right (by omega), hp, Nat.sub_self]; rfl
      have hset : (pre ++ x :: xs).set i (prioAt u r n i x) = (pre ++ [prioAt u r n i x]) ++ xs := by
        rw [List.set_append_right _ _ (by omega), hp, Nat.sub_self]
        simp
      have hm := mod_in ((i : Int) * u + r) (n : Int) (by omega)
      have hiu : 0 ≤ (i : Int) * u ∧ (i : Int) * u ≤ 36 := by
        have h5 : (i : Int) ≤ 6 := by omega
        constructor
        · exact Int.mul_nonneg (by omega) hu0.1
        · calc (i : Int) * u ≤ 6 * 6 := Int.mul_le_mul h5 hu0.2 hu0.1 (by omega)
            _ = 36 := rfl
      have hlen : (pre ++ x :: xs).length = n := by simpa using hl
      rw [cadencyref04_SetF.l1, if_pos (by omega), hu]
      simp only [Option.bind_some]
      rw [hr]
      simp only [Option.bind_some]
      rw [if_neg (by omega), if_pos (by omega), if_pos (by rw [hlen]; omega), rd46 _ i x hx]
      rw [show wrap64 ((i : Int) * u) = (i : Int) * u by unfold wrap64; omega, show wrap64 ((i : Int) * u + r) = (i : Int) * u + r by unfold wrap64; omega, Int.tmod_eq_emod_of_nonneg (by omega), show wrap64 (1 + ((i : Int) * u + r) % (n : Int)) = 1 + ((i : Int) * u + r) % (n : Int) by unfold wrap64; omega, show wrap64 ((i : Int) + 1) = ((i + 1 : Nat) : Int) by unfold wrap64; omega]
      rw [show ((i : Int)).toNat = i by omega]
      have := ih (i + 1) (pre ++ [prioAt u r n i x]) xs (by omega) (by simp [hp]) (by simp at hl ⊢; omega) k (by omega)
      rw [show (⟨x.f0, x.f1, x.f2, x.f3, x.f4, x.f5, 1 + ((i : Int) * u + r) % (n : Int)⟩ : S29) = prioAt u r n i x from rfl, hset, this]
      simp [prios]
theorem set_l0_Tm (m : Nat) (hm1 : 1 ≤ m) (hm5 : m ≤ 6) (l : List S43) (turn : Int) : ∀ (d i : Nat) (acc : List S29), m - i = d → i ≤ m → acc.length = i → i ≤ l.length → 1 ≤ min l.length m → ∀ k, 2 * d + 10 ≤ k →
    ∃ k', 7 ≤ k' ∧ cadencyref04_SetT.l0 k l (m : Int) turn acc i = cadencyref04_SetT.l1 k' turn (acc ++ ones i ((l.take m).drop i)) (((acc ++ ones i ((l.take m).drop i)).length : Nat) : Int) 0 := by
  intro d
  induction d with
  | zero =>
    intro i acc hd hi ha hl h1 k hk
    obtain ⟨k, rfl⟩ : ∃ m, k = m + 1 + 1 := ⟨k - 2, by omega⟩
    have hdr : (l.take m).drop i = [] := List.drop_eq_nil_of_le (by simp; omega)
    rw [hdr]
    simp only [ones, List.append_nil]
    refine ⟨k, by omega, ?_⟩
    rw [cadencyref04_SetT.l0]
    by_cases h : (i : Int) < (l.length : Int)
    · rw [if_pos h, decide_eq_false (show ¬ (i : Int) < (m : Int) by omega), cadencyref04_SetT.j1, if_neg (by decide)]
    · rw [if_neg h, cadencyref04_SetT.j1, if_neg (by decide)]
  | succ d ih =>
    intro i acc hd hi ha hl h1 k hk
    obtain ⟨k, rfl⟩ : ∃ m, k = m + 1 + 1 := ⟨k - 2, by omega⟩
    by_cases hlt : i < l.length
    · obtain ⟨x, hx⟩ : ∃ x, l[i]? = some x := ⟨_, List.getElem?_eq_getElem hlt⟩
      have hdr : (l.take m).drop i = x :: (l.take m).drop (i + 1) := by
        rw [List.drop_eq_getElem_cons (by simp; omega)]
        rw [List.getElem?_eq_getElem hlt] at hx
        injection hx with hx
        simp [hx]
      obtain ⟨k', hk', e⟩ := ih (i + 1) (acc ++ [oneSet i x]) (by omega) (by omega) (by simp [ha]) (by omega) h1 k (by omega)
      refine ⟨k', hk', ?_⟩
      rw [hdr]
      simp only [ones]
      rw [show acc ++ oneSet i x :: ones (i + 1) ((l.take m).drop (i + 1)) = (acc ++ [oneSet i x]) ++ ones (i + 1) ((l.take m).drop (i + 1)) by simp, ← e]
      have hc := mod_in x.f0 4 (by omega)
      have hd2 := mod_in x.f1 11 (by omega)
      have ht := mod_in x.f4 7 (by omega)
      have hj := mod_in x.f2 (1 + x.f0 % 4 + x.f1 % 11 - (1 + x.f0 % 4) + 1) (by omega)
      have hq := mod_in x.f3 (1 + x.f0 % 4) (by omega)
      rw [cadencyref04_SetT.l0, if_pos (by omega), decide_eq_true (show (i : Int) < (m : Int) by omega), cadencyref04_SetT.j1, if_pos rfl, if_pos (by omega), if_pos (by omega), rd52 l i x hx]
      rw [rest4 x.f0 4 (by omega) (by omega)]
      simp only [Option.bind_some]
      rw [rest4 x.f1 11 (by omega) (by omega)]
      simp only [Option.bind_some]
      rw [show wrap64 (1 + x.f0 % 4) = 1 + x.f0 % 4 by unfold wrap64; omega, show wrap64 (1 + x.f0 % 4 + x.f1 % 11) = 1 + x.f0 % 4 + x.f1 % 11 by unfold wrap64; omega,
        show wrap64 (1 + x.f0 % 4 + x.f1 % 11 - (1 + x.f0 % 4)) = 1 + x.f0 % 4 + x.f1 % 11 - (1 + x.f0 % 4) by unfold wrap64; omega,
        show wrap64 (1 + x.f0 % 4 + x.f1 % 11 - (1 + x.f0 % 4) + 1) = 1 + x.f0 % 4 + x.f1 % 11 - (1 + x.f0 % 4) + 1 by unfold wrap64; omega, rest4 x.f2 _ (by omega) (by omega)]
      simp only [Option.bind_some]
      rw [rest4 x.f4 7 (by omega) (by omega)]
      simp only [Option.bind_some]
      rw [rest4 x.f3 _ (by omega) (by omega)]
      simp only [Option.bind_some]
      rw [if_pos (by rw [size_nums]; simp), if_pos (by omega),
        show wrap64 (1 + x.f0 % 4 + x.f1 % 11 + x.f4 % 7) = 1 + x.f0 % 4 + x.f1 % 11 + x.f4 % 7 by unfold wrap64; omega, show wrap64 (1 + x.f3 % (1 + x.f0 % 4)) = 1 + x.f3 % (1 + x.f0 % 4) by unfold wrap64; omega,
        show wrap64 ((i : Int) + 1) = ((i + 1 : Nat) : Int) by unfold wrap64; omega, show wrap64 (97 + (i : Int)) = 97 + (i : Int) by unfold wrap64; omega]
      rfl
    · have hdr : (l.take m).drop i = [] := List.drop_eq_nil_of_le (by simp; omega)
      rw [hdr]
      simp only [ones, List.append_nil]
      refine ⟨k, by omega, ?_⟩
      rw [cadencyref04_SetT.l0, if_neg (by omega), cadencyref04_SetT.j1, if_neg (by decide)]
theorem set_all_Tm (m : Nat) (hm1 : 1 ≤ m) (hm5 : m ≤ 6) (l : List S43) (turn : Int) (hl : 1 ≤ l.length) : ∀ k, 30 ≤ k → cadencyref04_SetT.l0 k l (m : Int) turn [] 0 = some (setL (l.take m) turn) := by
  intro k hk
  obtain ⟨k', hk', e⟩ := set_l0_Tm m hm1 hm5 l turn m 0 [] rfl (by omega) rfl (by omega) (by omega) k (by omega)
  rw [List.nil_append, List.drop_zero] at e
  have hlen := ones_length (l.take m) 0
  have hm : (l.take m).length = min m l.length := by simp
  obtain ⟨u, hu, hu0⟩ := turns_some ((ones 0 (l.take m)).length) turn (by omega) (by omega)
  have hr := rest4 turn ((ones 0 (l.take m)).length : Int) (by omega) (by omega)
  have hr0 := mod_in turn ((ones 0 (l.take m)).length : Int) (by omega)
  have := set_l1_T (ones 0 (l.take m)).length turn u _ (by omega) hu.1 hu0 hr hr0 (ones 0 (l.take m)).length 0 [] (ones 0 (l.take m)) (by omega) rfl (by simp) k' (by omega)
  have e0 : ((0 : Nat) : Int) = 0 := rfl
  rw [e0] at e this
  rw [e]
  rw [List.nil_append] at this
  rw [this]
  unfold setL
  rw [show (l.take m).take 6 = l.take m from by rw [List.take_take]; congr 1; omega]
  rw [hu.2]
  rfl
theorem set_l0_Fm (m : Nat) (hm1 : 1 ≤ m) (hm5 : m ≤ 6) (l : List S43) (turn : Int) : ∀ (d i : Nat) (acc : List S29), m - i = d → i ≤ m → acc.length = i → i ≤ l.length → 1 ≤ min l.length m → ∀ k, 2 * d + 10 ≤ k →
    ∃ k', 7 ≤ k' ∧ cadencyref04_SetF.l0 k l (m : Int) turn acc i = cadencyref04_SetF.l1 k' turn (acc ++ ones i ((l.take m).drop i)) (((acc ++ ones i ((l.take m).drop i)).length : Nat) : Int) 0 := by
  intro d
  induction d with
  | zero =>
    intro i acc hd hi ha hl h1 k hk
    obtain ⟨k, rfl⟩ : ∃ m, k = m + 1 + 1 := ⟨k - 2, by omega⟩
    have hdr : (l.take m).drop i = [] := List.drop_eq_nil_of_le (by simp; omega)
    rw [hdr]
    simp only [ones, List.append_nil]
    refine ⟨k, by omega, ?_⟩
    rw [cadencyref04_SetF.l0]
    by_cases h : (i : Int) < (l.length : Int)
    · rw [if_pos h, decide_eq_false (show ¬ (i : Int) < (m : Int) by omega), cadencyref04_SetF.j1, if_neg (by decide)]
    · rw [if_neg h, cadencyref04_SetF.j1, if_neg (by decide)]
  | succ d ih =>
    intro i acc hd hi ha hl h1 k hk
    obtain ⟨k, rfl⟩ : ∃ m, k = m + 1 + 1 := ⟨k - 2, by omega⟩
    by_cases hlt : i < l.length
    · obtain ⟨x, hx⟩ : ∃ x, l[i]? = some x := ⟨_, List.getElem?_eq_getElem hlt⟩
      have hdr : (l.take m).drop i = x :: (l.take m).drop (i + 1) := by
        rw [List.drop_eq_getElem_cons (by simp; omega)]
        rw [List.getElem?_eq_getElem hlt] at hx
        injection hx with hx
        simp [hx]
      obtain ⟨k', hk', e⟩ := ih (i + 1) (acc ++ [oneSet i x]) (by omega) (by omega) (by simp [ha]) (by omega) h1 k (by omega)
      refine ⟨k', hk', ?_⟩
      rw [hdr]
      simp only [ones]
      rw [show acc ++ oneSet i x :: ones (i + 1) ((l.take m).drop (i + 1)) = (acc ++ [oneSet i x]) ++ ones (i + 1) ((l.take m).drop (i + 1)) by simp, ← e]
      have hc := mod_in x.f0 4 (by omega)
      have hd2 := mod_in x.f1 11 (by omega)
      have ht := mod_in x.f4 7 (by omega)
      have hj := mod_in x.f2 (1 + x.f0 % 4 + x.f1 % 11 - (1 + x.f0 % 4) + 1) (by omega)
      have hq := mod_in x.f3 (1 + x.f0 % 4) (by omega)
      rw [cadencyref04_SetF.l0, if_pos (by omega), decide_eq_true (show (i : Int) < (m : Int) by omega), cadencyref04_SetF.j1, if_pos rfl, if_pos (by omega), if_pos (by omega), rd52 l i x hx]
      rw [rest4 x.f0 4 (by omega) (by omega)]
      simp only [Option.bind_some]
      rw [rest4 x.f1 11 (by omega) (by omega)]
      simp only [Option.bind_some]
      rw [show wrap64 (1 + x.f0 % 4) = 1 + x.f0 % 4 by unfold wrap64; omega, show wrap64 (1 + x.f0 % 4 + x.f1 % 11) = 1 + x.f0 % 4 + x.f1 % 11 by unfold wrap64; omega,
        show wrap64 (1 + x.f0 % 4 + x.f1 % 11 - (1 + x.f0 % 4)) = 1 + x.f0 % 4 + x.f1 % 11 - (1 + x.f0 % 4) by unfold wrap64; omega,
        show wrap64 (1 + x.f0 % 4 + x.f1 % 11 - (1 + x.f0 % 4) + 1) = 1 + x.f0 % 4 + x.f1 % 11 - (1 + x.f0 % 4) + 1 by unfold wrap64; omega, rest4 x.f2 _ (by omega) (by omega)]
      simp only [Option.bind_some]
      rw [rest4 x.f4 7 (by omega) (by omega)]
      simp only [Option.bind_some]
      rw [rest4 x.f3 _ (by omega) (by omega)]
      simp only [Option.bind_some]
      rw [if_pos (by rw [size_nums]; simp), if_pos (by omega),
        show wrap64 (1 + x.f0 % 4 + x.f1 % 11 + x.f4 % 7) = 1 + x.f0 % 4 + x.f1 % 11 + x.f4 % 7 by unfold wrap64; omega, show wrap64 (1 + x.f3 % (1 + x.f0 % 4)) = 1 + x.f3 % (1 + x.f0 % 4) by unfold wrap64; omega,
        show wrap64 ((i : Int) + 1) = ((i + 1 : Nat) : Int) by unfold wrap64; omega, show wrap64 (97 + (i : Int)) = 97 + (i : Int) by unfold wrap64; omega]
      rfl
    · have hdr : (l.take m).drop i = [] := List.drop_eq_nil_of_le (by simp; omega)
      rw [hdr]
      simp only [ones, List.append_nil]
      refine ⟨k, by omega, ?_⟩
      rw [cadencyref04_SetF.l0, if_neg (by omega), cadencyref04_SetF.j1, if_neg (by decide)]
theorem set_all_Fm (m : Nat) (hm1 : 1 ≤ m) (hm5 : m ≤ 6) (l : List S43) (turn : Int) (hl : 1 ≤ l.length) : ∀ k, 30 ≤ k → cadencyref04_SetF.l0 k l (m : Int) turn [] 0 = some (setL (l.take m) turn) := by
  intro k hk
  obtain ⟨k', hk', e⟩ := set_l0_Fm m hm1 hm5 l turn m 0 [] rfl (by omega) rfl (by omega) (by omega) k (by omega)
  rw [List.nil_append, List.drop_zero] at e
  have hlen := ones_length (l.take m) 0
  have hm : (l.take m).length = min m l.length := by simp
  obtain ⟨u, hu, hu0⟩ := turns_some ((ones 0 (l.take m)).length) turn (by omega) (by omega)
  have hr := rest4 turn ((ones 0 (l.take m)).length : Int) (by omega) (by omega)
  have hr0 := mod_in turn ((ones 0 (l.take m)).length : Int) (by omega)
  have := set_l1_F (ones 0 (l.take m)).length turn u _ (by omega) hu.1 hu0 hr hr0 (ones 0 (l.take m)).length 0 [] (ones 0 (l.take m)) (by omega) rfl (by simp) k' (by omega)
  have e0 : ((0 : Nat) : Int) = 0 := rfl
  rw [e0] at e this
  rw [e]
  rw [List.nil_append] at this
  rw [this]
  unfold setL
  rw [show (l.take m).take 6 = l.take m from by rw [List.take_take]; congr 1; omega]
  rw [hu.2]
  rfl
def setOf (l : List S43) (turn : Int) : List S29 := setL (if l.length = 0 then [⟨turn, 0, 0, 0, 0⟩] else l) turn
theorem set_some_m (m : Nat) (hm1 : 1 ≤ m) (hm5 : m ≤ 6) (l : List S43) (turn : Int) : Ev (fun k => cadencyref04_Set.f k l (m : Int) turn) (setOf (l.take m) turn) := by
  refine ⟨30, fun k hk => ?_⟩
  show cadencyref04_Set.f k l (m : Int) turn = _
  unfold cadencyref04_Set.f setOf
  by_cases h : l.length = 0
  · have hl : l = [] := List.length_eq_zero_iff.1 h
    subst hl
    rw [if_pos (by simp)]
    unfold cadencyref04_SetT.f
    rw [if_pos (by simp)]
    rw [set_all_Tm m hm1 hm5 _ turn (by simp) k hk]
    congr 2
    simp
    rw [List.take_of_length_le (by simpa using hm1)]
  · rw [if_neg (by omega)]
    unfold cadencyref04_SetF.f
    rw [if_neg (by omega), if_neg (by rw [List.length_take]; omega)]
    exact set_all_Fm m hm1 hm5 _ turn (by omega) k hk
theorem prios_ok (u r : Int) (n : Nat) (hn : 1 ≤ n ∧ n ≤ 6) : ∀ (xs : List S29) (i : Nat), (∀ x ∈ xs, x.f0.size ≤ 2) → ∀ y ∈ prios u r n i xs, y.f0.size ≤ 2 ∧ 1 ≤ y.f6 ∧ y.f6 ≤ 6
  | [], _, _ => by simp [prios]
  | x :: xs, i, h => by
    intro y hy
    simp only [prios, List.mem_cons] at hy
    rcases hy with rfl | hy
    · have hm := mod_in ((i : Int) * u + r) (n : Int) (by omega)
      refine ⟨h x (by simp), ?_, ?_⟩
      · show 1 ≤ 1 + ((i : Int) * u + r) % (n : Int); omega
      · show 1 + ((i : Int) * u + r) % (n : Int) ≤ 6; omega
    · exact prios_ok u r n hn xs (i + 1) (fun x hx => h x (by simp [hx])) y hy
theorem ones_ok : ∀ (xs : List S43) (i : Nat), ∀ x ∈ ones i xs, x.f0.size ≤ 2
  | [], _ => by simp [ones]
  | y :: xs, i => by
    intro x hx
    simp only [ones, List.mem_cons] at hx
    rcases hx with rfl | hx
    · show (nmOf i).size ≤ 2
      unfold nmOf
      rw [ByteArray.size_append, size_nums]
      decide
    · exact ones_ok xs (i + 1) x hx
theorem setL_ok (l : List S43) (turn : Int) (hl : 1 ≤ l.length) : ∀ y ∈ setL l turn, y.f0.size ≤ 2 ∧ 1 ≤ y.f6 ∧ y.f6 ≤ 6 := by
  unfold setL
  have hlen := ones_length (l.take 6) 0
  have hm : (l.take 6).length = min 6 l.length := by simp
  exact prios_ok _ _ _ (by omega) _ 0 (ones_ok _ 0)
theorem setOf_ok (l : List S43) (turn : Int) : ∀ y ∈ setOf l turn, y.f0.size ≤ 2 ∧ 1 ≤ y.f6 ∧ y.f6 ≤ 6 := by
  unfold setOf
  refine setL_ok _ turn ?_
  split
  · simp
  · omega
theorem ones_get : ∀ (xs : List S43) (i k : Nat), (ones i xs)[k]? = xs[k]?.map (oneSet (i + k))
  | [], _, _ => by simp [ones]
  | x :: xs, i, 0 => by simp [ones]
  | x :: xs, i, k + 1 => by
    simp only [ones, List.getElem?_cons_succ]
    rw [ones_get xs (i + 1) k, show i + 1 + k = i + (k + 1) by omega]
theorem prios_get (u r : Int) (n : Nat) : ∀ (xs : List S29) (i k : Nat), (prios u r n i xs)[k]? = xs[k]?.map (prioAt u r n (i + k))
  | [], _, _ => by simp [prios]
  | x :: xs, i, 0 => by simp [prios]
  | x :: xs, i, k + 1 => by
    simp only [prios, List.getElem?_cons_succ]
    rw [prios_get u r n xs (i + 1) k, show i + 1 + k = i + (k + 1) by omega]
theorem prios_length (u r : Int) (n : Nat) : ∀ (xs : List S29) (i : Nat), (prios u r n i xs).length = xs.length
  | [], _ => rfl
  | x :: xs, i => by simp [prios, prios_length u r n xs]
theorem setL_length (l : List S43) (turn : Int) : (setL l turn).length = min 6 l.length := by
  unfold setL
  rw [prios_length, ones_length]
  simp
theorem setOf_length (l : List S43) (turn : Int) : 1 ≤ (setOf l turn).length ∧ (setOf l turn).length ≤ 6 := by
  unfold setOf
  rw [setL_length]
  split
  · simp
  · omega
theorem setL_get (l : List S43) (turn : Int) (k : Nat) (y : S29) (h : (setL l turn)[k]? = some y) : k < 6 ∧ ∃ x, y = prioAt (turnsL (min 6 l.length) turn) (turn % ((min 6 l.length : Nat) : Int)) (min 6 l.length) k (oneSet k x) := by
  have hlen : (ones 0 (l.take 6)).length = min 6 l.length := by rw [ones_length]; simp
  unfold setL at h
  rw [hlen, prios_get, ones_get] at h
  simp only [Nat.zero_add, Option.map_map] at h
  cases hx : (l.take 6)[k]? with
  | none => rw [hx] at h; cases h
  | some x =>
    rw [hx] at h
    have hk : k < (l.take 6).length := by
      rcases Nat.lt_or_ge k (l.take 6).length with h' | h'
      · exact h'
      · rw [List.getElem?_eq_none h'] at hx; cases hx
    refine ⟨by simp at hk; omega, x, ?_⟩
    have : some (prioAt (turnsL (min 6 l.length) turn) (turn % ((min 6 l.length : Nat) : Int)) (min 6 l.length) k (oneSet k x)) = some y := h
    injection this with this
    exact this.symm
theorem word_nm : ∀ k, k < 6 → wordL (nmOf k).data.toList = true := by decide +kernel
theorem nm_ne : ∀ i, i < 6 → ∀ j, j < 6 → i < j → (nmOf i).data ≠ (nmOf j).data := by decide +kernel
theorem nm_size (k : Nat) : (nmOf k).size ≤ 2 := by
  unfold nmOf
  rw [ByteArray.size_append, size_nums]
  decide
theorem check_one (k : Nat) (hk : k < 6) (x : S43) (u r : Int) (n : Nat) (hn : 1 ≤ n ∧ n ≤ 6) : checkE (toT (prioAt u r n k (oneSet k x))) = 0 := by
  have h0 := mod_in x.f0 4 (by omega)
  have h1 := mod_in x.f1 11 (by omega)
  have h4 := mod_in x.f4 7 (by omega)
  have h2 := mod_in x.f2 (1 + x.f0 % 4 + x.f1 % 11 - (1 + x.f0 % 4) + 1) (by omega)
  have h3 := mod_in x.f3 (1 + x.f0 % 4) (by omega)
  have hp := mod_in ((k : Int) * u + r) (n : Int) (by omega)
  have hw := word_nm k hk
  have hs := nm_size k
  have hr : rangesB (toT (prioAt u r n k (oneSet k x))) = true := by
    unfold rangesB inB toT prioAt oneSet
    simp only [Bool.and_eq_true, decide_eq_true_eq]
    refine ⟨⟨⟨⟨⟨⟨⟨⟨⟨hw, by omega⟩, by omega⟩, by omega, by omega⟩, by omega, by omega⟩, by omega, by omega⟩, by omega, by omega⟩, by omega, by omega⟩, by omega⟩, by omega⟩
  have hf : fitsB (toT (prioAt u r n k (oneSet k x))) = true := by
    unfold fitsB toT prioAt oneSet
    simp only [Bool.and_eq_true, decide_eq_true_eq]
    refine ⟨⟨by omega, ?_⟩, by omega⟩
    unfold wrap64
    omega
  unfold checkE
  rw [hr, hf]
  rfl
def prioB : Bool := (List.range 7).all fun n => (List.range n).all fun r => (List.range n).all fun i => (List.range n).all fun j => !(decide (i < j)) || (decide ((i * 1 + r) % n ≠ (j * 1 + r) % n) && (!(decide (2 < n)) || decide ((i * (n - 1) + r) % n ≠ (j * (n - 1) + r) % n)))
theorem prioB_true : prioB = true := by decide +kernel
theorem prio_nat (n : Nat) (hn : n < 7) (r : Nat) (hr : r < n) (i : Nat) (hi : i < n) (j : Nat) (hj : j < n) (hij : i < j) : ((i * 1 + r) % n ≠ (j * 1 + r) % n) ∧ (2 < n → (i * (n - 1) + r) % n ≠ (j * (n - 1) + r) % n) := by
  have h := prioB_true
  unfold prioB at h
  simp only [List.all_eq_true, List.mem_range] at h
  have h2 := h n hn r hr i hi j hj
  rw [decide_eq_true hij] at h2
  simp only [Bool.not_true, Bool.false_or, Bool.and_eq_true, decide_eq_true_eq, Bool.or_eq_true, Bool.not_eq_true', decide_eq_false_iff_not] at h2
  refine ⟨h2.1, fun h3 => ?_⟩
  rcases h2.2 with h4 | h4
  · exact absurd h3 h4
  · exact h4
theorem prio_ne (n i j : Nat) (turn : Int) (hn : 1 ≤ n ∧ n ≤ 6) (hi : i < n) (hj : j < n) (hij : i < j) :
    1 + ((i : Int) * turnsL n turn + turn % (n : Int)) % (n : Int) ≠ 1 + ((j : Int) * turnsL n turn + turn % (n : Int)) % (n : Int) := by
  have hm := mod_in turn (n : Int) (by omega)
  obtain ⟨r, hr⟩ : ∃ r : Nat, turn % (n : Int) = (r : Int) := Int.eq_ofNat_of_zero_le hm.1
  have h := prio_nat n (by omega) r (by omega) i hi j hj hij
  rw [hr]
  unfold turnsL
  split
  · rename_i ht
    have h2 := h.2 (by omega)
    intro e
    apply h2
    have e2 : ((i : Int) * ((n : Int) - 1) + (r : Int)) % (n : Int) = ((j : Int) * ((n : Int) - 1) + (r : Int)) % (n : Int) := by omega
    rw [show ((n : Int) - 1) = ((n - 1 : Nat) : Int) by omega] at e2
    exact_mod_cast e2
  · intro e
    apply h.1
    have e2 : ((i : Int) * 1 + (r : Int)) % (n : Int) = ((j : Int) * 1 + (r : Int)) % (n : Int) := by omega
    exact_mod_cast e2

theorem allFrom_ok : ∀ (xs pre : List Tsk), (∀ x ∈ xs, checkE x = 0) → (pre ++ xs).Pairwise (fun y x => y.nm ≠ x.nm ∧ y.p ≠ x.p) → (allFrom pre xs).2 = 0
  | [], _, _, _ => rfl
  | x :: xs, pre, h, hp => by
    have hx := h x (by simp)
    have hpre : ∀ y ∈ pre, y.nm ≠ x.nm ∧ y.p ≠ x.p := fun y hy => (List.pairwise_append.1 hp).2.2 y hy x (by simp)
    have h1 : pre.any (fun y => decide (y.nm = x.nm)) = false := by
      rw [List.any_eq_false]
      intro y hy
      simp [(hpre y hy).1]
    have h2 : pre.any (fun y => decide (y.p = x.p)) = false := by
      rw [List.any_eq_false]
      intro y hy
      simp [(hpre y hy).2]
    rw [allFrom, if_neg (by simp [hx]), h1, h2]
    simp only [Bool.or_self, Bool.false_eq_true, if_false]
    exact allFrom_ok xs (pre ++ [x]) (fun y hy => h y (by simp [hy])) (by rw [List.append_assoc]; exact hp)
theorem may_setL (l : List S43) (turn : Int) (hl : 1 ≤ l.length) : (checkAllL ((setL l turn).map toT)).2 = 0 := by
  have hlen := setL_length l turn
  unfold checkAllL
  rw [if_neg (by rw [List.length_map]; omega)]
  rw [allFrom_ok]
  · intro y hy
    obtain ⟨z, hz, rfl⟩ := List.mem_map.1 hy
    obtain ⟨k, hk⟩ := List.mem_iff_getElem?.1 hz
    obtain ⟨h5, x, rfl⟩ := setL_get l turn k z hk
    exact check_one k h5 x _ _ _ (by omega)
  · rw [List.nil_append, List.pairwise_iff_getElem]
    intro i j hi hj hij
    rw [List.length_map] at hi hj
    obtain ⟨hi5, x, hx⟩ := setL_get l turn i _ (List.getElem?_eq_getElem hi)
    obtain ⟨hj5, z, hz⟩ := setL_get l turn j _ (List.getElem?_eq_getElem hj)
    rw [List.getElem_map, List.getElem_map, hx, hz]
    constructor
    · intro e
      exact nm_ne i hi5 j hj5 hij (congrArg ByteArray.data e)
    · exact prio_ne (min 6 l.length) i j turn (by omega) (by omega) (by omega) hij
theorem may_set (l : List S43) (turn : Int) : (checkAllL ((setOf l turn).map toT)).2 = 0 := by
  unfold setOf
  refine may_setL _ turn ?_
  split
  · simp
  · omega
end Go.Proofs.YtefdcjmfbjlinaaDoor.A
