/- Sets by numbers, of fewer tasks, in plain Lean. -/
import Derived.Test.YtcdmgalhboijcaaPvalid
set_option linter.unusedVariables false
set_option linter.unusedSimpArgs false
namespace Go.Proofs.Ytcdmgalhboijcaa.Pu
open Go.RowKit Go.Proofs.Ytcdmgalhboijcaa.D Go.Proofs.YtcdmgalhboijcaaW.PrintWords Go.Proofs.YtcdmgalhboijcaaW.PrintLast Go.Proofs.Ytcdmgalhboijcaa.Sc

theorem set_l0_Tm (m : Nat) (hm1 : 1 ≤ m) (hm5 : m ≤ 5) (l : List S52) (turn : Int) : ∀ (d i : Nat) (acc : List S46), m - i = d → i ≤ m → acc.length = i → i ≤ l.length → 1 ≤ min l.length m → ∀ k, 2 * d + 10 ≤ k →
    ∃ k', 6 ≤ k' ∧ cadencyref04_SetT.l0 k l (m : Int) turn acc i = cadencyref04_SetT.l1 k' turn (acc ++ ones i ((l.take m).drop i)) (((acc ++ ones i ((l.take m).drop i)).length : Nat) : Int) 0 := by
  intro d
  induction d with
  | zero =>
    intro i acc hd hi ha hl h1 k hk
    obtain ⟨k, rfl⟩ : ∃ m, k = m + 1 + 1 := ⟨k - 2, by omega⟩
    have hdr : (l.take m).drop i = [] := List.drop_eq_nil_of_le (by simp; omega)
    rw [hdr]
    simp only [ones, List.append_nil]
    refine ⟨k, by omega, ?_⟩
    rw [cadencyref04_SetT.l0]
    by_cases h : (i : Int) < (l.length : Int)
    · rw [if_pos h, decide_eq_false (show ¬ (i : Int) < (m : Int) by omega), cadencyref04_SetT.j1, if_neg (by decide)]
    · rw [if_neg h, cadencyref04_SetT.j1, if_neg (by decide)]
  | succ d ih =>
    intro i acc hd hi ha hl h1 k hk
    obtain ⟨k, rfl⟩ : ∃ m, k = m + 1 + 1 := ⟨k - 2, by omega⟩
    by_cases hlt : i < l.length
    · obtain ⟨x, hx⟩ : ∃ x, l[i]? = some x := ⟨_, List.getElem?_eq_getElem hlt⟩
      have hdr : (l.take m).drop i = x :: (l.take m).drop (i + 1) := by
        rw [List.drop_eq_getElem_cons (by simp; omega)]
        rw [List.getElem?_eq_getElem hlt] at hx
        injection hx with hx
        simp [hx]
      obtain ⟨k', hk', e⟩ := ih (i + 1) (acc ++ [oneSet i x]) (by omega) (by omega) (by simp [ha]) (by omega) h1 k (by omega)
      refine ⟨k', hk', ?_⟩
      rw [hdr]
      simp only [ones]
      rw [show acc ++ oneSet i x :: ones (i + 1) ((l.take m).drop (i + 1)) = (acc ++ [oneSet i x]) ++ ones (i + 1) ((l.take m).drop (i + 1)) by simp, ← e]
      have hc := mod_in x.f0 4 (by omega)
      have hd2 := mod_in x.f1 11 (by omega)
      have ht := mod_in x.f4 7 (by omega)
      have hj := mod_in x.f2 (1 + x.f0 % 4 + x.f1 % 11 - (1 + x.f0 % 4) + 1) (by omega)
      have hq := mod_in x.f3 (1 + x.f0 % 4) (by omega)
      rw [cadencyref04_SetT.l0, if_pos (by omega), decide_eq_true (show (i : Int) < (m : Int) by omega), cadencyref04_SetT.j1, if_pos rfl, if_pos (by omega), if_pos (by omega), rd52 l i x hx]
      rw [rest4 x.f0 4 (by omega) (by omega)]
      simp only [Option.bind_some]
      rw [rest4 x.f1 11 (by omega) (by omega)]
      simp only [Option.bind_some]
      rw [show wrap64 (1 + x.f0 % 4) = 1 + x.f0 % 4 by unfold wrap64; omega, show wrap64 (1 + x.f0 % 4 + x.f1 % 11) = 1 + x.f0 % 4 + x.f1 % 11 by unfold wrap64; omega,
        show wrap64 (1 + x.f0 % 4 + x.f1 % 11 - (1 + x.f0 % 4)) = 1 + x.f0 % 4 + x.f1 % 11 - (1 + x.f0 % 4) by unfold wrap64; omega,
        show wrap64 (1 + x.f0 % 4 + x.f1 % 11 - (1 + x.f0 % 4) + 1) = 1 + x.f0 % 4 + x.f1 % 11 - (1 + x.f0 % 4) + 1 by unfold wrap64; omega, rest4 x.f2 _ (by omega) (by omega)]
      simp only [Option.bind_some]
      rw [rest4 x.f4 7 (by omega) (by omega)]
      simp only [Option.bind_some]
      rw [rest4 x.f3 _ (by omega) (by omega)]
      simp only [Option.bind_some]
      rw [if_pos (by rw [size_nums]; simp), if_pos (by omega),
        show wrap64 (1 + x.f0 % 4 + x.f1 % 11 + x.f4 % 7) = 1 + x.f0 % 4 + x.f1 % 11 + x.f4 % 7 by unfold wrap64; omega, show wrap64 (1 + x.f3 % (1 + x.f0 % 4)) = 1 + x.f3 % (1 + x.f0 % 4) by unfold wrap64; omega,
        show wrap64 ((i : Int) + 1) = ((i + 1 : Nat) : Int) by unfold wrap64; omega, show wrap64 (97 + (i : Int)) = 97 + (i : Int) by unfold wrap64; omega]
      rfl
    · have hdr : (l.take m).drop i = [] := List.drop_eq_nil_of_le (by simp; omega)
      rw [hdr]
      simp only [ones, List.append_nil]
      refine ⟨k, by omega, ?_⟩
      rw [cadencyref04_SetT.l0, if_neg (by omega), cadencyref04_SetT.j1, if_neg (by decide)]
theorem set_all_Tm (m : Nat) (hm1 : 1 ≤ m) (hm5 : m ≤ 5) (l : List S52) (turn : Int) (hl : 1 ≤ l.length) : ∀ k, 20 ≤ k → cadencyref04_SetT.l0 k l (m : Int) turn [] 0 = some (setL (l.take m) turn) := by
  intro k hk
  obtain ⟨k', hk', e⟩ := set_l0_Tm m hm1 hm5 l turn m 0 [] rfl (by omega) rfl (by omega) (by omega) k (by omega)
  rw [List.nil_append, List.drop_zero] at e
  have hlen := ones_length (l.take m) 0
  have hm : (l.take m).length = min m l.length := by simp
  obtain ⟨u, hu, hu0⟩ := turns_some ((ones 0 (l.take m)).length) turn (by omega) (by omega)
  have hr := rest4 turn ((ones 0 (l.take m)).length : Int) (by omega) (by omega)
  have hr0 := mod_in turn ((ones 0 (l.take m)).length : Int) (by omega)
  have := set_l1_T (ones 0 (l.take m)).length turn u _ (by omega) hu.1 hu0 hr hr0 (ones 0 (l.take m)).length 0 [] (ones 0 (l.take m)) (by omega) rfl (by simp) k' (by omega)
  have e0 : ((0 : Nat) : Int) = 0 := rfl
  rw [e0] at e this
  rw [e]
  rw [List.nil_append] at this
  rw [this]
  unfold setL
  rw [show (l.take m).take 5 = l.take m from by rw [List.take_take]; congr 1; omega]
  rw [hu.2]
  rfl
theorem set_l0_Fm (m : Nat) (hm1 : 1 ≤ m) (hm5 : m ≤ 5) (l : List S52) (turn : Int) : ∀ (d i : Nat) (acc : List S46), m - i = d → i ≤ m → acc.length = i → i ≤ l.length → 1 ≤ min l.length m → ∀ k, 2 * d + 10 ≤ k →
    ∃ k', 6 ≤ k' ∧ cadencyref04_SetF.l0 k l (m : Int) turn acc i = cadencyref04_SetF.l1 k' turn (acc ++ ones i ((l.take m).drop i)) (((acc ++ ones i ((l.take m).drop i)).length : Nat) : Int) 0 := by
  intro d
  induction d with
  | zero =>
    intro i acc hd hi ha hl h1 k hk
    obtain ⟨k, rfl⟩ : ∃ m, k = m + 1 + 1 := ⟨k - 2, by omega⟩
    have hdr : (l.take m).drop i = [] := List.drop_eq_nil_of_le (by simp; omega)
    rw [hdr]
    simp only [ones, List.append_nil]
    refine ⟨k, by omega, ?_⟩
    rw [cadencyref04_SetF.l0]
    by_cases h : (i : Int) < (l.length : Int)
    · rw [if_pos h, decide_eq_false (show ¬ (i : Int) < (m : Int) by omega), cadencyref04_SetF.j1, if_neg (by decide)]
    · rw [if_neg h, cadencyref04_SetF.j1, if_neg (by decide)]
  | succ d ih =>
    intro i acc hd hi ha hl h1 k hk
    obtain ⟨k, rfl⟩ : ∃ m, k = m + 1 + 1 := ⟨k - 2, by omega⟩
    by_cases hlt : i < l.length
    · obtain ⟨x, hx⟩ : ∃ x, l[i]? = some x := ⟨_, List.getElem?_eq_getElem hlt⟩
      have hdr : (l.take m).drop i = x :: (l.take m).drop (i + 1) := by
        rw [List.drop_eq_getElem_cons (by simp; omega)]
        rw [List.getElem?_eq_getElem hlt] at hx
        injection hx with hx
        simp [hx]
      obtain ⟨k', hk', e⟩ := ih (i + 1) (acc ++ [oneSet i x]) (by omega) (by omega) (by simp [ha]) (by omega) h1 k (by omega)
      refine ⟨k', hk', ?_⟩
      rw [hdr]
      simp only [ones]
      rw [show acc ++ oneSet i x :: ones (i + 1) ((l.take m).drop (i + 1)) = (acc ++ [oneSet i x]) ++ ones (i + 1) ((l.take m).drop (i + 1)) by simp, ← e]
      have hc := mod_in x.f0 4 (by omega)
      have hd2 := mod_in x.f1 11 (by omega)
      have ht := mod_in x.f4 7 (by omega)
      have hj := mod_in x.f2 (1 + x.f0 % 4 + x.f1 % 11 - (1 + x.f0 % 4) + 1) (by omega)
      have hq := mod_in x.f3 (1 + x.f0 % 4) (by omega)
      rw [cadencyref04_SetF.l0, if_pos (by omega), decide_eq_true (show (i : Int) < (m : Int) by omega), cadencyref04_SetF.j1, if_pos rfl, if_pos (by omega), if_pos (by omega), rd52 l i x hx]
      rw [rest4 x.f0 4 (by omega) (by omega)]
      simp only [Option.bind_some]
      rw [rest4 x.f1 11 (by omega) (by omega)]
      simp only [Option.bind_some]
      rw [show wrap64 (1 + x.f0 % 4) = 1 + x.f0 % 4 by unfold wrap64; omega, show wrap64 (1 + x.f0 % 4 + x.f1 % 11) = 1 + x.f0 % 4 + x.f1 % 11 by unfold wrap64; omega,
        show wrap64 (1 + x.f0 % 4 + x.f1 % 11 - (1 + x.f0 % 4)) = 1 + x.f0 % 4 + x.f1 % 11 - (1 + x.f0 % 4) by unfold wrap64; omega,
        show wrap64 (1 + x.f0 % 4 + x.f1 % 11 - (1 + x.f0 % 4) + 1) = 1 + x.f0 % 4 + x.f1 % 11 - (1 + x.f0 % 4) + 1 by unfold wrap64; omega, rest4 x.f2 _ (by omega) (by omega)]
      simp only [Option.bind_some]
      rw [rest4 x.f4 7 (by omega) (by omega)]
      simp only [Option.bind_some]
      rw [rest4 x.f3 _ (by omega) (by omega)]
      simp only [Option.bind_some]
      rw [if_pos (by rw [size_nums]; simp), if_pos (by omega),
        show wrap64 (1 + x.f0 % 4 + x.f1 % 11 + x.f4 % 7) = 1 + x.f0 % 4 + x.f1 % 11 + x.f4 % 7 by unfold wrap64; omega, show wrap64 (1 + x.f3 % (1 + x.f0 % 4)) = 1 + x.f3 % (1 + x.f0 % 4) by unfold wrap64; omega,
        show wrap64 ((i : Int) + 1) = ((i + 1 : Nat) : Int) by unfold wrap64; omega, show wrap64 (97 + (i : Int)) = 97 + (i : Int) by unfold wrap64; omega]
      rfl
    · have hdr : (l.take m).drop i = [] := List.drop_eq_nil_of_le (by simp; omega)
      rw [hdr]
      simp only [ones, List.append_nil]
      refine ⟨k, by omega, ?_⟩
      rw [cadencyref04_SetF.l0, if_neg (by omega), cadencyref04_SetF.j1, if_neg (by decide)]
theorem set_all_Fm (m : Nat) (hm1 : 1 ≤ m) (hm5 : m ≤ 5) (l : List S52) (turn : Int) (hl : 1 ≤ l.length) : ∀ k, 20 ≤ k → cadencyref04_SetF.l0 k l (m : Int) turn [] 0 = some (setL (l.take m) turn) := by
  intro k hk
  obtain ⟨k', hk', e⟩ := set_l0_Fm m hm1 hm5 l turn m 0 [] rfl (by omega) rfl (by omega) (by omega) k (by omega)
  rw [List.nil_append, List.drop_zero] at e
  have hlen := ones_length (l.take m) 0
  have hm : (l.take m).length = min m l.length := by simp
  obtain ⟨u, hu, hu0⟩ := turns_some ((ones 0 (l.take m)).length) turn (by omega) (by omega)
  have hr := rest4 turn ((ones 0 (l.take m)).length : Int) (by omega) (by omega)
  have hr0 := mod_in turn ((ones 0 (l.take m)).length : Int) (by omega)
  have := set_l1_F (ones 0 (l.take m)).length turn u _ (by omega) hu.1 hu0 hr hr0 (ones 0 (l.take m)).length 0 [] (ones 0 (l.take m)) (by omega) rfl (by simp) k' (by omega)
  have e0 : ((0 : Nat) : Int) = 0 := rfl
  rw [e0] at e this
  rw [e]
  rw [List.nil_append] at this
  rw [this]
  unfold setL
  rw [show (l.take m).take 5 = l.take m from by rw [List.take_take]; congr 1; omega]
  rw [hu.2]
  rfl
theorem set_some_m (m : Nat) (hm1 : 1 ≤ m) (hm5 : m ≤ 5) (l : List S52) (turn : Int) : Ev (fun k => cadencyref04_Set.f k l (m : Int) turn) (setOf (l.take m) turn) := by
  refine ⟨20, fun k hk => ?_⟩
  show cadencyref04_Set.f k l (m : Int) turn = _
  unfold cadencyref04_Set.f setOf
  by_cases h : l.length = 0
  · have hl : l = [] := List.length_eq_zero_iff.1 h
    subst hl
    rw [if_pos (by simp)]
    unfold cadencyref04_SetT.f
    rw [if_pos (by simp)]
    rw [set_all_Tm m hm1 hm5 _ turn (by simp) k hk]
    congr 2
    simp
    rw [List.take_of_length_le (by simpa using hm1)]
  · rw [if_neg (by omega)]
    unfold cadencyref04_SetF.f
    rw [if_neg (by omega), if_neg (by rw [List.length_take]; omega)]
    exact set_all_Fm m hm1 hm5 _ turn (by omega) k hk
def setT3 (l : List S52) (turn : Int) : List Tsk := (setOf (l.take 3) turn).map toT
theorem set_any3 (A : Option Addr) (c : Nat) (l : List S52) (turn : Int) (w : World) (hC : Kd.C k52 w A l.length l) (hc : l.length ≤ c) :
    Calls Try.prog 12 #[.slice A l.length c, .int .i64 3, .int .i64 turn] w fun e w' => ∃ A' c', e = .returned (.slice A' (setT3 l turn).length c') ∧ (setT3 l turn).length ≤ c' ∧ kTsk.C w' A' (setT3 l turn).length (setT3 l turn) ∧ Below w.heap.size w w' := by
  obtain ⟨K, hK⟩ := set_some_m 3 (by omega) (by omega) l turn
  have h := cadencyref04_Set.calls K A c l 3 turn (setOf (l.take 3) turn) w hC hc (hK K (Nat.le_refl _))
  refine h.mono ?_
  rintro e w' ⟨v, rfl, hR, hB⟩
  obtain ⟨A', c', rfl, hc', hC'⟩ := Kd.R_reads hR
  refine ⟨A', c', by unfold setT3; rw [List.length_map], by unfold setT3; rw [List.length_map]; exact hc', ?_, hB⟩
  unfold setT3
  rw [List.length_map]
  exact c_toT hC'
end Go.Proofs.Ytcdmgalhboijcaa.Pu
