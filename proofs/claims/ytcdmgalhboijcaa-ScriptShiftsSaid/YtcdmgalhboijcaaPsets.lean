/- Sets by numbers, and raw jobs cut short, in plain Lean. -/
import Derived.Test.YtcdmgalhboijcaaDx2
import Derived.Test.YtcdmgalhboijcaaGiven
import Derived.Test.YtcdmgalhboijcaaPlast
set_option linter.unusedVariables false
set_option linter.unusedSimpArgs false
namespace Go.Proofs.Ytcdmgalhboijcaa.Pu
open Go.RowKit Go.Proofs.Ytcdmgalhboijcaa.D Go.Proofs.YtcdmgalhboijcaaW.PrintWords Go.Proofs.YtcdmgalhboijcaaW.PrintLast Go.Proofs.Ytcdmgalhboijcaa.Sc

theorem rest_wrap (x n : Int) (h : 0 < n) (hn : n ≤ 4611686018427387904) : Int.tmod (wrap64 ((Int.tmod x n) + n)) n = x % n := by
  have h1 := Int.tmod_lt_of_pos x h
  have h2 : -n < x.tmod n := neg_lt_tmod x n h
  rw [show wrap64 ((Int.tmod x n) + n) = Int.tmod x n + n by unfold wrap64; omega]
  exact rest_val x n h
theorem rest4 (x n : Int) (h : 0 < n) (hn : n ≤ 4611686018427387904) : cadencyref04_rest.f x n = some (x % n) := by
  unfold cadencyref04_rest.f
  rw [if_neg (by omega), rest_wrap x n h hn]
theorem mod_in (x n : Int) (h : 0 < n) : 0 ≤ x % n ∧ x % n < n := ⟨Int.emod_nonneg _ (by omega), Int.emod_lt_of_pos _ h⟩

/-! raw jobs, a few -/
def cut6 (r : S36) : S36 := ⟨r.f0, r.f1, r.f2, r.f3, r.f4.take 6⟩
theorem rd36 (l : List S36) (i : Nat) (r : S36) (h : l[i]? = some r) : rd_T36 l (i : Int) = r := by
  unfold rd_T36
  rw [List.getD_eq_getElem?_getD]
  simp [h]
theorem few_go (l : List S36) : ∀ (d i : Nat) (acc : List S36), 12 - i = d → i ≤ 12 → acc.length = i → i ≤ l.length → ∀ k, 2 * d + 2 ≤ k →
    cadencylaw08_few.l0 k l 12 acc i = some (acc ++ ((l.take 12).drop i).map cut6) := by
  intro d
  induction d with
  | zero =>
    intro i acc hd hi ha hl k hk
    obtain ⟨k, rfl⟩ : ∃ m, k = m + 1 + 1 := ⟨k - 2, by omega⟩
    have hdr : (l.take 12).drop i = [] := List.drop_eq_nil_of_le (by simp; omega)
    rw [hdr]
    simp only [cadencylaw08_few.l0, cadencylaw08_few.j1]
    rw [decide_eq_false (show ¬ (i : Int) < 12 by omega)]
    split <;> simp
  | succ d ih =>
    intro i acc hd hi ha hl k hk
    obtain ⟨k, rfl⟩ : ∃ m, k = m + 1 + 1 := ⟨k - 2, by omega⟩
    by_cases hlt : i < l.length
    · obtain ⟨r, hr⟩ : ∃ r, l[i]? = some r := ⟨_, List.getElem?_eq_getElem hlt⟩
      have hdr : (l.take 12).drop i = r :: (l.take 12).drop (i + 1) := by
        rw [List.drop_eq_getElem_cons (by simp; omega)]
        rw [List.getElem?_eq_getElem hlt] at hr
        injection hr with hr
        simp [hr]
      have hw : wrap64 ((i : Int) + 1) = ((i + 1 : Nat) : Int) := by unfold wrap64; omega
      simp only [cadencylaw08_few.l0, cadencylaw08_few.j1]
      rw [if_pos (show (i : Int) < (l.length : Int) by omega), decide_eq_true (show (i : Int) < 12 by omega), if_pos rfl, if_pos (by omega), if_pos (by omega), rd36 l i r hr, hw, hdr]
      have hn := ih (i + 1) (acc ++ [cut6 r]) (by omega) (by omega) (by simp [ha]) (by omega) k (by omega)
      by_cases h6 : (r.f4.length : Int) > 6
      · rw [if_pos h6, if_pos (by omega), if_pos (by omega)]
        rw [show (⟨r.f0, r.f1, r.f2, r.f3, r.f4.take 6⟩ : S36) = cut6 r from rfl, hn]
        simp
      · rw [if_neg h6, if_pos (by omega)]
        have e : (⟨r.f0, r.f1, r.f2, r.f3, r.f4⟩ : S36) = cut6 r := by
          unfold cut6
          rw [List.take_of_length_le (by omega)]
        rw [e, hn]
        simp
    · have hdr : (l.take 12).drop i = [] := List.drop_eq_nil_of_le (by simp; omega)
      rw [hdr]
      simp only [cadencylaw08_few.l0, cadencylaw08_few.j1]
      rw [if_neg (by omega)]
      simp
def fewL (l : List S36) : List S36 := (l.take 12).map cut6
theorem few_some (l : List S36) : Ev (fun k => cadencylaw08_few.f k l 12) (fewL l) := by
  refine ⟨26, fun k hk => ?_⟩
  unfold cadencylaw08_few.f
  have := few_go l 12 0 [] rfl (by omega) rfl (by omega) k (by omega)
  simpa [fewL] using this
theorem okR_few (l : List S36) : okR (fewL l) = true := by
  unfold okR fewL
  rw [List.all_eq_true]
  intro x hx
  obtain ⟨y, hy, rfl⟩ := List.mem_map.1 hx
  simp only [cut6, decide_eq_true_eq, List.length_take]
  omega
end Go.Proofs.Ytcdmgalhboijcaa.Pu
