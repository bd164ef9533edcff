/- The laws of what is printed, plain: printed tasks are read back; what is parsed, printed and parsed again is the same. -/
import Derived.Test.YtefdcjmfbjlinaaDoorPlx2
import Derived.Test.YtefdcjmfbjlinaaDoorPsame
import Derived.Test.YtefdcjmfbjlinaaDoorGivP
import Derived.Test.YtefdcjmfbjlinaaDoorAx9
import Derived.Test.YtefdcjmfbjlinaaDoorAx11
set_option linter.unusedVariables false
set_option linter.unusedSimpArgs false
namespace Go.Proofs.YtefdcjmfbjlinaaDoor.A
open Go.RowKit Go.Proofs.YtefdcjmfbjlinaaDoorW.PrintWords Go.Proofs.YtefdcjmfbjlinaaDoorW.PrintLast Go.Proofs.YtefdcjmfbjlinaaDoorW.PrintMore Go.Proofs.YtefdcjmfbjlinaaDoor.Sc

theorem dec_dig (n : Nat) : Lib.decDigits n = dig n := by
  induction n using Nat.strongRecOn with
  | ind n ih =>
  rw [Lib.decDigits, dig]
  by_cases h : n < 10
  · rw [dif_pos h, if_pos h]
  · rw [dif_neg h, if_neg h, ih (n / 10) (by omega)]
theorem itoa_dig {n : Int} (h : 0 ≤ n) : Lib.itoa n = dig n.toNat := by
  unfold Lib.itoa
  rw [if_neg (by omega), dec_dig]
structure NonNeg (x : Tsk) : Prop where
  c : 0 ≤ x.c
  t : 0 ≤ x.t
  d : 0 ≤ x.d
  j : 0 ≤ x.j
  q : 0 ≤ x.q
  p : 0 ≤ x.p
theorem lineS_list {x : Tsk} (h : NonNeg x) : (lineS x).data.toList = lineL x := by
  unfold lineS
  rw [data_app]
  simp only
  rw [join_eq, itoa_dig h.c, itoa_dig h.t, itoa_dig h.d, itoa_dig h.j, itoa_dig h.q, itoa_dig h.p]
  unfold lineL
  simp only [fldsN, fldB, List.flatMap_cons, List.flatMap_nil, List.append_nil, List.append_assoc, List.cons_append, List.nil_append]
  rfl
theorem ba_ext {a b : ByteArray} (h : a.data.toList = b.data.toList) : a = b := by
  apply ByteArray.ext
  exact Array.toList_inj.1 h
theorem printS_B : ∀ xs : List S29, (∀ x ∈ xs, NonNeg (toT x)) → printS (xs.map toT) = printB xs
  | [], _ => rfl
  | x :: xs, h => by
    have h1 := printS_B xs (fun y hy => h y (by simp [hy]))
    have h2 : lineS (toT x) = lineB x := ba_ext (by rw [lineS_list (h x (by simp)), lineB_list])
    simp only [List.map_cons, printS, printB, h1, h2]
theorem good_nn {x : Tsk} (h : GoodT x) : NonNeg x := ⟨h.c.1, h.t.1, h.d.1, h.j.1, h.q.1, h.p.1⟩
theorem good_wide {x : S29} (h : GoodT (toT x)) : wideB x = true := by
  obtain ⟨_, h0, h1, h2, h3, h4, h5, h6⟩ := h
  simp only [toT] at h0 h1 h2 h3 h4 h5 h6
  unfold wideB i64B
  simp only [Bool.and_eq_true, decide_eq_true_eq]
  omega
/-- text.Print of tasks that may be. -/
theorem textPrint_some (xs : List S29) (hl : xs.length ≤ 10000) (h : ∀ x ∈ xs, GoodT (toT x)) : text_Print.f xs = some (printB xs) := by
  unfold text_Print.f
  rw [if_pos (by
    rw [Bool.and_eq_true, decide_eq_true_eq, List.all_eq_true]
    exact ⟨hl, fun x hx => good_wide (h x hx)⟩), printS_B xs (fun x hx => good_nn (h x hx))]
theorem tskS_toT (xs : List S29) : (xs.map toT).map tskS = xs := by
  rw [List.map_map]
  exact List.map_id xs
theorem set_good (l : List S43) (turn : Int) : ∀ x ∈ setOf l turn, GoodT (toT x) := fun x hx => all_good (may_set l turn) (toT x) (List.mem_map.2 ⟨x, hx, rfl⟩)
theorem printB_app : ∀ (a b : List S29), printB (a ++ b) = printB a ++ printB b
  | [], b => by rw [List.nil_append, printB, nil_app]
  | x :: a, b => by simp only [List.cons_append, printB, printB_app a b, ByteArray.append_assoc]
theorem textJoins_some (a b : List S43) (turn : Int) : ∃ k, cadencylaw05_TextJoins.f k a b turn = some true := by
  obtain ⟨K1, k1⟩ := set_some_m 5 (by omega) (by omega) a turn
  obtain ⟨K2, k2⟩ := set_some_m 5 (by omega) (by omega) b turn
  obtain ⟨x, hx⟩ : ∃ x, setOf (a.take 5) turn = x := ⟨_, rfl⟩
  obtain ⟨y, hy⟩ : ∃ y, setOf (b.take 5) turn = y := ⟨_, rfl⟩
  have zx := set_print (a.take 5) turn
  have zy := set_print (b.take 5) turn
  have lx := (setOf_length (a.take 5) turn).2
  have ly := (setOf_length (b.take 5) turn).2
  have gx := set_good (a.take 5) turn
  have gy := set_good (b.take 5) turn
  rw [hx] at k1 zx lx gx
  rw [hy] at k2 zy ly gy
  have gb : ∀ t ∈ x ++ y, GoodT (toT t) := fun t ht => (List.mem_append.1 ht).elim (gx t) (gy t)
  obtain ⟨K3, k3⟩ := same_some (x ++ y) (by simp; omega)
  refine ⟨K1 + K2 + K3, ?_⟩
  obtain ⟨k, hk⟩ : ∃ k, k = K1 + K2 + K3 := ⟨_, rfl⟩
  rw [← hk]
  have k1 := k1 k (by omega)
  have k2 := k2 k (by omega)
  have k3 := k3 k (by omega)
  dsimp only at k1 k2 k3
  rw [show ((5 : Nat) : Int) = 5 from rfl] at k1 k2
  have hr : text_Read.f (printB x ++ printB y) = some (x ++ y, ((printB x ++ printB y).size : Int), 0) := by
    have h := read_print (x ++ y) gb
    rw [printB_app] at h
    unfold text_Read.f
    rw [if_pos (by rw [ByteArray.size_append]; omega), h, tskS_toT]
    rfl
  unfold cadencylaw05_TextJoins.f
  rw [awake_some]
  simp only [Option.bind_some, k1, k2, List.nil_append]
  rw [if_pos (by simp only [List.length_nil]; omega), if_pos (by omega)]
  simp only [textPrint_some x (by omega) gx, textPrint_some y (by omega) gy, textPrint_some (x ++ y) (by simp; omega) gb, Option.bind_some, hr, k3, printB_app]
  rw [if_pos (by omega)]
  simp
end Go.Proofs.YtefdcjmfbjlinaaDoor.A
