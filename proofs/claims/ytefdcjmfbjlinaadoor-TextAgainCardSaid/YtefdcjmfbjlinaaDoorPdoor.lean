/- The laws of what is printed, plain: printed tasks are read back; what is parsed, printed and parsed again is the same. -/
import Derived.Test.YtefdcjmfbjlinaaDoorPlx2
import Derived.Test.YtefdcjmfbjlinaaDoorPsame
import Derived.Test.YtefdcjmfbjlinaaDoorGivP
import Derived.Test.YtefdcjmfbjlinaaDoorAx9
import Derived.Test.YtefdcjmfbjlinaaDoorAx11
set_option linter.unusedVariables false
set_option linter.unusedSimpArgs false
namespace Go.Proofs.YtefdcjmfbjlinaaDoor.A
open Go.RowKit Go.Proofs.YtefdcjmfbjlinaaDoorW.PrintWords Go.Proofs.YtefdcjmfbjlinaaDoorW.PrintLast Go.Proofs.YtefdcjmfbjlinaaDoorW.PrintMore Go.Proofs.YtefdcjmfbjlinaaDoor.Sc

theorem dec_dig (n : Nat) : Lib.decDigits n = dig n := by
  induction n using Nat.strongRecOn with
  | ind n ih =>
  rw [Lib.decDigits, dig]
  by_cases h : n < 10
  · rw [dif_pos h, if_pos h]
  · rw [dif_neg h, if_neg h, ih (n / 10) (by omega)]
theorem itoa_dig {n : Int} (h : 0 ≤ n) : Lib.itoa n = dig n.toNat := by
  unfold Lib.itoa
  rw [if_neg (by omega), dec_dig]
structure NonNeg (x : Tsk) : Prop where
  c : 0 ≤ x.c
  t : 0 ≤ x.t
  d : 0 ≤ x.d
  j : 0 ≤ x.j
  q : 0 ≤ x.q
  p : 0 ≤ x.p
theorem lineS_list {x : Tsk} (h : NonNeg x) : (lineS x).data.toList = lineL x := by
  unfold lineS
  rw [data_app]
  simp only
  rw [join_eq, itoa_dig h.c, itoa_dig h.t, itoa_dig h.d, itoa_dig h.j, itoa_dig h.q, itoa_dig h.p]
  unfold lineL
  simp only [fldsN, fldB, List.flatMap_cons, List.flatMap_nil, List.append_nil, List.append_assoc, List.cons_append, List.nil_append]
  rfl
theorem ba_ext {a b : ByteArray} (h : a.data.toList = b.data.toList) : a = b := by
  apply ByteArray.ext
  exact Array.toList_inj.1 h
theorem printS_B : ∀ xs : List S29, (∀ x ∈ xs, NonNeg (toT x)) → printS (xs.map toT) = printB xs
  | [], _ => rfl
  | x :: xs, h => by
    have h1 := printS_B xs (fun y hy => h y (by simp [hy]))
    have h2 : lineS (toT x) = lineB x := ba_ext (by rw [lineS_list (h x (by simp)), lineB_list])
    simp only [List.map_cons, printS, printB, h1, h2]
theorem good_nn {x : Tsk} (h : GoodT x) : NonNeg x := ⟨h.c.1, h.t.1, h.d.1, h.j.1, h.q.1, h.p.1⟩
theorem good_few {x : S29} (h : GoodT (toT x)) : Few 32 x := by
  obtain ⟨_, h0, h1, h2, h3, h4, h5, h6⟩ := h
  exact ⟨h0, ⟨h1.1, by have := h1.2; simp only [toT] at this; omega⟩, ⟨h2.1, by have := h2.2; simp only [toT] at this; omega⟩, ⟨h3.1, by have := h3.2; simp only [toT] at this; omega⟩, ⟨h4.1, by have := h4.2; simp only [toT] at this; omega⟩, ⟨h5.1, by have := h5.2; simp only [toT] at this; omega⟩, ⟨h6.1, by have := h6.2; simp only [toT] at this; omega⟩⟩
theorem good_wide {x : S29} (h : GoodT (toT x)) : wideB x = true := by
  obtain ⟨_, h0, h1, h2, h3, h4, h5, h6⟩ := h
  simp only [toT] at h0 h1 h2 h3 h4 h5 h6
  unfold wideB i64B
  simp only [Bool.and_eq_true, decide_eq_true_eq]
  omega
/-- text.Print of tasks that may be. -/
theorem textPrint_some (xs : List S29) (hl : xs.length ≤ 10000) (h : ∀ x ∈ xs, GoodT (toT x)) : text_Print.f xs = some (printB xs) := by
  unfold text_Print.f
  rw [if_pos (by
    rw [Bool.and_eq_true, decide_eq_true_eq, List.all_eq_true]
    exact ⟨hl, fun x hx => good_wide (h x hx)⟩), printS_B xs (fun x hx => good_nn (h x hx))]
theorem tskS_toT (xs : List S29) : (xs.map toT).map tskS = xs := by
  rw [List.map_map]
  exact List.map_id xs
theorem toT_tskS' (xs : List Tsk) : (xs.map tskS).map toT = xs := by
  rw [List.map_map]
  exact List.map_id xs
theorem from_len : ∀ (xs pre : List Tsk), (allFrom pre xs).2 = 0 → (allFrom pre xs).1 = ((pre ++ xs).length : Nat)
  | [], pre, _ => by simp [allFrom]
  | x :: xs, pre, h => by
    unfold allFrom at h ⊢
    by_cases h1 : checkE x ≠ 0
    · rw [if_pos h1] at h
      exact absurd h h1
    · rw [if_neg h1] at h ⊢
      by_cases h2 : (pre.any (fun y => decide (y.nm = x.nm)) || pre.any (fun y => decide (y.p = x.p))) = true
      · rw [if_pos h2] at h
        cases h
      · rw [if_neg h2] at h ⊢
        rw [from_len xs _ h]
        simp
theorem all_len {l : List Tsk} (h : (checkAllL l).2 = 0) : (checkAllL l).1 = (l.length : Nat) ∧ l.length ≤ 1024 := by
  unfold checkAllL at h ⊢
  by_cases h1 : l.length = 0 ∨ 1024 < l.length
  · rw [if_pos h1] at h
    cases h
  · rw [if_neg h1] at h ⊢
    refine ⟨?_, by omega⟩
    have := from_len l [] h
    simpa using this
/-- A set that may be: its print is parsed to it. -/
theorem parse_print (l : List S29) (h : (checkAllL (l.map toT)).2 = 0) (hs : (printB l).size ≤ 100000) : text_Parse.f (printB l) = some (l, (l.length : Int), 0) := by
  have hg : ∀ x ∈ l, GoodT (toT x) := fun x hx => all_good h (toT x) (List.mem_map.2 ⟨x, hx, rfl⟩)
  have hr := read_print l hg
  have hl := (all_len h).1
  have hp : parseT (printB l).data.toList = (l.map toT, (((l.map toT).length : Nat) : Int), 0) := by
    unfold parseT
    rw [hr]
    simp only [ne_eq, not_true, if_false, h, hl]
  unfold text_Parse.f
  rw [if_pos hs, hp, tskS_toT]
  simp
theorem print_size32 (l : List S29) (h : ∀ x ∈ l, GoodT (toT x)) : (printB l).size ≤ l.length * 162 := print_size (n := 32) l (fun x hx => good_few (h x hx))
theorem rd_len2 (e : Nat) : ∀ (n : Nat) (l : List Tk), l.length ≤ n → 2 * (rd e l).1.length ≤ l.length
  | _, [], _ => by simp [rd_nil]
  | 0, t :: l, h => by simp at h
  | n + 1, t :: l, h => by
    simp at h
    by_cases hk : t.kind = 4
    · rw [rd_line e hk]
      have := rd_len2 e n l h
      simp; omega
    · cases ht : taskL (t :: l) with
      | mk o r =>
        cases o with
        | none => rw [rd_none e hk ht]; simp
        | some x =>
          rw [rd_some e hk ht]
          have hl := taskL_some ht
          have := rd_len2 e n r (by omega)
          split <;> simp <;> omega
theorem parseT_len2 (L : List UInt8) : 2 * (parseT L).1.length ≤ L.length := by
  have h : 2 * (readT L).1.length ≤ L.length := by
    unfold readT
    have := (lexL_toks L).1
    split
    · have h2 := rd_len2 L.length _ (lexL L).1 (Nat.le_refl _)
      omega
    · simp
  unfold parseT
  split
  · simp
  · split
    · simp
    · exact h
theorem again_some (s : ByteArray) (hs : s.size ≤ 1200) : Ev (fun k => cadencylaw05_again.f k s) true := by
  have hL : s.data.toList.length = s.size := by simp
  have hlen := parseT_len2 s.data.toList
  obtain ⟨l, hl⟩ : ∃ l, (parseT s.data.toList).1.map tskS = l := ⟨_, rfl⟩
  have hll : l.length = (parseT s.data.toList).1.length := by rw [← hl]; simp
  obtain ⟨K2, k2⟩ := same_some l (by omega)
  refine ⟨K2, fun k hk => ?_⟩
  have k2 := k2 k (by omega)
  dsimp only at k2 ⊢
  unfold cadencylaw05_again.f
  have hp : text_Parse.f s = some (l, (parseT s.data.toList).2.1, (parseT s.data.toList).2.2) := by
    unfold text_Parse.f
    rw [if_pos (by omega), hl]
  rw [hp, Option.bind_some]
  by_cases he : (parseT s.data.toList).2.2 = 0
  · have hc : (checkAllL (l.map toT)).2 = 0 := by
      rw [← hl, toT_tskS']
      revert he
      unfold parseT
      split
      · rename_i h1
        intro h2
        have h2 : (((readT s.data.toList).2.2 : Nat) : Int) = 0 := h2
        exact absurd (by omega) h1
      · split
        · rename_i h1
          intro h2
          exact absurd h2 h1
        · rename_i h1
          intro _
          exact Decidable.not_not.1 h1
    have hg : ∀ x ∈ l, GoodT (toT x) := fun x hx => all_good hc (toT x) (List.mem_map.2 ⟨x, hx, rfl⟩)
    have hsz := print_size32 l hg
    have hm : l.length * 162 ≤ 600 * 162 := Nat.mul_le_mul_right _ (by omega)
    simp only [he, if_true]
    rw [textPrint_some l (by omega) hg, Option.bind_some, parse_print l hc (by omega)]
    simp only [Option.bind_some, k2, if_true, textPrint_some l (by omega) hg]
    simp
  · simp only [he, if_false]
    have : (parseT s.data.toList).1 = [] := by
      revert he
      unfold parseT
      split
      · intro _; rfl
      · split
        · intro _; rfl
        · intro h; exact absurd rfl h
    rw [← hl, this]
    rfl
theorem set_good (l : List S43) (turn : Int) : ∀ x ∈ setOf l turn, GoodT (toT x) := fun x hx => all_good (may_set l turn) (toT x) (List.mem_map.2 ⟨x, hx, rfl⟩)
theorem textAgain_some (s : ByteArray) (l : List S43) (q0 q1 q2 : Int) : ∃ k, cadencylaw05_TextAgain.f k s l q0 q1 q2 = some true := by
  obtain ⟨K1, k1⟩ := set_some_m 6 (by omega) (by omega) l q1
  obtain ⟨p, hp⟩ : ∃ p, setOf (l.take 6) q1 = p := ⟨_, rfl⟩
  have hsz := set_print (l.take 6) q1
  have hlen := (setOf_length (l.take 6) q1).2
  have hg := set_good (l.take 6) q1
  rw [hp] at k1 hsz hlen hg
  have hsh := sh_size s
  obtain ⟨r1, e1, z1⟩ := spoilt_some (printB p) (by omega) q0 q1 q2
  obtain ⟨K3, k3⟩ := again_some (sh s) (by omega)
  obtain ⟨K4, k4⟩ := again_some r1 (by omega)
  refine ⟨K1 + K3 + K4, ?_⟩
  obtain ⟨k, hk⟩ : ∃ k, k = K1 + K3 + K4 := ⟨_, rfl⟩
  rw [← hk]
  have k1 := k1 k (by omega)
  have k3 := k3 k (by omega)
  have k4 := k4 k (by omega)
  dsimp only at k1 k3 k4
  rw [show ((6 : Nat) : Int) = 6 from rfl] at k1
  unfold cadencylaw05_TextAgain.f
  rw [awake_some]
  simp only [Option.bind_some, short_some, k1, k3, k4, if_true, textPrint_some p (by omega) hg, e1]
end Go.Proofs.YtefdcjmfbjlinaaDoor.A
