/- The document's Word, Check and CheckAll tell what the program's do: plain Lean. -/
import Derived.Test.YtefdcjmfbjlinaaDoorAx9
import Derived.Test.YtefdcjmfbjlinaaDoorGivO
import Derived.Test.YtefdcjmfbjlinaaDoorCheckall
set_option linter.unusedVariables false
set_option linter.unusedSimpArgs false
namespace Go.Proofs.YtefdcjmfbjlinaaDoor.A
open Go.RowKit Go.Proofs.YtefdcjmfbjlinaaDoorW.PrintWords Go.Proofs.YtefdcjmfbjlinaaDoorW.PrintLast Go.Proofs.YtefdcjmfbjlinaaDoorW.PrintMore Go.Proofs.YtefdcjmfbjlinaaDoor.Sc

theorem one_some (s : ByteArray) (hs : s.size ≤ 9223372036854775807) (a : Nat) (ha : a < s.size) : cadencyref03_one.f s (a : Int) = some ((((tk0 a (s.data.toList.drop a)).kind : Nat) : Int), (((tk0 a (s.data.toList.drop a)).at_ : Nat) : Int), (⟨(tk0 a (s.data.toList.drop a)).text.toArray⟩ : ByteArray), (((tk0 a (s.data.toList.drop a)).num : Nat) : Int)) := by
  unfold cadencyref03_one.f
  rw [if_pos ⟨hs, by omega, by omega⟩]
  simp

theorem refWord_some (s : ByteArray) (hs : s.size ≤ 9223372036854775807) : cadencyref03_Word.f s = some (wordL s.data.toList) := by
  unfold cadencyref03_Word.f
  have htl : s.toList = s.data.toList := Lib.toList_data s
  cases hl : s.data.toList with
  | nil => rw [if_pos (by rw [htl, hl])]; rfl
  | cons c l =>
    have hL : s.data.toList.length = s.size := by simp
    rw [if_neg (by rw [htl, hl]; simp)]
    have h1 := one_some s hs 0 (by rw [← hL, hl]; simp)
    simp only [List.drop_zero, hl] at h1
    rw [show ((0 : Nat) : Int) = 0 from rfl] at h1
    rw [h1]
    simp only [Option.bind_some]
    by_cases hlet : isLet c = true
    · have hk := knd_let hlet
      have e : tk0 0 (c :: l) = tkOf 0 (c :: l) := by unfold tk0; rw [if_neg (by simp [tkOf, hk])]
      rw [e]
      have e2 : tkOf 0 (c :: l) = ⟨1, 0, (c :: l).take (spn isGo (c :: l)), 0⟩ := by simp only [tkOf, hk, tln_let hlet]; rfl
      rw [e2, if_pos (by simp)]
      congr 1
      have ht : (⟨((c :: l).take (spn isGo (c :: l))).toArray⟩ : ByteArray).toList = (c :: l).take (spn isGo (c :: l)) := by rw [Lib.toList_data]
      rw [ht, htl, hl, Bool.eq_iff_iff]
      simp only [beq_iff_eq, wordL, hlet, Bool.true_and]
      have hsp := spn_le isGo (c :: l)
      constructor
      · intro h
        have := congrArg List.length h
        rw [List.length_take] at this
        omega
      · intro h
        exact List.take_of_length_le (by omega)
    · have hlf : isLet c = false := by simpa using hlet
      have hk : knd c ≠ 1 := by unfold knd; rw [hlf]; simp; split; (· omega); (split; (· omega); (split <;> omega))
      have e : (tk0 0 (c :: l)).kind ≠ 1 := by
        unfold tk0
        split
        · simp
        · simpa [tkOf] using hk
      rw [if_neg (by omega)]
      simp [wordL, hlf]

theorem in_some (n lo hi : Int) : cadencyref04_in.f n lo hi = some (decide (lo ≤ n) && decide (n ≤ hi)) := by
  unfold cadencyref04_in.f
  by_cases h : n ≥ lo
  · rw [if_pos h, decide_eq_true (show lo ≤ n from h)]; simp
  · rw [if_neg h, decide_eq_false (show ¬ lo ≤ n from h)]; simp
theorem check_j0 (m : Nat) (b : Bool) (x : S29) : cadencyref04_Check.j0 (m + 1 + 1) b x.f0 x.f1 x.f2 x.f3 x.f4 x.f5 x.f6 = some (if b = true then 11 else if fitsB (toT x) = true then 0 else 12) := by
  simp only [cadencyref04_Check.j0, cadencyref04_Check.j1]
  cases b
  · simp only [fitsB, toT, Bool.false_eq_true, if_false, Bool.and_eq_true, decide_eq_true_eq]
    by_cases h1 : x.f5 ≤ x.f1
    · rw [if_neg (show ¬ x.f5 > x.f1 by omega)]
      by_cases h2 : wrap64 (x.f1 + x.f4) ≤ x.f3
      · rw [if_neg (show ¬ wrap64 (x.f1 + x.f4) > x.f3 by omega)]
        by_cases h3 : x.f3 ≤ x.f2
        · rw [if_neg (show ¬ x.f3 > x.f2 by omega), if_pos ⟨⟨decide_eq_true h1, decide_eq_true h2⟩, decide_eq_true h3⟩]
        · rw [if_pos (show x.f3 > x.f2 by omega), if_neg (fun h => h3 (of_decide_eq_true h.2))]
      · rw [if_pos (show wrap64 (x.f1 + x.f4) > x.f3 by omega), if_pos trivial, if_neg (fun h => h2 (of_decide_eq_true h.1.2))]
    · rw [if_pos (show x.f5 > x.f1 by omega), if_pos trivial, if_neg (fun h => h1 (of_decide_eq_true h.1.1))]
  · simp
theorem ranges_eq (x : Tsk) : rangesB x = (wordL x.nm.data.toList && (decide (x.nm.size ≤ 32) && ((decide (1 ≤ x.c) && decide (x.c ≤ 2147483647)) && ((decide (1 ≤ x.t) && decide (x.t ≤ 2147483647)) && ((decide (1 ≤ x.d) && decide (x.d ≤ 2147483647)) && ((decide (1 ≤ x.q) && decide (x.q ≤ 2147483647)) && ((decide (0 ≤ x.j) && decide (x.j ≤ 2147483647)) && (decide (1 ≤ x.p) && decide (x.p ≤ 1048576))))))))) := by
  unfold rangesB inB
  cases wordL x.nm.data.toList
  · simp
  · rw [Bool.eq_iff_iff]
    simp only [Bool.true_and, Bool.and_eq_true, decide_eq_true_eq]
    omega
theorem check_some (x : S29) (hs : x.f0.size ≤ 9223372036854775807) (k : Nat) (hk : 2 ≤ k) : cadencyref04_Check.f k x.f0 x.f1 x.f2 x.f3 x.f4 x.f5 x.f6 = some (checkE (toT x)) := by
  obtain ⟨m, rfl⟩ : ∃ m, k = m + 1 + 1 := ⟨k - 2, by omega⟩
  have hw := refWord_some x.f0 hs
  unfold cadencyref04_Check.f
  have hj := fun b => check_j0 m b x
  have hr : rangesB (toT x) = (wordL x.f0.data.toList && (decide (x.f0.size ≤ 32) && ((decide (1 ≤ x.f1) && decide (x.f1 ≤ 2147483647)) && ((decide (1 ≤ x.f2) && decide (x.f2 ≤ 2147483647)) && ((decide (1 ≤ x.f3) && decide (x.f3 ≤ 2147483647)) && ((decide (1 ≤ x.f5) && decide (x.f5 ≤ 2147483647)) && ((decide (0 ≤ x.f4) && decide (x.f4 ≤ 2147483647)) && (decide (1 ≤ x.f6) && decide (x.f6 ≤ 1048576))))))))) := ranges_eq (toT x)
  simp only [hw, Option.bind_some, in_some, hj]
  unfold checkE
  rw [hr]
  rcases (Bool.eq_false_or_eq_true (wordL x.f0.data.toList)).symm with hW | hW
  · simp [hW]
  simp only [hW, if_true, Bool.true_and]
  by_cases h1 : ¬ x.f0.size ≤ 32
  · rw [if_pos (show (x.f0.size : Int) > 32 by omega), decide_eq_false h1]; simp
  have h1 := Decidable.not_not.1 h1
  rw [if_neg (show ¬ (x.f0.size : Int) > 32 by omega)]
  simp only [decide_eq_true h1, Bool.true_and]
  rcases (Bool.eq_false_or_eq_true (decide (1 ≤ x.f1) && decide (x.f1 ≤ 2147483647))).symm with h2 | h2
  · simp only [h2]; simp
  simp only [h2, if_true, Bool.true_and]
  rcases (Bool.eq_false_or_eq_true (decide (1 ≤ x.f2) && decide (x.f2 ≤ 2147483647))).symm with h3 | h3
  · simp only [h3]; simp
  simp only [h3, if_true, Bool.true_and]
  rcases (Bool.eq_false_or_eq_true (decide (1 ≤ x.f3) && decide (x.f3 ≤ 2147483647))).symm with h4 | h4
  · simp only [h4]; simp
  simp only [h4, if_true, Bool.true_and]
  rcases (Bool.eq_false_or_eq_true (decide (1 ≤ x.f5) && decide (x.f5 ≤ 2147483647))).symm with h5 | h5
  · simp only [h5]; simp
  simp only [h5, if_true, Bool.true_and]
  rcases (Bool.eq_false_or_eq_true (decide (0 ≤ x.f4) && decide (x.f4 ≤ 2147483647))).symm with h6 | h6
  · simp only [h6]; simp
  simp only [h6, if_true, Bool.true_and]
  by_cases h7 : x.f6 < 1
  · rw [if_pos h7, decide_eq_false (show ¬ 1 ≤ x.f6 by omega)]; simp
  · rw [if_neg h7, decide_eq_true (show 1 ≤ x.f6 by omega)]
    by_cases h8 : x.f6 ≤ 1048576
    · rw [decide_eq_true h8, decide_eq_false (show ¬ x.f6 > 1048576 by omega)]; simp
    · rw [decide_eq_false h8, decide_eq_true (show x.f6 > 1048576 by omega)]; simp

theorem rd46 (l : List S29) (i : Nat) (x : S29) (h : l[i]? = some x) : rd_T29 l (i : Int) = x := by
  unfold rd_T29
  rw [List.getD_eq_getElem?_getD]
  simp [h]
theorem nm_eq (a b : ByteArray) : a.toList = b.toList ↔ a = b := by
  rw [Lib.toList_data, Lib.toList_data]
  constructor
  · intro h
    cases a; cases b
    simpa using h
  · rintro rfl; rfl
def dupB (x y : Tsk) : Bool := decide (y.nm = x.nm) || decide (y.p = x.p)
theorem any_dup (x : Tsk) (pre : List Tsk) : (pre.any (fun y => decide (y.nm = x.nm)) || pre.any (fun y => decide (y.p = x.p))) = pre.any (dupB x) := by
  induction pre with
  | nil => rfl
  | cons y ys ih =>
    simp only [List.any_cons]
    rw [← ih]
    unfold dupB
    cases decide (y.nm = x.nm) <;> cases decide (y.p = x.p) <;> simp
theorem inner_go (l : List S29) (i : Nat) (x : S29) (hx : l[i]? = some x) (hlen : l.length ≤ 1024) (R : Int × Int) (hR : Ev (fun k => cadencyref04_CheckAll.l0 k l ((i + 1 : Nat) : Int)) R) :
    ∀ (e j : Nat), i - j = e → j ≤ i → Ev (fun k => cadencyref04_CheckAll.l1 k l (i : Int) (j : Int)) (if (((l.take i).drop j).map toT).any (dupB (toT x)) = true then ((i : Int), 13) else R) := by
  have hil : i < l.length := by
    rcases Nat.lt_or_ge i l.length with h' | h'
    · exact h'
    · rw [List.getElem?_eq_none h'] at hx; cases hx
  intro e
  induction e with
  | zero =>
    intro j he hj
    obtain rfl : j = i := by omega
    have hd : (l.take j).drop j = [] := List.drop_eq_nil_of_le (by simp; omega)
    rw [hd]
    refine Ev.step (f := fun k => cadencyref04_CheckAll.l0 k l ((j + 1 : Nat) : Int)) (fun k => ?_) (by simpa using hR)
    simp only [cadencyref04_CheckAll.l1]
    rw [if_neg (by omega), show wrap64 ((j : Int) + 1) = ((j + 1 : Nat) : Int) by unfold wrap64; omega]
  | succ e ih =>
    intro j he hj
    have hji : j < i := by omega
    obtain ⟨y, hy⟩ : ∃ y, l[j]? = some y := ⟨_, List.getElem?_eq_getElem (by omega)⟩
    have hd : (l.take i).drop j = y :: (l.take i).drop (j + 1) := by
      rw [List.drop_eq_getElem_cons (by simp; omega)]
      rw [List.getElem?_eq_getElem (by omega)] at hy
      injection hy with hy
      simp [hy]
    rw [hd]
    simp only [List.map_cons, List.any_cons]
    have hstep : ∀ k, cadencyref04_CheckAll.l1 (k + 1) l (i : Int) (j : Int) = if y.f0.toList = x.f0.toList then some ((i : Int), 13) else if y.f6 = x.f6 then some ((i : Int), 13) else cadencyref04_CheckAll.l1 k l (i : Int) ((j + 1 : Nat) : Int) := by
      intro k
      simp only [cadencyref04_CheckAll.l1]
      rw [if_pos (by omega), if_pos (by omega), if_pos (by omega), if_pos (by omega), if_pos (by omega), rd46 l j y hy, rd46 l i x hx, show wrap64 ((j : Int) + 1) = ((j + 1 : Nat) : Int) by unfold wrap64; omega]
    by_cases h1 : y.f0.toList = x.f0.toList
    · have hdb : dupB (toT x) (toT y) = true := by
        unfold dupB toT
        simp [(nm_eq _ _).1 h1]
      rw [hdb, Bool.true_or, if_pos rfl]
      exact Ev.step (f := fun _ => some ((i : Int), 13)) (fun k => by rw [hstep, if_pos h1]) (Ev.now _)
    · by_cases h2 : y.f6 = x.f6
      · have hdb : dupB (toT x) (toT y) = true := by
          unfold dupB toT
          simp [h2]
        rw [hdb, Bool.true_or, if_pos rfl]
        exact Ev.step (f := fun _ => some ((i : Int), 13)) (fun k => by rw [hstep, if_neg h1, if_pos h2]) (Ev.now _)
      · have hdb : dupB (toT x) (toT y) = false := by
          unfold dupB toT
          have h3 : ¬ y.f0 = x.f0 := fun h => h1 ((nm_eq _ _).2 h)
          rw [decide_eq_false h3, decide_eq_false h2]
          rfl
        rw [hdb, Bool.false_or]
        exact Ev.step (f := fun k => cadencyref04_CheckAll.l1 k l (i : Int) ((j + 1 : Nat) : Int)) (fun k => by rw [hstep, if_neg h1, if_neg h2]) (ih (j + 1) (by omega) (by omega))
theorem all_go (l : List S29) (hs : ∀ x ∈ l, x.f0.size ≤ 9223372036854775807) (hlen : l.length ≤ 1024) :
    ∀ (d i : Nat), l.length - i = d → i ≤ l.length → Ev (fun k => cadencyref04_CheckAll.l0 k l (i : Int)) (allFrom ((l.take i).map toT) ((l.drop i).map toT)) := by
  intro d
  induction d with
  | zero =>
    intro i hd hi
    obtain rfl : i = l.length := by omega
    rw [List.drop_length]
    refine Ev.step (f := fun _ => some ((l.length : Int), 0)) (fun k => ?_) (by simpa [allFrom] using Ev.now _)
    simp only [cadencyref04_CheckAll.l0]
    rw [if_neg (by omega)]
  | succ d ih =>
    intro i hd hi
    have hil : i < l.length := by omega
    obtain ⟨x, hx⟩ : ∃ x, l[i]? = some x := ⟨_, List.getElem?_eq_getElem hil⟩
    have hdr : l.drop i = x :: l.drop (i + 1) := by
      rw [List.drop_eq_getElem_cons hil]
      rw [List.getElem?_eq_getElem hil] at hx
      injection hx with hx
      rw [hx]
    have htk : l.take (i + 1) = l.take i ++ [x] := by rw [List.take_add_one, hx]; rfl
    have hn := ih (i + 1) (by omega) (by omega)
    have hsz := hs x (List.mem_of_getElem? hx)
    rw [hdr]
    simp only [List.map_cons, allFrom]
    have hl : ((l.take i).map toT).length = i := by simp; omega
    rw [hl, any_dup]
    rw [htk, List.map_append] at hn
    have hin := inner_go l i x hx hlen _ hn i 0 (by omega) (by omega)
    rw [List.drop_zero] at hin
    by_cases hc : checkE (toT x) = 0
    · rw [if_neg (by simpa using hc)]
      refine Ev.step (f := fun k => (cadencyref04_Check.f k x.f0 x.f1 x.f2 x.f3 x.f4 x.f5 x.f6).bind fun t => if t = 0 then cadencyref04_CheckAll.l1 k l (i : Int) 0 else some ((i : Int), t)) (fun k => ?_) ?_
      · simp only [cadencyref04_CheckAll.l0]
        rw [if_pos (by omega), if_pos (by omega), rd46 l i x hx]
      · obtain ⟨K, hK⟩ := hin
        refine ⟨K + 2, fun k hk => ?_⟩
        dsimp only
        rw [check_some x hsz k (by omega), Option.bind_some, if_pos hc]
        exact hK k (by omega)
    · rw [if_pos hc]
      refine Ev.step (f := fun k => (cadencyref04_Check.f k x.f0 x.f1 x.f2 x.f3 x.f4 x.f5 x.f6).bind fun t => if t = 0 then cadencyref04_CheckAll.l1 k l (i : Int) 0 else some ((i : Int), t)) (fun k => ?_) ?_
      · simp only [cadencyref04_CheckAll.l0]
        rw [if_pos (by omega), if_pos (by omega), rd46 l i x hx]
      · refine ⟨2, fun k hk => ?_⟩
        dsimp only
        rw [check_some x hsz k (by omega), Option.bind_some, if_neg hc]
theorem checkAll_some (l : List S29) (hs : ∀ x ∈ l, x.f0.size ≤ 9223372036854775807) : Ev (fun k => cadencyref04_CheckAll.f k l) (checkAllL (l.map toT)) := by
  unfold checkAllL
  rw [List.length_map]
  by_cases h0 : l.length = 0
  · rw [if_pos (.inl h0)]
    refine ⟨1, fun k hk => ?_⟩
    obtain ⟨m, rfl⟩ : ∃ m, k = m + 1 := ⟨k - 1, by omega⟩
    show cadencyref04_CheckAll.f (m + 1) l = _
    unfold cadencyref04_CheckAll.f
    rw [if_pos (by omega)]
    simp [cadencyref04_CheckAll.j0]
  · by_cases h1 : 1024 < l.length
    · rw [if_pos (.inr h1)]
      refine ⟨1, fun k hk => ?_⟩
      obtain ⟨m, rfl⟩ : ∃ m, k = m + 1 := ⟨k - 1, by omega⟩
      show cadencyref04_CheckAll.f (m + 1) l = _
      unfold cadencyref04_CheckAll.f
      rw [if_neg (by omega), decide_eq_true (show (l.length : Int) > 1024 by omega)]
      simp [cadencyref04_CheckAll.j0]
    · rw [if_neg (by omega)]
      have h := all_go l hs (by omega) l.length 0 (by omega) (by omega)
      simp only [List.take_zero, List.map_nil, List.drop_zero] at h
      refine Ev.congr (f := fun k => cadencyref04_CheckAll.j0 k l false) (fun k => ?_) (Ev.step (f := fun k => cadencyref04_CheckAll.l0 k l 0) (fun k => ?_) h)
      · unfold cadencyref04_CheckAll.f
        rw [if_neg (by omega), decide_eq_false (show ¬ (l.length : Int) > 1024 by omega)]
      · simp [cadencyref04_CheckAll.j0]
end Go.Proofs.YtefdcjmfbjlinaaDoor.A
