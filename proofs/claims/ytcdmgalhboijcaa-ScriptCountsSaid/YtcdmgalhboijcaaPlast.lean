/- The document's Check and CheckAll tell what the program's do: plain Lean. -/
import Derived.Test.YtcdmgalhboijcaaDx5
import Derived.Test.YtcdmgalhboijcaaGiven
import Derived.Test.YtcdmgalhboijcaaDecode
set_option linter.unusedVariables false
set_option linter.unusedSimpArgs false
namespace Go.Proofs.Ytcdmgalhboijcaa.Pu
open Go.RowKit Go.Proofs.Ytcdmgalhboijcaa.D Go.Proofs.YtcdmgalhboijcaaW.PrintWords Go.Proofs.YtcdmgalhboijcaaW.PrintLast Go.Proofs.Ytcdmgalhboijcaa.Sc

theorem in_some (n lo hi : Int) : cadencyref04_in.f n lo hi = some (decide (lo ≤ n) && decide (n ≤ hi)) := by
  unfold cadencyref04_in.f
  by_cases h : n ≥ lo
  · rw [if_pos h, decide_eq_true (show lo ≤ n from h)]; simp
  · rw [if_neg h, decide_eq_false (show ¬ lo ≤ n from h)]; simp
theorem check_j0 (m : Nat) (b : Bool) (x : S46) : cadencyref04_Check.j0 (m + 1) b x.f0 x.f1 x.f2 x.f3 x.f4 x.f5 x.f6 = some (if b = true then 11 else if fitsB (toT x) = true then 0 else 12) := by
  simp only [cadencyref04_Check.j0]
  cases b
  · simp only [fitsB, toT, Bool.false_eq_true, if_false, Bool.and_eq_true, decide_eq_true_eq]
    by_cases h1 : x.f5 ≤ x.f1
    · rw [if_neg (show ¬ x.f5 > x.f1 by omega)]
      by_cases h2 : wrap64 (x.f1 + x.f4) ≤ x.f3
      · rw [if_neg (show ¬ wrap64 (x.f1 + x.f4) > x.f3 by omega)]
        by_cases h3 : x.f3 ≤ x.f2
        · rw [if_neg (show ¬ x.f3 > x.f2 by omega), if_pos ⟨⟨decide_eq_true h1, decide_eq_true h2⟩, decide_eq_true h3⟩]
        · rw [if_pos (show x.f3 > x.f2 by omega), if_neg (fun h => h3 (of_decide_eq_true h.2))]
      · rw [if_pos (show wrap64 (x.f1 + x.f4) > x.f3 by omega), if_neg (fun h => h2 (of_decide_eq_true h.1.2))]
    · rw [if_pos (show x.f5 > x.f1 by omega), if_neg (fun h => h1 (of_decide_eq_true h.1.1))]
  · simp
theorem ranges_eq (x : Tsk) : rangesB x = (wordL x.nm.data.toList && (decide (x.nm.size ≤ 32) && ((decide (1 ≤ x.c) && decide (x.c ≤ 2147483647)) && ((decide (1 ≤ x.t) && decide (x.t ≤ 2147483647)) && ((decide (1 ≤ x.d) && decide (x.d ≤ 2147483647)) && ((decide (1 ≤ x.q) && decide (x.q ≤ 2147483647)) && ((decide (0 ≤ x.j) && decide (x.j ≤ 2147483647)) && (decide (1 ≤ x.p) && decide (x.p ≤ 1048576))))))))) := by
  unfold rangesB inB
  cases wordL x.nm.data.toList
  · simp
  · rw [Bool.eq_iff_iff]
    simp only [Bool.true_and, Bool.and_eq_true, decide_eq_true_eq]
    omega
theorem check_some (x : S46) (hs : x.f0.size ≤ 9223372036854775807) (k : Nat) (hk : 1 ≤ k) : cadencyref04_Check.f k x.f0 x.f1 x.f2 x.f3 x.f4 x.f5 x.f6 = some (checkE (toT x)) := by
  obtain ⟨m, rfl⟩ : ∃ m, k = m + 1 := ⟨k - 1, by omega⟩
  have hw : cadencyref03_Word.f x.f0 = some (wordL x.f0.data.toList) := by unfold cadencyref03_Word.f; rw [if_pos hs]
  unfold cadencyref04_Check.f
  have hj := fun b => check_j0 m b x
  have hr : rangesB (toT x) = (wordL x.f0.data.toList && (decide (x.f0.size ≤ 32) && ((decide (1 ≤ x.f1) && decide (x.f1 ≤ 2147483647)) && ((decide (1 ≤ x.f2) && decide (x.f2 ≤ 2147483647)) && ((decide (1 ≤ x.f3) && decide (x.f3 ≤ 2147483647)) && ((decide (1 ≤ x.f5) && decide (x.f5 ≤ 2147483647)) && ((decide (0 ≤ x.f4) && decide (x.f4 ≤ 2147483647)) && (decide (1 ≤ x.f6) && decide (x.f6 ≤ 1048576))))))))) := ranges_eq (toT x)
  simp only [hw, Option.bind_some, in_some, hj]
  unfold checkE
  rw [hr]
  rcases (Bool.eq_false_or_eq_true (wordL x.f0.data.toList)).symm with hW | hW
  · simp [hW]
  simp only [hW, if_true, Bool.true_and]
  by_cases h1 : ¬ x.f0.size ≤ 32
  · rw [if_pos (show (x.f0.size : Int) > 32 by omega), decide_eq_false h1]; simp
  have h1 := Decidable.not_not.1 h1
  rw [if_neg (show ¬ (x.f0.size : Int) > 32 by omega)]
  simp only [decide_eq_true h1, Bool.true_and]
  rcases (Bool.eq_false_or_eq_true (decide (1 ≤ x.f1) && decide (x.f1 ≤ 2147483647))).symm with h2 | h2
  · simp only [h2]; simp
  simp only [h2, if_true, Bool.true_and]
  rcases (Bool.eq_false_or_eq_true (decide (1 ≤ x.f2) && decide (x.f2 ≤ 2147483647))).symm with h3 | h3
  · simp only [h3]; simp
  simp only [h3, if_true, Bool.true_and]
  rcases (Bool.eq_false_or_eq_true (decide (1 ≤ x.f3) && decide (x.f3 ≤ 2147483647))).symm with h4 | h4
  · simp only [h4]; simp
  simp only [h4, if_true, Bool.true_and]
  rcases (Bool.eq_false_or_eq_true (decide (1 ≤ x.f5) && decide (x.f5 ≤ 2147483647))).symm with h5 | h5
  · simp only [h5]; simp
  simp only [h5, if_true, Bool.true_and]
  rcases (Bool.eq_false_or_eq_true (decide (0 ≤ x.f4) && decide (x.f4 ≤ 2147483647))).symm with h6 | h6
  · simp only [h6]; simp
  simp only [h6, if_true, Bool.true_and]
  by_cases h7 : x.f6 < 1
  · rw [if_pos h7, decide_eq_false (show ¬ 1 ≤ x.f6 by omega)]; simp
  · rw [if_neg h7, decide_eq_true (show 1 ≤ x.f6 by omega)]
    by_cases h8 : x.f6 ≤ 1048576
    · rw [decide_eq_true h8, decide_eq_false (show ¬ x.f6 > 1048576 by omega)]; simp
    · rw [decide_eq_false h8, decide_eq_true (show x.f6 > 1048576 by omega)]; simp

theorem rd46 (l : List S46) (i : Nat) (x : S46) (h : l[i]? = some x) : rd_T46 l (i : Int) = x := by
  unfold rd_T46
  rw [List.getD_eq_getElem?_getD]
  simp [h]
theorem nm_eq (a b : ByteArray) : a.toList = b.toList ↔ a = b := by
  rw [Lib.toList_data, Lib.toList_data]
  constructor
  · intro h
    cases a; cases b
    simpa using h
  · rintro rfl; rfl
def dupB (x y : Tsk) : Bool := decide (y.nm = x.nm) || decide (y.p = x.p)
theorem any_dup (x : Tsk) (pre : List Tsk) : (pre.any (fun y => decide (y.nm = x.nm)) || pre.any (fun y => decide (y.p = x.p))) = pre.any (dupB x) := by
  induction pre with
  | nil => rfl
  | cons y ys ih =>
    simp only [List.any_cons]
    rw [← ih]
    unfold dupB
    cases decide (y.nm = x.nm) <;> cases decide (y.p = x.p) <;> simp
theorem inner_go (l : List S46) (i : Nat) (x : S46) (hx : l[i]? = some x) (hlen : l.length ≤ 1024) (R : Int × Int) (hR : Ev (fun k => cadencyref04_CheckAll.l0 k l ((i + 1 : Nat) : Int)) R) :
    ∀ (e j : Nat), i - j = e → j ≤ i → Ev (fun k => cadencyref04_CheckAll.l1 k l (i : Int) (j : Int)) (if (((l.take i).drop j).map toT).any (dupB (toT x)) = true then ((i : Int), 13) else R) := by
  have hil : i < l.length := by
    rcases Nat.lt_or_ge i l.length with h' | h'
    · exact h'
    · rw [List.getElem?_eq_none h'] at hx; cases hx
  intro e
  induction e with
  | zero =>
    intro j he hj
    obtain rfl : j = i := by omega
    have hd : (l.take j).drop j = [] := List.drop_eq_nil_of_le (by simp; omega)
    rw [hd]
    refine Ev.step (f := fun k => cadencyref04_CheckAll.l0 k l ((j + 1 : Nat) : Int)) (fun k => ?_) (by simpa using hR)
    simp only [cadencyref04_CheckAll.l1]
    rw [if_neg (by omega), show wrap64 ((j : Int) + 1) = ((j + 1 : Nat) : Int) by unfold wrap64; omega]
  | succ e ih =>
    intro j he hj
    have hji : j < i := by omega
    obtain ⟨y, hy⟩ : ∃ y, l[j]? = some y := ⟨_, List.getElem?_eq_getElem (by omega)⟩
    have hd : (l.take i).drop j = y :: (l.take i).drop (j + 1) := by
      rw [List.drop_eq_getElem_cons (by simp; omega)]
      rw [List.getElem?_eq_getElem (by omega)] at hy
      injection hy with hy
      simp [hy]
    rw [hd]
    simp only [List.map_cons, List.any_cons]
    have hstep : ∀ k, cadencyref04_CheckAll.l1 (k + 1) l (i : Int) (j : Int) = if y.f0.toList = x.f0.toList then some ((i : Int), 13) else if y.f6 = x.f6 then some ((i : Int), 13) else cadencyref04_CheckAll.l1 k l (i : Int) ((j + 1 : Nat) : Int) := by
      intro k
      simp only [cadencyref04_CheckAll.l1]
      rw [if_pos (by omega), if_pos (by omega), if_pos (by omega), if_pos (by omega), if_pos (by omega), rd46 l j y hy, rd46 l i x hx, show wrap64 ((j : Int) + 1) = ((j + 1 : Nat) : Int) by unfold wrap64; omega]
    by_cases h1 : y.f0.toList = x.f0.toList
    · have hdb : dupB (toT x) (toT y) = true := by
        unfold dupB toT
        simp [(nm_eq _ _).1 h1]
      rw [hdb, Bool.true_or, if_pos rfl]
      exact Ev.step (f := fun _ => some ((i : Int), 13)) (fun k => by rw [hstep, if_pos h1]) (Ev.now _)
    · by_cases h2 : y.f6 = x.f6
      · have hdb : dupB (toT x) (toT y) = true := by
          unfold dupB toT
          simp [h2]
        rw [hdb, Bool.true_or, if_pos rfl]
        exact Ev.step (f := fun _ => some ((i : Int), 13)) (fun k => by rw [hstep, if_neg h1, if_pos h2]) (Ev.now _)
      · have hdb : dupB (toT x) (toT y) = false := by
          unfold dupB toT
          have h3 : ¬ y.f0 = x.f0 := fun h => h1 ((nm_eq _ _).2 h)
          rw [decide_eq_false h3, decide_eq_false h2]
          rfl
        rw [hdb, Bool.false_or]
        exact Ev.step (f := fun k => cadencyref04_CheckAll.l1 k l (i : Int) ((j + 1 : Nat) : Int)) (fun k => by rw [hstep, if_neg h1, if_neg h2]) (ih (j + 1) (by omega) (by omega))
theorem all_go (l : List S46) (hs : ∀ x ∈ l, x.f0.size ≤ 9223372036854775807) (hlen : l.length ≤ 1024) :
    ∀ (d i : Nat), l.length - i = d → i ≤ l.length → Ev (fun k => cadencyref04_CheckAll.l0 k l (i : Int)) (allFrom ((l.take i).map toT) ((l.drop i).map toT)) := by
  intro d
  induction d with
  | zero =>
    intro i hd hi
    obtain rfl : i = l.length := by omega
    rw [List.drop_length]
    refine Ev.step (f := fun _ => some ((l.length : Int), 0)) (fun k => ?_) (by simpa [allFrom] using Ev.now _)
    simp only [cadencyref04_CheckAll.l0]
    rw [if_neg (by omega)]
  | succ d ih =>
    intro i hd hi
    have hil : i < l.length := by omega
    obtain ⟨x, hx⟩ : ∃ x, l[i]? = some x := ⟨_, List.getElem?_eq_getElem hil⟩
    have hdr : l.drop i = x :: l.drop (i + 1) := by
      rw [List.drop_eq_getElem_cons hil]
      rw [List.getElem?_eq_getElem hil] at hx
      injection hx with hx
      rw [hx]
    have htk : l.take (i + 1) = l.take i ++ [x] := by rw [List.take_add_one, hx]; rfl
    have hn := ih (i + 1) (by omega) (by omega)
    have hsz := hs x (List.mem_of_getElem? hx)
    rw [hdr]
    simp only [List.map_cons, allFrom]
    have hl : ((l.take i).map toT).length = i := by simp; omega
    rw [hl, any_dup]
    rw [htk, List.map_append] at hn
    have hin := inner_go l i x hx hlen _ hn i 0 (by omega) (by omega)
    rw [List.drop_zero] at hin
    by_cases hc : checkE (toT x) = 0
    · rw [if_neg (by simpa using hc)]
      refine Ev.step (f := fun k => (cadencyref04_Check.f k x.f0 x.f1 x.f2 x.f3 x.f4 x.f5 x.f6).bind fun t => if t = 0 then cadencyref04_CheckAll.l1 k l (i : Int) 0 else some ((i : Int), t)) (fun k => ?_) ?_
      · simp only [cadencyref04_CheckAll.l0]
        rw [if_pos (by omega), if_pos (by omega), rd46 l i x hx]
      · obtain ⟨K, hK⟩ := hin
        refine ⟨K + 1, fun k hk => ?_⟩
        dsimp only
        rw [check_some x hsz k (by omega), Option.bind_some, if_pos hc]
        exact hK k (by omega)
    · rw [if_pos hc]
      refine Ev.step (f := fun k => (cadencyref04_Check.f k x.f0 x.f1 x.f2 x.f3 x.f4 x.f5 x.f6).bind fun t => if t = 0 then cadencyref04_CheckAll.l1 k l (i : Int) 0 else some ((i : Int), t)) (fun k => ?_) ?_
      · simp only [cadencyref04_CheckAll.l0]
        rw [if_pos (by omega), if_pos (by omega), rd46 l i x hx]
      · refine ⟨1, fun k hk => ?_⟩
        dsimp only
        rw [check_some x hsz k (by omega), Option.bind_some, if_neg hc]
theorem checkAll_some (l : List S46) (hs : ∀ x ∈ l, x.f0.size ≤ 9223372036854775807) : Ev (fun k => cadencyref04_CheckAll.f k l) (checkAllL (l.map toT)) := by
  unfold checkAllL
  rw [List.length_map]
  by_cases h0 : l.length = 0
  · rw [if_pos (.inl h0)]
    refine ⟨1, fun k hk => ?_⟩
    obtain ⟨m, rfl⟩ : ∃ m, k = m + 1 := ⟨k - 1, by omega⟩
    show cadencyref04_CheckAll.f (m + 1) l = _
    unfold cadencyref04_CheckAll.f
    rw [if_pos (by omega)]
    simp [cadencyref04_CheckAll.j0]
  · by_cases h1 : 1024 < l.length
    · rw [if_pos (.inr h1)]
      refine ⟨1, fun k hk => ?_⟩
      obtain ⟨m, rfl⟩ : ∃ m, k = m + 1 := ⟨k - 1, by omega⟩
      show cadencyref04_CheckAll.f (m + 1) l = _
      unfold cadencyref04_CheckAll.f
      rw [if_neg (by omega), decide_eq_true (show (l.length : Int) > 1024 by omega)]
      simp [cadencyref04_CheckAll.j0]
    · rw [if_neg (by omega)]
      have h := all_go l hs (by omega) l.length 0 (by omega) (by omega)
      simp only [List.take_zero, List.map_nil, List.drop_zero] at h
      refine Ev.congr (f := fun k => cadencyref04_CheckAll.j0 k l false) (fun k => ?_) (Ev.step (f := fun k => cadencyref04_CheckAll.l0 k l 0) (fun k => ?_) h)
      · unfold cadencyref04_CheckAll.f
        rw [if_neg (by omega), decide_eq_false (show ¬ (l.length : Int) > 1024 by omega)]
      · simp [cadencyref04_CheckAll.j0]
end Go.Proofs.Ytcdmgalhboijcaa.Pu
/- The document's rest, last and CheckAll of layer 8, as contracts of lists. -/
set_option linter.unusedVariables false
set_option linter.unusedSimpArgs false
namespace Go.Proofs.Ytcdmgalhboijcaa.Pu
open Go.RowKit Go.Proofs.Ytcdmgalhboijcaa.D Go.Proofs.YtcdmgalhboijcaaW.PrintWords Go.Proofs.YtcdmgalhboijcaaW.PrintLast Go.Proofs.Ytcdmgalhboijcaa.Sc

theorem rd39 (l : List S39) (i : Nat) (x : S39) (h : l[i]? = some x) : rd_T39 l (i : Int) = x := by
  unfold rd_T39
  rw [List.getD_eq_getElem?_getD]
  simp [h]
theorem rest_val (x n : Int) (h : 0 < n) : (x.tmod n + n).tmod n = x % n := by
  have h1 := Int.tmod_lt_of_pos x h
  have h2 : -n < x.tmod n := neg_lt_tmod x n h
  rw [Int.tmod_eq_emod_of_nonneg (by omega), Int.add_emod_right]
  have e := Int.tmod_add_mul_tdiv x n
  have : x % n = (x.tmod n) % n := by
    conv => lhs; rw [← e]
    rw [Int.add_mul_emod_self_left]
  exact this.symm
/-- The last job of a task, by its place. -/
def lastI (out : List S39) (t : Int) : Nat → Option Nat
  | 0 => none
  | n + 1 => match out[n]? with
    | some x => if x.f0 = t then some n else lastI out t n
    | none => none
theorem last_go (out : List S39) (t : Int) (hlen : out.length ≤ 4096) : ∀ n, n ≤ out.length → ∀ k, n + 1 ≤ k → cadencyref08_last.l0 k out t ((n : Int) - 1) = some (match lastI out t n with | some i => (i : Int) | none => -1)
  | 0, _, k, hk => by
    obtain ⟨k, rfl⟩ : ∃ m, k = m + 1 := ⟨k - 1, by omega⟩
    simp only [cadencyref08_last.l0]
    rw [if_neg (by omega)]
    rfl
  | n + 1, hn, k, hk => by
    obtain ⟨k, rfl⟩ : ∃ m, k = m + 1 := ⟨k - 1, by omega⟩
    have hlt : n < out.length := by omega
    obtain ⟨x, hx⟩ : ∃ x, out[n]? = some x := ⟨_, List.getElem?_eq_getElem hlt⟩
    have ih := last_go out t hlen n (by omega) k (by omega)
    have e : (((n + 1 : Nat) : Int) - 1) = (n : Int) := by omega
    rw [e]
    simp only [cadencyref08_last.l0]
    rw [if_pos (by omega), if_pos (by omega), if_pos (by omega), rd39 out n x hx, show wrap64 ((n : Int) - 1) = (n : Int) - 1 by unfold wrap64; omega]
    simp only [lastI, hx]
    by_cases h : x.f0 = t
    · rw [if_pos h, if_pos h]
    · rw [if_neg h, if_neg h]
      exact ih
theorem last_some (out : List S39) (t : Int) (hlen : out.length ≤ 4096) (k : Nat) (hk : 4098 ≤ k) : cadencyref08_last.f k out t = some (match lastI out t out.length with | some i => (i : Int) | none => -1) := by
  unfold cadencyref08_last.f
  rw [show wrap64 ((out.length : Int) - 1) = (out.length : Int) - 1 by unfold wrap64; omega]
  exact last_go out t hlen out.length (Nat.le_refl _) k (by omega)
theorem lastI_more (out : List S39) (y : S39) (t : Int) : ∀ n, n ≤ out.length → lastI (out ++ [y]) t n = lastI out t n
  | 0, _ => rfl
  | n + 1, hn => by
    have hlt : n < out.length := by omega
    simp only [lastI]
    rw [List.getElem?_append_left hlt, lastI_more out y t n (by omega)]
theorem lastI_snoc (out : List S39) (y : S39) (t : Int) : lastI (out ++ [y]) t (out ++ [y]).length = if y.f0 = t then some out.length else lastI out t out.length := by
  rw [List.length_append]
  show lastI (out ++ [y]) t (out.length + 1) = _
  simp only [lastI]
  rw [List.getElem?_append_right (Nat.le_refl _), Nat.sub_self]
  simp only [List.getElem?_cons_zero]
  rw [lastI_more _ _ _ _ (Nat.le_refl _)]
theorem lastI_lt (out : List S39) (t : Int) : ∀ n i, n ≤ out.length → lastI out t n = some i → i < out.length
  | 0, i, _, h => by cases h
  | n + 1, i, hn, h => by
    have hlt : n < out.length := by omega
    simp only [lastI] at h
    rw [List.getElem?_eq_getElem hlt] at h
    simp only at h
    split at h
    · cases h; exact hlt
    · exact lastI_lt out t n i (by omega) h
theorem snoc_ind {α : Type} {P : List α → Prop} (h0 : P []) (h1 : ∀ l x, P l → P (l ++ [x])) : ∀ l, P l := by
  have : ∀ (n : Nat) (l : List α), l.length = n → P l := by
    intro n
    induction n with
    | zero => intro l hl; rw [List.length_eq_zero_iff.1 hl]; exact h0
    | succ n ih =>
      intro l hl
      have hne : l ≠ [] := fun e => by rw [e] at hl; simp at hl
      rw [← List.dropLast_concat_getLast hne]
      exact h1 _ _ (ih _ (by simp; omega))
  exact fun l => this _ l rfl
/-- How soon, by the last job. -/
theorem soon_last (l : List Tsk) (t : Int) : ∀ (out : List Jb), soon l out t = match lastI (out.map ofJ) t (out.map ofJ).length with | some i => (match (out.map ofJ)[i]? with | some x => x.f1 + (tsk l t).t | none => 0) | none => 0 := by
  refine snoc_ind rfl ?_
  · intro out y ih
    rw [soon_snoc, List.map_append, List.map_cons, List.map_nil, lastI_snoc]
    by_cases h : y.task = t
    · rw [if_pos h, if_pos (show (ofJ y).f0 = t from h)]
      simp only
      rw [List.getElem?_append_right (Nat.le_refl _), Nat.sub_self]
      simp only [List.getElem?_cons_zero]
      rw [h]
      rfl
    · rw [if_neg h, if_neg (show ¬ (ofJ y).f0 = t from h), ih]
      cases hl : lastI (out.map ofJ) t (out.map ofJ).length with
      | none => rfl
      | some i =>
        have hi := lastI_lt _ _ _ _ (Nat.le_refl _) hl
        simp only
        rw [List.getElem?_append_left hi]


def lastV (out : List Jb) (t : Int) : Int := match lastI (out.map ofJ) t (out.map ofJ).length with | some i => (i : Int) | none => -1
theorem c_ofJ {w : World} {A : Option Addr} {n : Nat} {xs : List Jb} (h : Kd.C kJb w A n xs) : Kd.C k39 w A n (xs.map ofJ) := C_map ofJ rfl (fun h => h) h
theorem drawn_keeps {w w' : World} (h : Drawn0 w w') : Keeps [] w w' := by
  obtain ⟨n, rfl⟩ := h.out
  exact Keeps.of_below h.below
theorem last_any (A : Option Addr) (c : Nat) (out : List Jb) (t : Int) (w : World) (hC : kJb.C w A out.length out) (hc : out.length ≤ c) (hl : out.length ≤ 4096) :
    Calls Try.prog 30 #[.slice A out.length c, .int .i64 t] w fun e w' => e = .returned (.int .i64 (lastV out t)) ∧ Keeps [] w w' := by
  have h := cadencyref08_last.calls 4098 A c (out.map ofJ) t _ w (by rw [List.length_map]; exact c_ofJ hC) (by rw [List.length_map]; exact hc) (last_some (out.map ofJ) t (by rw [List.length_map]; exact hl) 4098 (Nat.le_refl _))
  rw [List.length_map] at h
  exact h.mono fun e w' ⟨h1, h2⟩ => ⟨by simpa only [lastV, List.length_map] using h1, drawn_keeps h2⟩
theorem map_toT_ofT (l : List Tsk) : (l.map ofT).map toT = l := by
  rw [List.map_map]
  conv => rhs; rw [← List.map_id l]
  rfl
theorem refCheckAll_any (A : Option Addr) (c : Nat) (l : List Tsk) (w : World) (hC : kTsk.C w A l.length l) (hc : l.length ≤ c) (hs : ∀ x ∈ l, x.nm.size ≤ maxLen) :
    Calls Try.prog 28 #[.slice A l.length c] w fun e w' => e = .returned (.agg #[.int .i64 (checkAllL l).1, .int .i64 (checkAllL l).2]) ∧ Below w.heap.size w w' := by
  obtain ⟨K, hK⟩ := checkAll_some (l.map ofT) (fun x hx => by
    obtain ⟨y, hy, rfl⟩ := List.mem_map.1 hx
    exact Nat.le_trans (hs y hy) (by decide))
  have h := hK K (Nat.le_refl _)
  rw [map_toT_ofT] at h
  have h2 := cadencyref04_CheckAll.calls K A c (l.map ofT) (checkAllL l).1 (checkAllL l).2 w (by rw [List.length_map]; exact c_ofT hC) (by rw [List.length_map]; exact hc) h
  rwa [List.length_map] at h2
theorem rest29 (x n : Int) (w : World) (h : 0 < n) (hn : n ≤ 1000000000000) : Calls Try.prog 29 #[.int .i64 x, .int .i64 n] w fun e w' => e = .returned (.int .i64 (x % n)) ∧ w' = w := by
  have h0 : ¬ n = 0 := by omega
  have h0' : (n == 0) = false := by simp; omega
  have h1 := Int.tmod_lt_of_pos x h
  have h2 : -n < x.tmod n := neg_lt_tmod x n h
  have hv := rest_val x n h
  rw [Int.tmod_eq_emod_of_nonneg (by omega)] at hv
  have HV := Lib.hid hv
  clear hv
  go_enter Try.func29, Try.ntmps29
  go_wp2
  go_ret
  refine ⟨?_, rfl⟩
  rw [← HV.out]
  rfl
theorem rest29g {x n g : Int} (w : World) (h : 0 < n) (hn : n ≤ 1000000000000) (hg : x % n = g) : Calls Try.prog 29 #[.int .i64 x, .int .i64 n] w fun e w' => e = .returned (.int .i64 g) ∧ w' = w := by
  rw [← hg]; exact rest29 x n w h hn
theorem rest29a {x n g : Int} (w : World) (h : 0 < n) (hn : n ≤ 1000000000000) (hg : x % n = g) : Calls Try.prog 29 #[.int .i64 x, .int .i64 n] w fun e w' => e = .returned (.int .i64 g) ∧ w = w' := by
  rw [← hg]; exact (rest29 x n w h hn).mono fun _ _ ⟨a, b⟩ => ⟨a, b.symm⟩
end Go.Proofs.Ytcdmgalhboijcaa.Pu
