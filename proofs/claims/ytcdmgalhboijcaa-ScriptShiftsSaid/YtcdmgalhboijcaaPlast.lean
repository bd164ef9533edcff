/- The document's rest, last and CheckAll of layer 8, as contracts of lists. -/
import Derived.Test.YtcdmgalhboijcaaDx5
import Derived.Test.YtcdmgalhboijcaaPcheck
import Derived.Test.YtcdmgalhboijcaaDecode
set_option linter.unusedVariables false
set_option linter.unusedSimpArgs false
namespace Go.Proofs.Ytcdmgalhboijcaa.Pu
open Go.RowKit Go.Proofs.Ytcdmgalhboijcaa.D Go.Proofs.YtcdmgalhboijcaaW.PrintWords Go.Proofs.YtcdmgalhboijcaaW.PrintLast Go.Proofs.Ytcdmgalhboijcaa.Sc

theorem rd39 (l : List S39) (i : Nat) (x : S39) (h : l[i]? = some x) : rd_T39 l (i : Int) = x := by
  unfold rd_T39
  rw [List.getD_eq_getElem?_getD]
  simp [h]
theorem rest_val (x n : Int) (h : 0 < n) : (x.tmod n + n).tmod n = x % n := by
  have h1 := Int.tmod_lt_of_pos x h
  have h2 : -n < x.tmod n := neg_lt_tmod x n h
  rw [Int.tmod_eq_emod_of_nonneg (by omega), Int.add_emod_right]
  have e := Int.tmod_add_mul_tdiv x n
  have : x % n = (x.tmod n) % n := by
    conv => lhs; rw [← e]
    rw [Int.add_mul_emod_self_left]
  exact this.symm
/-- The last job of a task, by its place. -/
def lastI (out : List S39) (t : Int) : Nat → Option Nat
  | 0 => none
  | n + 1 => match out[n]? with
    | some x => if x.f0 = t then some n else lastI out t n
    | none => none
theorem last_go (out : List S39) (t : Int) (hlen : out.length ≤ 4096) : ∀ n, n ≤ out.length → ∀ k, n + 1 ≤ k → cadencyref08_last.l0 k out t ((n : Int) - 1) = some (match lastI out t n with | some i => (i : Int) | none => -1)
  | 0, _, k, hk => by
    obtain ⟨k, rfl⟩ : ∃ m, k = m + 1 := ⟨k - 1, by omega⟩
    simp only [cadencyref08_last.l0]
    rw [if_neg (by omega)]
    rfl
  | n + 1, hn, k, hk => by
    obtain ⟨k, rfl⟩ : ∃ m, k = m + 1 := ⟨k - 1, by omega⟩
    have hlt : n < out.length := by omega
    obtain ⟨x, hx⟩ : ∃ x, out[n]? = some x := ⟨_, List.getElem?_eq_getElem hlt⟩
    have ih := last_go out t hlen n (by omega) k (by omega)
    have e : (((n + 1 : Nat) : Int) - 1) = (n : Int) := by omega
    rw [e]
    simp only [cadencyref08_last.l0]
    rw [if_pos (by omega), if_pos (by omega), if_pos (by omega), rd39 out n x hx, show wrap64 ((n : Int) - 1) = (n : Int) - 1 by unfold wrap64; omega]
    simp only [lastI, hx]
    by_cases h : x.f0 = t
    · rw [if_pos h, if_pos h]
    · rw [if_neg h, if_neg h]
      exact ih
theorem last_some (out : List S39) (t : Int) (hlen : out.length ≤ 4096) (k : Nat) (hk : 4098 ≤ k) : cadencyref08_last.f k out t = some (match lastI out t out.length with | some i => (i : Int) | none => -1) := by
  unfold cadencyref08_last.f
  rw [show wrap64 ((out.length : Int) - 1) = (out.length : Int) - 1 by unfold wrap64; omega]
  exact last_go out t hlen out.length (Nat.le_refl _) k (by omega)
theorem lastI_more (out : List S39) (y : S39) (t : Int) : ∀ n, n ≤ out.length → lastI (out ++ [y]) t n = lastI out t n
  | 0, _ => rfl
  | n + 1, hn => by
    have hlt : n < out.length := by omega
    simp only [lastI]
    rw [List.getElem?_append_left hlt, lastI_more out y t n (by omega)]
theorem lastI_snoc (out : List S39) (y : S39) (t : Int) : lastI (out ++ [y]) t (out ++ [y]).length = if y.f0 = t then some out.length else lastI out t out.length := by
  rw [List.length_append]
  show lastI (out ++ [y]) t (out.length + 1) = _
  simp only [lastI]
  rw [List.getElem?_append_right (Nat.le_refl _), Nat.sub_self]
  simp only [List.getElem?_cons_zero]
  rw [lastI_more _ _ _ _ (Nat.le_refl _)]
theorem lastI_lt (out : List S39) (t : Int) : ∀ n i, n ≤ out.length → lastI out t n = some i → i < out.length
  | 0, i, _, h => by cases h
  | n + 1, i, hn, h => by
    have hlt : n < out.length := by omega
    simp only [lastI] at h
    rw [List.getElem?_eq_getElem hlt] at h
    simp only at h
    split at h
    · cases h; exact hlt
    · exact lastI_lt out t n i (by omega) h
theorem snoc_ind {α : Type} {P : List α → Prop} (h0 : P []) (h1 : ∀ l x, P l → P (l ++ [x])) : ∀ l, P l := by
  have : ∀ (n : Nat) (l : List α), l.length = n → P l := by
    intro n
    induction n with
    | zero => intro l hl; rw [List.length_eq_zero_iff.1 hl]; exact h0
    | succ n ih =>
      intro l hl
      have hne : l ≠ [] := fun e => by rw [e] at hl; simp at hl
      rw [← List.dropLast_concat_getLast hne]
      exact h1 _ _ (ih _ (by simp; omega))
  exact fun l => this _ l rfl
/-- How soon, by the last job. -/
theorem soon_last (l : List Tsk) (t : Int) : ∀ (out : List Jb), soon l out t = match lastI (out.map ofJ) t (out.map ofJ).length with | some i => (match (out.map ofJ)[i]? with | some x => x.f1 + (tsk l t).t | none => 0) | none => 0 := by
  refine snoc_ind rfl ?_
  · intro out y ih
    rw [soon_snoc, List.map_append, List.map_cons, List.map_nil, lastI_snoc]
    by_cases h : y.task = t
    · rw [if_pos h, if_pos (show (ofJ y).f0 = t from h)]
      simp only
      rw [List.getElem?_append_right (Nat.le_refl _), Nat.sub_self]
      simp only [List.getElem?_cons_zero]
      rw [h]
      rfl
    · rw [if_neg h, if_neg (show ¬ (ofJ y).f0 = t from h), ih]
      cases hl : lastI (out.map ofJ) t (out.map ofJ).length with
      | none => rfl
      | some i =>
        have hi := lastI_lt _ _ _ _ (Nat.le_refl _) hl
        simp only
        rw [List.getElem?_append_left hi]


def lastV (out : List Jb) (t : Int) : Int := match lastI (out.map ofJ) t (out.map ofJ).length with | some i => (i : Int) | none => -1
theorem c_ofJ {w : World} {A : Option Addr} {n : Nat} {xs : List Jb} (h : Kd.C kJb w A n xs) : Kd.C k39 w A n (xs.map ofJ) := C_map ofJ rfl (fun h => h) h
theorem drawn_keeps {w w' : World} (h : Drawn0 w w') : Keeps [] w w' := by
  obtain ⟨n, rfl⟩ := h.out
  exact Keeps.of_below h.below
theorem last_any (A : Option Addr) (c : Nat) (out : List Jb) (t : Int) (w : World) (hC : kJb.C w A out.length out) (hc : out.length ≤ c) (hl : out.length ≤ 4096) :
    Calls Try.prog 30 #[.slice A out.length c, .int .i64 t] w fun e w' => e = .returned (.int .i64 (lastV out t)) ∧ Keeps [] w w' := by
  have h := cadencyref08_last.calls 4098 A c (out.map ofJ) t _ w (by rw [List.length_map]; exact c_ofJ hC) (by rw [List.length_map]; exact hc) (last_some (out.map ofJ) t (by rw [List.length_map]; exact hl) 4098 (Nat.le_refl _))
  rw [List.length_map] at h
  exact h.mono fun e w' ⟨h1, h2⟩ => ⟨by simpa only [lastV, List.length_map] using h1, drawn_keeps h2⟩
theorem map_toT_ofT (l : List Tsk) : (l.map ofT).map toT = l := by
  rw [List.map_map]
  conv => rhs; rw [← List.map_id l]
  rfl
theorem refCheckAll_any (A : Option Addr) (c : Nat) (l : List Tsk) (w : World) (hC : kTsk.C w A l.length l) (hc : l.length ≤ c) (hs : ∀ x ∈ l, x.nm.size ≤ maxLen) :
    Calls Try.prog 28 #[.slice A l.length c] w fun e w' => e = .returned (.agg #[.int .i64 (checkAllL l).1, .int .i64 (checkAllL l).2]) ∧ Below w.heap.size w w' := by
  obtain ⟨K, hK⟩ := checkAll_some (l.map ofT) (fun x hx => by
    obtain ⟨y, hy, rfl⟩ := List.mem_map.1 hx
    exact Nat.le_trans (hs y hy) (by decide))
  have h := hK K (Nat.le_refl _)
  rw [map_toT_ofT] at h
  have h2 := cadencyref04_CheckAll.calls K A c (l.map ofT) (checkAllL l).1 (checkAllL l).2 w (by rw [List.length_map]; exact c_ofT hC) (by rw [List.length_map]; exact hc) h
  rwa [List.length_map] at h2
theorem rest29 (x n : Int) (w : World) (h : 0 < n) (hn : n ≤ 1000000000000) : Calls Try.prog 29 #[.int .i64 x, .int .i64 n] w fun e w' => e = .returned (.int .i64 (x % n)) ∧ w' = w := by
  have h0 : ¬ n = 0 := by omega
  have h0' : (n == 0) = false := by simp; omega
  have h1 := Int.tmod_lt_of_pos x h
  have h2 : -n < x.tmod n := neg_lt_tmod x n h
  have hv := rest_val x n h
  rw [Int.tmod_eq_emod_of_nonneg (by omega)] at hv
  have HV := Lib.hid hv
  clear hv
  go_enter Try.func29, Try.ntmps29
  go_wp2
  go_ret
  refine ⟨?_, rfl⟩
  rw [← HV.out]
  rfl
theorem rest29g {x n g : Int} (w : World) (h : 0 < n) (hn : n ≤ 1000000000000) (hg : x % n = g) : Calls Try.prog 29 #[.int .i64 x, .int .i64 n] w fun e w' => e = .returned (.int .i64 g) ∧ w' = w := by
  rw [← hg]; exact rest29 x n w h hn
theorem rest29a {x n g : Int} (w : World) (h : 0 < n) (hn : n ≤ 1000000000000) (hg : x % n = g) : Calls Try.prog 29 #[.int .i64 x, .int .i64 n] w fun e w' => e = .returned (.int .i64 g) ∧ w = w' := by
  rw [← hg]; exact (rest29 x n w h hn).mono fun _ _ ⟨a, b⟩ => ⟨a, b.symm⟩
end Go.Proofs.Ytcdmgalhboijcaa.Pu
