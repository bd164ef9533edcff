/- rest, Room, and the walk of FifoRoom. -/
import Derived.Test.YtoecfimmgiajpaaAwake
namespace Go.Proofs.Ytoecfimmgiajpaa
open Go.RowKit

theorem neg_lt_tmod (x n : Int) (h : 0 < n) : -n < x.tmod n := by
  have h1 := Int.tmod_lt_of_pos (-x) h
  rw [Int.neg_tmod] at h1
  omega

theorem rest_val (x n : Int) (h : 0 < n) : (x.tmod n + n).tmod n = x % n := by
  have h1 := Int.tmod_lt_of_pos x h
  have h2 : -n < x.tmod n := neg_lt_tmod x n h
  rw [Int.tmod_eq_emod_of_nonneg (by omega), Int.add_emod_right]
  have e := Int.tmod_add_mul_tdiv x n
  have : x % n = (x.tmod n) % n := by
    conv => lhs; rw [← e]
    rw [Int.add_mul_emod_self_left]
  exact this.symm

theorem rest_any (x n : Int) (w : World) (h : 0 < n) (hn : n ≤ 1000000000) : Calls Try.prog 13 #[.int .i64 x, .int .i64 n] w fun e w' => e = .returned (.int .i64 (x % n)) ∧ w = w' := by
  have h0 : ¬ n = 0 := by omega
  have h0' : (n == 0) = false := by simp; omega
  have h1 := Int.tmod_lt_of_pos x h
  have h2 : -n < x.tmod n := neg_lt_tmod x n h
  have hv := rest_val x n h
  go_enter Try.func13, Try.ntmps13
  go_wp2
  go_ret
  exact ⟨rfl, rfl⟩

theorem roomI (b : Nat) (F : List Nat) (size : Nat) (l : List Int) (w : World) (h : QI w b F size l) :
    Calls Try.prog 18 #[.pointer (some ⟨b, 0, none⟩)] w fun e w' => e = .returned (.int .i64 size) ∧ w = w' := by
  obtain ⟨ao, frm, hb⟩ := h.head
  have h0 := (facts3 hb).1
  clear hb
  go_enter Try.func18, Try.ntmps18
  go_wp2
  go_ret
  exact ⟨rfl, rfl⟩

theorem newI_nil (w : World) :
    Calls Try.prog 14 #[.slice none 0 0] w fun e w' => ∃ (F : List Nat) (size : Nat), e = .returned (.pointer (some ⟨w.heap.size, 0, none⟩)) ∧ QI w' w.heap.size F size [] ∧ Keeps [] w w' ∧ (∀ k ∈ F, w.heap.size ≤ k) ∧ size ≤ max 8 (2 * 0) :=
  newI _ [] w (by decide) ⟨none, 0, rfl, by decide, by simp⟩

/-- The numbers from i - m to i - 1. -/
def span (i m : Nat) : List Int := (List.range' (i - m) m).map Int.ofNat

theorem length_span (i m : Nat) : (span i m).length = m := by simp [span]

theorem span_snoc (i m : Nat) (h : m ≤ i) : span i m ++ [(i : Int)] = span (i + 1) (m + 1) := by
  unfold span
  have e : i + 1 - (m + 1) = i - m := by omega
  rw [e, List.range'_concat, List.map_append]
  have e2 : i - m + 1 * m = i := by omega
  rw [e2]; rfl

theorem span_cons (i m : Nat) (h : m ≤ i) : span (i + 1) (m + 1) = ((i - m : Nat) : Int) :: span (i + 1) m := by
  unfold span
  have e : i + 1 - (m + 1) = i - m := by omega
  have e2 : i + 1 - m = i - m + 1 := by omega
  rw [e, e2, List.range'_succ]; rfl

theorem room_walk (few many : Int) (_w0 : (Lit.int .i64 few).wf = true) (_w1 : (Lit.int .i64 many).wf = true) (w : World) :
    Calls Try.prog 4 #[.int .i64 few, .int .i64 many] w fun e w' => e = .returned (.bool true) ∧ Keeps [] w w' := by
  obtain ⟨k, hk⟩ : ∃ k : Nat, few % 21 = (k : Int) := Int.eq_ofNat_of_zero_le (Int.emod_nonneg _ (by decide))
  obtain ⟨N, hN⟩ : ∃ N : Nat, many % 2001 = (N : Int) := Int.eq_ofNat_of_zero_le (Int.emod_nonneg _ (by decide))
  have hk20 : (k : Int) ≤ 20 := by omega
  have hN2 : (N : Int) ≤ 2000 := by omega
  have HK := Lib.hid hk
  have HN := Lib.hid hN
  clear hk hN
  go_enter Try.func4, Try.ntmps4
  go_wp2_with fail
  refine (awake_true _).mono ?_
  rintro e w1 ⟨rfl, K1⟩
  go_wp2_with fail
  refine (rest_any few 21 _ (by decide) (by decide)).mono ?_
  rintro e w' ⟨rfl, rfl⟩
  rw [HK.out]
  go_wp2_with fail
  refine (newI_nil _).mono ?_
  rintro e w2 ⟨F, size, rfl, q2, K2, hF, hsz⟩
  have k2 : Keeps [] w w2 := K1.trans K2
  obtain ⟨b, hb⟩ : ∃ b, b = w1.heap.size := ⟨_, rfl⟩
  rw [← hb] at q2 hF ⊢
  have hF' : ∀ k ∈ F, w.heap.size ≤ k := fun g hg => by have := hF g hg; have := K1.size; omega
  have hb1 := K1.size
  clear hb K1 K2 hF
  go_wp2_with fail
  go_loopw [8] (fun i wr => ∃ (i' m : Nat) (F : List Nat) (size : Nat), i = .int .i64 i' ∧ i' ≤ N ∧ m = min i' k ∧ QI wr b F size (span i' m) ∧ Keeps [] w wr ∧ (∀ k ∈ F, w.heap.size ≤ k) ∧ size ≤ max 8 (2 * (k + 1))) (fun i _ => N - (intOf i).toNat)
  case atStart => exact ⟨0, 0, F, size, rfl, by omega, by omega, by simpa [span] using q2, k2, hF', by omega⟩
  case round =>
    obtain ⟨i, m, F, size, rfl, hiN, hm, hq, hK, hF, hsz⟩ := hrel
    have HQ := Lib.hid hq
    have HF := Lib.hid hF
    have HM := Lib.hid hm
    clear hq hF q2 k2 hF' hm
    go_wp2_with fail
    refine (rest_any many 2001 _ (by decide) (by decide)).mono ?_
    rintro e w' ⟨rfl, rfl⟩
    rw [HN.out]
    by_cases hlt : i < N
    · have hlt' : (i : Int) < (N : Int) := by omega
      go_wp2_with fail
      have hm := HM.out
      refine (pushI b F size _ (i : Int) _ HQ.out (by omega)).mono ?_
      rintro e w3 ⟨F', rfl, hq', hK', hF'⟩
      have hsz' : (if (span i m).length < size then size else max 8 (2 * size)) ≤ max 8 (2 * (k + 1)) := by
        have hle := HQ.out.le
        rw [length_span] at hle ⊢
        split <;> omega
      generalize (if (span i m).length < size then size else max 8 (2 * size)) = size' at hq' hsz'
      rw [span_snoc i m (by omega)] at hq'
      have hK3 := hK.andThen hK' (fun g hg => .inr (HF.out g hg))
      have hF3 : Hid (∀ k ∈ F', w.heap.size ≤ k) := fun g hg => by
        rcases hF' g hg with h | h
        · exact HF.out g h
        · have := hK.size; omega
      clear hK hK' hF' HQ HF hsz hm
      have HQ := Lib.hid hq'
      clear hq'
      have hle := HQ.out.le
      rw [length_span] at hle
      go_wp2_with fail
      refine (lenI b F' size' _ _ HQ.out).mono ?_
      rintro e w' ⟨rfl, rfl⟩
      rw [length_span]
      by_cases hc : k < i + 1
      · have hmk : m = k := by have := HM.out; omega
        subst hmk
        have hki : m ≤ i := by omega
        have t1 : (m : Int) < ((m + 1 : Nat) : Int) := by omega
        go_wp2_with fail
        have hq4 := HQ.out
        rw [span_cons i m hki] at hq4
        refine (popI_some b F' size' _ _ _ hq4 (by omega)).mono ?_
        rintro e w4 ⟨rfl, q4, k4⟩
        clear hq4
        have hK4 := hK3.andThen k4 (fun g hg => .inr (hF3.out g hg))
        have HQ4 := Lib.hid q4
        clear q4 HQ hK3 k4
        have e1 : ((i - m : Nat) : Int) = (i : Int) - (m : Int) := by omega
        rw [e1]
        go_wp2_with fail
        refine (roomI b F' size' _ _ HQ4.out).mono ?_
        rintro e w' ⟨rfl, rfl⟩
        go_wp2_with fail
        refine (lenI b F' size' _ _ HQ4.out).mono ?_
        rintro e w' ⟨rfl, rfl⟩
        rw [length_span]
        have t2 : ¬ (size' : Int) < (m : Int) := by omega
        go_wp2_with fail
        refine (roomI b F' size' _ _ HQ4.out).mono ?_
        rintro e w' ⟨rfl, rfl⟩
        have t3 : (size' : Int) ≤ 8 + 4 * ((m : Int) + 1) := by omega
        go_wp2
        go_roundw
        case rel => exact ⟨i + 1, m, F', size', by go_num, by omega, by have := HM.out; omega, HQ4.out, hK4, hF3.out, hsz'⟩
        case measure => simp [intOf]; omega
      · have hmi : m = i := by have := HM.out; omega
        subst hmi
        have t1 : ¬ (k : Int) < ((m + 1 : Nat) : Int) := by omega
        have HQ4 := HQ
        go_wp2_with fail
        refine (roomI b F' size' _ _ HQ4.out).mono ?_
        rintro e w' ⟨rfl, rfl⟩
        go_wp2_with fail
        refine (lenI b F' size' _ _ HQ4.out).mono ?_
        rintro e w' ⟨rfl, rfl⟩
        rw [length_span]
        have t2 : ¬ (size' : Int) < ((m + 1 : Nat) : Int) := by omega
        go_wp2_with fail
        refine (roomI b F' size' _ _ HQ4.out).mono ?_
        rintro e w' ⟨rfl, rfl⟩
        have t3 : (size' : Int) ≤ 8 + 4 * ((k : Int) + 1) := by omega
        go_wp2
        go_roundw
        case rel => exact ⟨m + 1, m + 1, F', size', by go_num, by omega, by have := HM.out; omega, HQ4.out, hK3, hF3.out, hsz'⟩
        case measure => simp [intOf]; omega
    · have hlt' : ¬ (i : Int) < (N : Int) := by omega
      go_wp2
      go_ret
      exact ⟨rfl, hK⟩
end Go.Proofs.Ytoecfimmgiajpaa
