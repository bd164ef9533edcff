/- rest; the walk of HeapLeast. -/
import Derived.Test.YtlcbcagbiiachaaNil
namespace Go.Proofs.Ytlcbcagbiiachaa
open Go.RowKit

theorem neg_lt_tmod (x n : Int) (h : 0 < n) : -n < x.tmod n := by
  have h1 := Int.tmod_lt_of_pos (-x) h
  rw [Int.neg_tmod] at h1
  omega

theorem rest_val (x n : Int) (h : 0 < n) : (x.tmod n + n).tmod n = x % n := by
  have h1 := Int.tmod_lt_of_pos x h
  have h2 : -n < x.tmod n := neg_lt_tmod x n h
  rw [Int.tmod_eq_emod_of_nonneg (by omega), Int.add_emod_right]
  have e := Int.tmod_add_mul_tdiv x n
  have : x % n = (x.tmod n) % n := by
    conv => lhs; rw [← e]
    rw [Int.add_mul_emod_self_left]
  exact this.symm

theorem rest_any (x n : Int) (w : World) (h : 0 < n) (hn : n ≤ 1000000000) : Calls Try.prog 22 #[.int .i64 x, .int .i64 n] w fun e w' => e = .returned (.int .i64 (x % n)) ∧ w = w' := by
  have h0 : ¬ n = 0 := by omega
  have h0' : (n == 0) = false := by simp; omega
  have h1 := Int.tmod_lt_of_pos x h
  have h2 : -n < x.tmod n := neg_lt_tmod x n h
  have hv := rest_val x n h
  go_enter Try.func22, Try.ntmps22
  go_wp2
  go_ret
  exact ⟨rfl, rfl⟩

theorem newI_nil (w : World) :
    Calls Try.prog 9 #[.func (.func 10) #[] #[], .slice none 0 0] w fun e w' => ∃ F : List Nat, e = .returned (.pointer (some ⟨w.heap.size, 0, none⟩)) ∧ HI w' w.heap.size F 0 [] ∧ Keeps [] w w' ∧ (∀ k ∈ F, w.heap.size ≤ k) :=
  newI _ [] w (by decide) ⟨none, 0, rfl, by decide, by simp⟩

/-- Pop, whatever is in it. -/
theorem popI_any (b : Nat) (F : List Nat) (came : Nat) (S : List (Int × Nat)) (w : World) (h : HI w b F came S) (hn : S.length < 1000000) :
    Calls Try.prog 15 #[.pointer (some ⟨b, 0, none⟩)] w fun e w' => (∃ v, e = .returned v) ∧ HI w' b F came S.tail ∧ Keeps F w w' := by
  cases S with
  | nil =>
    refine (popI_none b F came w h).mono ?_
    rintro e w' ⟨rfl, rfl⟩
    exact ⟨⟨_, rfl⟩, h, Keeps.refl _ _⟩
  | cons s S =>
    refine (popI_some b F came s S w h (by simp at hn; omega)).mono ?_
    rintro e w' ⟨rfl, h', k⟩
    exact ⟨⟨_, rfl⟩, h', k⟩

/-- The first of what is in order is not above any other one. -/
theorem head_least {xs : List Int} {s : Int × Nat} {S : List (Int × Nat)} (ho : Ord keyI (s :: S)) (hp : pour keyI 0 [] xs = s :: S) : ∀ x ∈ xs, s.1 ≤ x := by
  intro x hx
  have h1 := pour_perm keyI xs 0 []
  rw [hp] at h1
  have h2 : x ∈ (s :: S).map Prod.fst := h1.symm.mem_iff.1 (by simpa using hx)
  simp only [List.map_cons, List.mem_cons, List.mem_map] at h2
  rcases h2 with rfl | ⟨y, hy, rfl⟩
  · exact Int.le_refl _
  · have h3 := (List.pairwise_cons.1 ho).1 y hy
    unfold ahead at h3
    simp only [keyI] at h3
    omega

set_option maxHeartbeats 2000000 in
set_option maxRecDepth 100000 in
theorem least_walk (v : Value) (xs : List Int) (pops : Int) (w : World) (hm : xs.length ≤ 9223372036854775807) (hv : RowAt (fun x : Int => .int .i64 x) w v xs) :
    Calls Try.prog 5 #[v, .int .i64 pops] w fun e w' => e = .returned (.bool true) ∧ Keeps [] w w' := by
  obtain ⟨a, cap, rfl, hlc, hcell⟩ := hv
  have HC := Lib.hid hcell
  clear hcell
  go_enter Try.func5, Try.ntmps5
  go_wp2_with fail
  refine (awake_true _).mono ?_
  rintro e w1 ⟨rfl, K1⟩
  go_wp2_with fail
  refine (newI_nil _).mono ?_
  rintro e w2 ⟨F, rfl, q2, K2, hF⟩
  have K0 : Keeps [] w w2 := K1.andThen K2 (by simp)
  have hF' : ∀ k ∈ F, w.heap.size ≤ k := fun k hk => by have := hF k hk; have := K1.size; omega
  obtain ⟨b, hb⟩ : ∃ b, b = w1.heap.size := ⟨_, rfl⟩
  rw [← hb] at q2
  rw [← hb]
  clear hb K1 K2 hF
  go_wp2_with fail
  go_loopg [7] (40) (fun gh iv wr => ∃ (i : Nat) (F : List Nat), 40 - i ≤ gh ∧ iv = .int .i64 i ∧ i ≤ 40 ∧ i ≤ xs.length ∧ HI wr b F i (pour keyI 0 [] (xs.take i)) ∧ Keeps [] w wr ∧ (∀ k ∈ F, w.heap.size ≤ k))
  case atStart => exact ⟨0, F, by omega, rfl, by omega, by omega, by simpa [pour] using q2, K0, hF'⟩
  case round =>
    obtain ⟨i, F, hgh, rfl, hi40, hil, hq, hK, hF⟩ := hrel
    have HQ := Lib.hid hq
    have HF := Lib.hid hF
    have HK := Lib.hid hK
    clear hq hF hK q2 K0 hF'
    by_cases hlt : i < xs.length ∧ i < 40
    · obtain ⟨h1, h2⟩ := hlt
      obtain ⟨x, hx⟩ : ∃ x, xs[i]? = some x := ⟨xs[i], by simp [h1]⟩
      obtain ⟨b0, o0, ha, hc⟩ := HC.out (by intro e; rw [e] at h1; simp at h1)
      subst ha
      have hcx := hc i x hx
      have hcr : wr.cell? ⟨b0, o0 + i, none⟩ = some (.int .i64 x) := by
        rw [← hcx]
        exact World.cell?_of_block (HK.out.block b0 (World.block_lt_of_cell? _ _ hcx) (by simp))
      have HX := Lib.hid hx
      have HCC := Lib.hid hc
      clear hcx hx hc
      have h1' : (i : Int) < (xs.length : Int) := by omega
      have h2' : (i : Int) < 40 := by omega
      go_wp2_with fail
      refine (pushI b F i _ x _ HQ.out (by rw [pour_length]; simp; omega) (by omega)).mono ?_
      rintro e w3 ⟨rfl, F', hq3, K3, hF3⟩
      have ep : ins keyI (x, i) (pour keyI 0 [] (xs.take i)) = pour keyI 0 [] (xs.take (i + 1)) := by
        have hl : (xs.take i).length = i := by simp; omega
        have e : xs.take (i + 1) = xs.take i ++ [x] := by rw [List.take_add_one, HX.out]; rfl
        rw [e, pour_snoc, hl, Nat.zero_add]
      rw [ep] at hq3
      have hne : ∃ s S, pour keyI 0 [] (xs.take (i + 1)) = s :: S := by
        rw [← ep]
        have := ins_length keyI (x, i) (pour keyI 0 [] (xs.take i))
        cases hc : ins keyI (x, i) (pour keyI 0 [] (xs.take i)) with
        | nil => rw [hc] at this; simp at this
        | cons s S => exact ⟨s, S, rfl⟩
      obtain ⟨s, S, hsS⟩ := hne
      have hK3 : Keeps [] w w3 := HK.out.andThen K3 (fun g hg => .inr (HF.out g hg))
      have hF3' : ∀ k ∈ F', w.heap.size ≤ k := fun k hk => by
        rcases hF3 k hk with h | h
        · exact HF.out k h
        · have := HK.out.size; omega
      have hSl : (s :: S).length = i + 1 := by rw [← hsS, pour_length]; simp; omega
      have HQ4 : Hid (HI w3 b F' (i + 1) (pour keyI 0 [] (xs.take (i + 1)))) := Lib.hid hq3
      rw [hsS] at hq3
      have HQ3 := Lib.hid hq3
      have hmin : ∀ k y, k ≤ i → xs[k]? = some y → s.1 ≤ y := fun k y hk hy => head_least hq3.1 hsS y (by
        have : (xs.take (i + 1))[k]? = some y := by rw [List.getElem?_take, if_pos (by omega)]; exact hy
        exact List.mem_of_getElem? this)
      have HMIN := Lib.hid hmin
      have HK3 := Lib.hid hK3
      have HF3 := Lib.hid hF3'
      have HSL := Lib.hid hSl
      have hcl : ∀ k y, xs[k]? = some y → w3.cell? ⟨b0, o0 + k, none⟩ = some (.int .i64 y) := fun k y hy => by
        rw [← HCC.out k y hy]
        exact World.cell?_of_block (HK3.out.block b0 (World.block_lt_of_cell? _ _ (HCC.out k y hy)) (by simp))
      have HCL := Lib.hid hcl
      clear ep hq3 hmin hK3 hF3' hF3 hSl K3 hcr hcl
      go_wp2_with (go_at_call 27; refine (peekI_some b F' (i + 1) s S _ HQ3.out).mono ?_; rintro e w' ⟨rfl, rfl⟩)
      refine (lenI b F' (i + 1) (s :: S) _ HQ3.out).mono ?_
      rintro e w' ⟨rfl, rfl⟩
      rw [HSL.out]
      go_wp2_with fail
      go_loopg [12] (i + 1) (fun gh kv wr => ∃ k : Nat, i + 1 - k ≤ gh ∧ kv = .int .i64 k ∧ k ≤ i + 1 ∧ wr = w3)
      case atStart => exact ⟨0, by omega, rfl, by omega, rfl⟩
      case round =>
        obtain ⟨k, hgk, rfl, hki, rfl⟩ := hrel
        by_cases hk : k ≤ i
        · obtain ⟨y, hy⟩ : ∃ y, xs[k]? = some y := ⟨xs[k]'(by omega), by simp⟩
          have hyc := HCL.out k y hy
          have hsy : decide (y < s.1) = false := by have := HMIN.out k y hk hy; simp; omega
          have hk' : (k : Int) ≤ (i : Int) := by omega
          have hkl : k < xs.length := by omega
          have HY := Lib.hid hy
          clear hy
          go_wp2
          go_roundg (i + 1 - (k + 1))
          case rel => exact ⟨k + 1, Nat.le_refl _, by go_num, by omega, rfl⟩
          case measure => omega
        · have hk' : decide (k ≤ i) = false := by simp; omega
          go_wp2
          go_roundg (40 - (i + 1))
          case rel => exact ⟨i + 1, F', Nat.le_refl _, by go_num, by omega, by omega, HQ4.out, HK3.out, HF3.out⟩
          case measure => omega
    · have hend : (decide (i < xs.length) = false) ∨ (decide (i < xs.length) = true ∧ decide ((i : Int) < 40) = false) := by
        by_cases h : i < xs.length
        · right; exact ⟨by simpa using h, by simp; omega⟩
        · left; simpa using h
      have hi : i = min xs.length 40 := by omega
      have HII := Lib.hid hi
      obtain ⟨N, hN⟩ : ∃ N : Nat, pops % 45 = (N : Int) := Int.eq_ofNat_of_zero_le (Int.emod_nonneg _ (by omega))
      have hNl : N < 45 := by have := Int.emod_lt_of_pos pops (show (0 : Int) < 45 by omega); omega
      have HN := Lib.hid hN
      have hSl : (pour keyI 0 [] (xs.take i)).length = i := by rw [pour_length]; simp; omega
      have HS := Lib.hid hSl
      clear hi hN hSl hlt
      rcases hend with t1 | ⟨t1, t2⟩
      all_goals
        go_wp2_with fail
        refine (rest_any pops 45 _ (by omega) (by omega)).mono ?_
        rintro e w' ⟨rfl, rfl⟩
        rw [HN.out]
        go_wp2_with fail
        go_loopg [14] (N) (fun gh kv wr => ∃ k : Nat, N - k ≤ gh ∧ kv = .int .i64 k ∧ k ≤ N ∧ HI wr b F i ((pour keyI 0 [] (xs.take i)).drop k) ∧ Keeps [] w wr)
        case atStart => exact ⟨0, by omega, rfl, by omega, by simpa using HQ.out, HK.out⟩
        case round =>
          obtain ⟨k, hgk, rfl, hkN, hq, hK⟩ := hrel
          have HQk := Lib.hid hq
          have HKk := Lib.hid hK
          clear hq hK
          by_cases hk : k < N
          · go_wp2_with fail
            refine (popI_any b F i _ _ HQk.out (by rw [List.length_drop, HS.out]; omega)).mono ?_
            rintro e w4 ⟨⟨v4, rfl⟩, hq4, K4⟩
            have HQ4 := Lib.hid hq4
            have HK4 := Lib.hid (HKk.out.andThen K4 (fun g hg => .inr (HF.out g hg)))
            clear hq4 K4
            go_wp2
            go_roundg (N - (k + 1))
            case rel => exact ⟨k + 1, Nat.le_refl _, by go_num, by omega, by have := HQ4.out; rwa [List.tail_drop] at this, HK4.out⟩
            case measure => omega
          · have hk' : decide (k < N) = false := by simpa using hk
            obtain rfl : k = N := by omega
            go_wp2_with fail
            refine (lenI b F i _ _ HQk.out).mono ?_
            rintro e w' ⟨rfl, rfl⟩
            rw [show ((List.drop k (pour keyI 0 [] (xs.take i))).length) = i - k from by rw [List.length_drop, HS.out]]
            go_wp2
            all_goals
              go_ret
              have hI := HII.out
              refine ⟨?_, HKk.out⟩
              simp
              omega
end Go.Proofs.Ytlcbcagbiiachaa
