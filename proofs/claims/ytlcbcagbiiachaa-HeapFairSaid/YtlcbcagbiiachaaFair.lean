/- The walk of HeapFair. -/
import Derived.Test.YtlcbcagbiiachaaNewT
import Derived.Test.YtlcbcagbiiachaaLeast
import Derived.OpenShut
namespace Go.Proofs.Ytlcbcagbiiachaa
open Go.RowKit

/-- Things that are alike, of which the first is numbered out, and which are n. -/
def alikes (out : Nat) : Nat → List ((Int × Int) × Nat)
  | 0 => []
  | n + 1 => (((3 : Int), (out : Int)), out) :: alikes (out + 1) n
theorem alikes_length : ∀ (n out : Nat), (alikes out n).length = n
  | 0, _ => rfl
  | n + 1, out => by simp [alikes, alikes_length n]
theorem alikes_ins : ∀ (n out : Nat), ins keyT (((3 : Int), ((out + n : Nat) : Int)), out + n) (alikes out n) = alikes out (n + 1)
  | 0, out => by simp [alikes, ins]
  | n + 1, out => by
    have ih := alikes_ins n (out + 1)
    rw [show out + 1 + n = out + (n + 1) by omega] at ih
    simp only [alikes, ins, keyT] at ih ⊢
    rw [if_pos (Int.le_refl _)]
    congr 1

set_option maxHeartbeats 2000000 in
set_option maxRecDepth 100000 in
theorem fair_walk (v : Value) (xs : List Int) (w : World) (hm : xs.length ≤ 9223372036854775807) (hwf : ∀ x ∈ xs, (Lit.int .i64 x).wf = true) (hv : RowAt (fun x : Int => .int .i64 x) w v xs) :
    Calls Try.prog 4 #[v] w fun e w' => e = .returned (.bool true) ∧ Keeps [] w w' := by
  obtain ⟨a, cap, rfl, hlc, hcell⟩ := hv
  have HC := Lib.hid hcell
  have HWF := Lib.hid hwf
  clear hcell hwf
  go_enter Try.func4, Try.ntmps4
  go_wp2_with fail
  refine (awake_true _).mono ?_
  rintro e w1 ⟨rfl, K1⟩
  go_wp2_with fail
  refine (newT_nil _).mono ?_
  rintro e w2 ⟨F, rfl, q2, K2, hF⟩
  have K0 : Keeps [] w w2 := K1.andThen K2 (by simp)
  have hF' : ∀ k ∈ F, w.heap.size ≤ k := fun k hk => by have := hF k hk; have := K1.size; omega
  obtain ⟨b, hb⟩ : ∃ b, b = w1.heap.size := ⟨_, rfl⟩
  rw [← hb] at q2
  rw [← hb]
  clear hb K1 K2 hF
  go_wp2_with fail
  go_loopg [5, 6, 7] (30) (fun gh inv outv iv wr => ∃ (i out n m : Nat) (F : List Nat), 30 - i ≤ gh ∧ m = out + n ∧ iv = .int .i64 i ∧ inv = .int .i64 m ∧ outv = .int .i64 out ∧ i ≤ 30 ∧ i ≤ xs.length ∧ m ≤ 4 * i ∧ HT wr b F m (alikes out n) ∧ Keeps [] w wr ∧ (∀ k ∈ F, w.heap.size ≤ k))
  case atStart => exact ⟨0, 0, 0, 0, F, by omega, rfl, rfl, rfl, rfl, by omega, by omega, by omega, by simpa [alikes] using q2, K0, hF'⟩
  case round =>
    obtain ⟨i, out, n, m, F, hgh, hmo, rfl, rfl, rfl, hi30, hil, hsum, hq, hK, hF⟩ := hrel
    have HQ := Lib.hid hq
    have HF := Lib.hid hF
    have HK := Lib.hid hK
    have HMO := Lib.hid hmo
    clear hq hF hK q2 K0 hF' hmo
    by_cases hlt : i < xs.length ∧ i < 30
    · obtain ⟨h1, h2⟩ := hlt
      obtain ⟨x, hx⟩ : ∃ x, xs[i]? = some x := ⟨xs[i], by simp [h1]⟩
      obtain ⟨b0, o0, ha, hc⟩ := HC.out (by intro e; rw [e] at h1; simp at h1)
      subst ha
      have hcx := hc i x hx
      have hwx := HWF.out x (List.mem_of_getElem? hx)
      have HX := Lib.hid hx
      have HCX := Lib.hid hcx
      have h1' : (i : Int) < (xs.length : Int) := by omega
      have h2' : (i : Int) < 30 := by omega
      obtain ⟨M, hM⟩ : ∃ M : Nat, x % 5 = (M : Int) := Int.eq_ofNat_of_zero_le (Int.emod_nonneg _ (by omega))
      obtain ⟨D, hD⟩ : ∃ D : Nat, (x.tdiv 5) % 5 = (D : Int) := Int.eq_ofNat_of_zero_le (Int.emod_nonneg _ (by omega))
      have hMl : M < 5 := by have := Int.emod_lt_of_pos x (show (0 : Int) < 5 by omega); omega
      have hwq : IntKind.i64.wrap (x.tdiv 5) = x.tdiv 5 := by
        have hb := bounds_i64 hwx
        have e := Int.tmod_add_mul_tdiv x 5
        have h1 := Int.tmod_lt_of_pos x (show (0 : Int) < 5 by omega)
        have h2 := neg_lt_tmod x 5 (by omega)
        refine IntWalk.i64_in _ ?_
        omega
      have HM := Lib.hid hM
      have HD := Lib.hid hD
      have HWX := Lib.hid hwx
      have HWQ := Lib.hid hwq
      clear hM hD hc hx hcx hwx hwq
      go_wp2_with fail
      go_loopg [5, 8] (M) (fun gh inv kv wr => ∃ (k m1 : Nat) (F : List Nat), M - k ≤ gh ∧ kv = .int .i64 k ∧ m1 = out + (n + k) ∧ inv = .int .i64 m1 ∧ k ≤ M ∧ HT wr b F m1 (alikes out (n + k)) ∧ Keeps [] w wr ∧ (∀ k ∈ F, w.heap.size ≤ k))
      case atStart => exact ⟨0, m, F, by omega, rfl, HMO.out, rfl, by omega, HQ.out, HK.out, HF.out⟩
      case round =>
        obtain ⟨k, m1, F, hgk, rfl, hm1, rfl, hkM, hq, hK, hF⟩ := hrel
        have hcr : wr.cell? ⟨b0, o0 + i, none⟩ = some (.int .i64 x) := by
          rw [← HCX.out]
          exact World.cell?_of_block (hK.block b0 (World.block_lt_of_cell? _ _ HCX.out) (by simp))
        have HQ1 := Lib.hid hq
        have HK1 := Lib.hid hK
        have HF1 := Lib.hid hF
        have hm1l : (m1 : Int) ≤ 4 * 30 + 5 := by have := HMO.out; omega
        have HM1 := Lib.hid hm1
        clear hq hK hF HQ HK HF hm1
        go_wp2_with fail
        refine (rest_any x 5 _ (by omega) (by omega)).mono ?_
        rintro e w' ⟨rfl, rfl⟩
        rw [HM.out]
        by_cases hk : k < M
        · go_wp2_with fail
          refine (pushT b F m1 (alikes out (n + k)) (3, (m1 : Int)) _ HQ1.out (by rw [alikes_length]; have := HM1.out; omega) (by omega)).mono ?_
          rintro e w3 ⟨rfl, F', hq3, K3, hF3⟩
          have hq3' : HT w3 b F' (m1 + 1) (alikes out (n + k + 1)) := by
            rw [← alikes_ins, ← Nat.add_assoc] 
            have := HM1.out
            rw [← Nat.add_assoc] at this
            rw [← this]
            exact hq3
          have HQ3 := Lib.hid hq3'
          have HK3 := Lib.hid (HK1.out.andThen K3 (fun g hg => .inr (HF1.out g hg)))
          have HF3 : Hid (∀ k ∈ F', w.heap.size ≤ k) := Lib.hid (fun k hk => by
            rcases hF3 k hk with h | h
            · exact HF1.out k h
            · have := HK1.out.size; omega)
          clear hq3 hq3' K3 hF3
          go_wp2
          go_roundg (M - (k + 1))
          case rel => exact ⟨k + 1, m1 + 1, F', Nat.le_refl _, by go_num, by have := HM1.out; omega, by go_num, by omega, HQ3.out, HK3.out, HF3.out⟩
          case measure => omega
        · have hkm : k = M := by omega
          have hk' : decide (k < M) = false := by simpa using hk
          go_wp2_with fail
          go_loopg [6, 9] (D) (fun gh outv jv wr => ∃ (j out1 n1 : Nat) (F : List Nat), D - j ≤ gh ∧ jv = .int .i64 j ∧ m1 = out1 + n1 ∧ outv = .int .i64 out1 ∧ j ≤ D ∧ HT wr b F m1 (alikes out1 n1) ∧ Keeps [] w wr ∧ (∀ k ∈ F, w.heap.size ≤ k))
          case atStart => exact ⟨0, out, n + k, F, by omega, rfl, HM1.out, rfl, by omega, HQ1.out, HK1.out, HF1.out⟩
          case round =>
            obtain ⟨j, out1, n1, F, hgj, rfl, hm2, rfl, hjD, hq, hK, hF⟩ := hrel
            have hcr : wr.cell? ⟨b0, o0 + i, none⟩ = some (.int .i64 x) := by
              rw [← HCX.out]
              exact World.cell?_of_block (hK.block b0 (World.block_lt_of_cell? _ _ HCX.out) (by simp))
            have HQ2 := Lib.hid hq
            have HK2 := Lib.hid hK
            have HF2 := Lib.hid hF
            have HM2 := Lib.hid hm2
            have hwq := HWQ.out
            have hol : (out1 : Int) ≤ 4 * 30 + 5 := by omega
            clear hq hK hF hm2 HQ1 HK1 HF1
            have hD5 : D < 5 := by have := HD.out; have := Int.emod_lt_of_pos (x.tdiv 5) (show (0 : Int) < 5 by omega); omega
            by_cases hj : j < D
            · by_cases ho : out1 < m1
              · obtain ⟨n2, rfl⟩ : ∃ n2, n1 = n2 + 1 := ⟨n1 - 1, by have := HM2.out; omega⟩
                go_wp2_with (go_at_call 22; refine (rest_any (x.tdiv 5) 5 _ (by omega) (by omega)).mono ?_; rintro e w' ⟨rfl, rfl⟩; rw [HD.out])
                have hq2 : HT wr b F m1 ((((3 : Int), (out1 : Int)), out1) :: alikes (out1 + 1) n2) := HQ2.out
                refine (popT_some b F m1 _ _ _ hq2 (by rw [alikes_length]; have := HM2.out; omega)).mono ?_
                rintro e w3 ⟨rfl, hq3, K3⟩
                have HQ3 := Lib.hid hq3
                have HK3 := Lib.hid (HK2.out.andThen K3 (fun g hg => .inr (HF2.out g hg)))
                clear hq2 hq3 K3
                go_wp2
                go_roundg (D - (j + 1))
                case rel => exact ⟨j + 1, out1 + 1, n2, F, Nat.le_refl _, by go_num, by have := HM2.out; omega, by go_num, by omega, HQ3.out.kept ((Keeps.refl [] _).alloc _) (by simp), HK3.out.alloc _, HF2.out⟩
                case measure => omega
              · have ho' : decide (out1 < m1) = false := by simpa using ho
                go_wp2_with (go_at_call 22; refine (rest_any (x.tdiv 5) 5 _ (by omega) (by omega)).mono ?_; rintro e w' ⟨rfl, rfl⟩; rw [HD.out])
                go_roundg (30 - (i + 1))
                case rel => exact ⟨i + 1, out1, n1, m1, F, Nat.le_refl _, HM2.out, by go_num, rfl, rfl, by omega, by omega, by have := HM1.out; have := HMO.out; omega, HQ2.out, HK2.out, HF2.out⟩
                case measure => omega
            · have hj' : decide (j < D) = false := by simpa using hj
              go_wp2_with (go_at_call 22; refine (rest_any (x.tdiv 5) 5 _ (by omega) (by omega)).mono ?_; rintro e w' ⟨rfl, rfl⟩; rw [HD.out])
              go_roundg (30 - (i + 1))
              case rel => exact ⟨i + 1, out1, n1, m1, F, Nat.le_refl _, HM2.out, by go_num, rfl, rfl, by omega, by omega, by have := HM1.out; have := HMO.out; omega, HQ2.out, HK2.out, HF2.out⟩
              case measure => omega
    · have hend : (decide (i < xs.length) = false) ∨ (decide (i < xs.length) = true ∧ decide ((i : Int) < 30) = false) := by
        by_cases h : i < xs.length
        · right; exact ⟨by simpa using h, by simp; omega⟩
        · left; simpa using h
      have hmo1 := HMO.out
      have hsub : wrap64 ((m : Int) - (out : Int)) = (n : Int) := by unfold wrap64; omega
      have HSUB := Lib.hid hsub
      clear hmo1 hsub
      rcases hend with t1 | ⟨t1, t2⟩
      all_goals
        go_wp2_with (go_at_call 25; refine (lenT b F m (alikes out n) _ HQ.out).mono ?_; rintro e w' ⟨rfl, rfl⟩; rw [alikes_length])
        go_ret
        exact ⟨by simp [HSUB.out], HK.out⟩
end Go.Proofs.Ytlcbcagbiiachaa
