/- down of heaps of the document's things. -/
import Derived.Test.YtlcbcagbiiachaaSwapT
import Derived.Test.YtlcbcagbiiachaaDown
namespace Go.Proofs.Ytlcbcagbiiachaa
open Go.RowKit

abbrev keyT : (Int × Int) → Int := (fun x : Int × Int => x.1)
abbrev HMT := HM eiT 3 21 80 82

theorem aheadT (b g cap i k : Nat) (c2 : Value) (L : List ((Int × Int) × Nat)) (w : World) (h : HMT w b g cap c2 L) (hi : i < L.length) (hk : k < L.length) (hn : L.length ≤ 1000000) :
    Calls Try.prog 40 #[.pointer (some ⟨b, 0, none⟩), .int .i64 i, .int .i64 k] w fun e w' => e = .returned (.bool (decide (ahead keyT L[i]! L[k]!))) ∧ Keeps [] w w' := by
  obtain ⟨cur, hg, hcs, ht⟩ := h.hg
  have hgi := fun r hr => take_get (ei := eiT) eiT_len ht i r hi hr
  have hgk := fun r hr => take_get (ei := eiT) eiT_len ht k r hk hr
  have gi0 : w.cell? ⟨g, i * 3, none⟩ = some (.int .i64 L[i]!.1.1) := (cell_blk hg _).trans (by simpa using hgi 0 (by decide))
  have gi1 : w.cell? ⟨g, i * 3 + 1, none⟩ = some (.int .i64 L[i]!.1.2) := (cell_blk hg _).trans (by simpa using hgi 1 (by decide))
  have gi2 : w.cell? ⟨g, i * 3 + 2, none⟩ = some (.int .u64 L[i]!.2) := (cell_blk hg _).trans (by simpa using hgi 2 (by decide))
  have gk0 : w.cell? ⟨g, k * 3, none⟩ = some (.int .i64 L[k]!.1.1) := (cell_blk hg _).trans (by simpa using hgk 0 (by decide))
  have gk1 : w.cell? ⟨g, k * 3 + 1, none⟩ = some (.int .i64 L[k]!.1.2) := (cell_blk hg _).trans (by simpa using hgk 1 (by decide))
  have gk2 : w.cell? ⟨g, k * 3 + 2, none⟩ = some (.int .u64 L[k]!.2) := (cell_blk hg _).trans (by simpa using hgk 2 (by decide))
  exact aheadT_mem b g _ cap i k L[i]!.1 L[k]!.1 L[i]!.2 L[k]!.2 w hi hk hn (cell_blk h.hb 0) (cell_blk h.hb 1) gi0 gi1 gi2 gk0 gk1 gk2

theorem swapT_of (b g cap i k : Nat) (c2 : Value) (L : List ((Int × Int) × Nat)) (w : World) (h : HMT w b g cap c2 L) (hi : i < L.length) (hk : k < L.length) (hn : L.length ≤ 1000000) :
    Calls Try.prog 41 #[.pointer (some ⟨b, 0, none⟩), .int .i64 i, .int .i64 k] w fun e w' => e = .returned (.tuple #[]) ∧ HMT w' b g cap c2 (sw L i k) ∧ Keeps [g] w w' := by
  obtain ⟨cur, hg, hcs, ht⟩ := h.hg
  refine (swapT b g _ cap i k L cur _ c2 w rfl hi hk hn h.hbg h.hcap hcs h.hb hg ht).mono ?_
  rintro e w' ⟨cur', rfl, h1, h2, h3, h4⟩
  refine ⟨rfl, ⟨?_, ⟨cur', h1, h2.trans hcs, ?_⟩, h.hbg, ?_⟩, h4⟩
  · rw [length_sw]; exact h4.blk h.hb (by simpa using h.hbg)
  · rw [length_sw]; exact h3
  · rw [length_sw]; exact h.hcap

set_option maxHeartbeats 1000000 in
set_option maxRecDepth 100000 in
theorem downT (b g cap i0 : Nat) (c2 : Value) (L0 : List ((Int × Int) × Nat)) (w : World) (h : HMT w b g cap c2 L0) (hi : i0 < L0.length) (hn : L0.length ≤ 1000000) (hd : Down keyT L0 i0) :
    Calls Try.prog 42 #[.pointer (some ⟨b, 0, none⟩), .int .i64 i0] w fun e w' => e = .returned (.tuple #[]) ∧ ∃ L : List ((Int × Int) × Nat), HMT w' b g cap c2 L ∧ L.Perm L0 ∧ Hp keyT L ∧ Keeps [g] w w' := by
  have H := Lib.hid h
  have HD := Lib.hid hd
  have hn' : (L0.length : Int) ≤ 1000000 := by omega
  clear h hd
  go_enter Try.func42, Try.ntmps42
  go_step3
  go_wp2_with fail
  go_step3
  go_wp2_with fail

  go_loopg [1, 4, 5] (L0.length) (fun gh iv _ _ wr => ∃ (i : Nat) (L : List ((Int × Int) × Nat)), L0.length - i ≤ gh ∧ iv = .int .i64 i ∧ i < L.length ∧ L.Perm L0 ∧ HMT wr b g cap c2 L ∧ Down keyT L i ∧ Keeps [g] w wr)
  case atStart => exact ⟨i0, L0, by omega, rfl, hi, List.Perm.refl _, H.out, HD.out, Keeps.refl _ _⟩
  case round =>
    obtain ⟨i, L, hgh, rfl, hi, hp, hm, hd, hK⟩ := hrel
    obtain ⟨wo, rfl⟩ : ∃ wo, wo = wr := ⟨_, rfl⟩
    have hlen := hp.length_eq
    have hi1 : (i : Int) < 1000000 := by omega
    have HP := Lib.hid hp
    have HLEN := Lib.hid hlen
    have HM' := Lib.hid hm
    have HD' := Lib.hid hd
    clear hp hlen hm hd H HD
    go_wp2_with fail
    go_loopg [4, 5] (2) (fun gh2 mv kv wi => ∃ (m k : Nat), 2 * i + 3 - k ≤ gh2 ∧ mv = .int .i64 m ∧ kv = .int .i64 k ∧ 2 * i + 1 ≤ k ∧ k ≤ 2 * i + 3 ∧ m < L.length ∧ (m = i ∨ 0 < m ∧ par m = i) ∧ le keyT L[m]! L[i]! ∧ (∀ j, 2 * i + 1 ≤ j → j < k → j < L.length → le keyT L[m]! L[j]!) ∧ Keeps [] wo wi)
    case atStart => exact ⟨i, 2 * i + 1, by omega, rfl, by go_num, by omega, by omega, hi, .inl rfl, le_refl _ _, fun j h1 h2 => by omega, Keeps.refl _ _⟩
    case round =>
      obtain ⟨m, k, hgh2, rfl, rfl, hk1, hk2, hm, hmi, hle, hall, hKi⟩ := hrel
      have hmw := HM'.out.keeps hKi (by simp) (by simp)
      have c1 := cell_blk hmw.hb 1
      have HMW := Lib.hid hmw
      have HLE := Lib.hid hle
      have HALL := Lib.hid hall
      have HMX := Lib.hid hmi
      have hLs : (L.length : Int) ≤ 1000000 := by have := HLEN.out; omega
      clear hmw hle hall hmi
      by_cases hk : k ≤ 2 * i + 2 ∧ k < L.length
      · obtain ⟨hk3, hk4⟩ := hk
        have t1 : (k : Int) ≤ 2 * (i : Int) + 2 := by omega
        have t2 : (k : Int) < (L.length : Int) := by omega
        go_wp2_with fail
        refine (aheadT b g cap k m c2 L _ HMW.out hk4 hm (by omega)).mono ?_
        rintro e w2 ⟨rfl, K2⟩
        have K3 := hKi.trans K2
        have hpk : par k = i := by unfold par; omega
        by_cases ha : ahead keyT L[k]! L[m]!
        · have t3 : decide (ahead keyT L[k]! L[m]!) = true := by simpa using ha
          rw [t3]
          go_wp2
          go_roundg (2 * i + 3 - (k + 1))
          case rel =>
            refine ⟨k, k + 1, Nat.le_refl _, rfl, by go_num, by omega, by omega, hk4, .inr ⟨by omega, hpk⟩, le_trans _ (le_of_ahead _ ha) HLE.out, fun j h1 h2 h3 => ?_, K3⟩
            by_cases e : j = k
            · subst e; exact le_refl _ _
            · exact le_trans _ (le_of_ahead _ ha) (HALL.out j h1 (by omega) h3)
          case measure => omega
        · have t3 : decide (ahead keyT L[k]! L[m]!) = false := by simpa using ha
          rw [t3]
          go_wp2
          go_roundg (2 * i + 3 - (k + 1))
          case rel =>
            refine ⟨m, k + 1, Nat.le_refl _, rfl, by go_num, by omega, by omega, hm, HMX.out, HLE.out, fun j h1 h2 h3 => ?_, K3⟩
            by_cases e : j = k
            · subst e; exact ha
            · exact HALL.out j h1 (by omega) h3
          case measure => omega
      · have hend : decide ((k : Int) ≤ 2 * (i : Int) + 2) = false ∨ (k : Int) ≤ 2 * (i : Int) + 2 ∧ decide (k < L.length) = false := by
          by_cases hh : (k : Int) ≤ 2 * (i : Int) + 2
          · exact .inr ⟨hh, by simp; omega⟩
          · exact .inl (by simpa using hh)
        have hmin : ∀ j, 0 < j → j < L.length → par j = i → le keyT L[m]! L[j]! := by
          intro j h1 h2 h3
          unfold par at h3
          exact HALL.out j (by omega) (by omega) h2
        have HMIN := Lib.hid hmin
        clear hmin hk
        by_cases hme : m = i
        · subst hme
          have t5 : ((m : Int) == (m : Int)) = true := by simp
          rcases hend with t1 | ⟨t1, t2⟩
          all_goals
            go_wp2
            go_returns
            exact ⟨rfl, L, HMW.out, HP.out, down_done HD'.out HMIN.out, hK.trans (hKi.mono (by simp))⟩
        · have t5 : ((m : Int) == (i : Int)) = false := by rw [beq_eq_false_iff_ne]; omega
          rcases hend with t1 | ⟨t1, t2⟩
          all_goals
            go_wp2_with fail
            refine (swapT_of b g cap i m c2 L _ HMW.out hi hm (by omega)).mono ?_
            rintro e w2 ⟨rfl, h2, K2⟩
            have hs : HMT w2 b g cap c2 (sw L i m) ∧ Down keyT (sw L i m) m ∧ m < (sw L i m).length ∧ (sw L i m).Perm L0 ∧ Keeps [g] w w2 := by
              have hmi := HMX.out
              have hmi' : 0 < m ∧ par m = i := by rcases hmi with h | h; (· exact absurd h hme); (· exact h)
              exact ⟨h2, down_step HD'.out hi hm hmi'.2 hmi'.1 HLE.out HMIN.out, by rw [length_sw]; exact hm, (perm_sw L i m hi hm).trans HP.out, (hK.trans (hKi.mono (by simp))).trans K2⟩
            have HSS := Lib.hid hs
            have hmm : i < m := by
              have hmi := HMX.out
              unfold par at hmi
              omega
            clear hs h2 K2
            go_wp2
            go_roundg (L0.length - m)
            case rel => exact ⟨m, sw L i m, Nat.le_refl _, rfl, HSS.out.2.2.1, HSS.out.2.2.2.1, HSS.out.1, HSS.out.2.1, HSS.out.2.2.2.2⟩
            case measure => have := HLEN.out; omega

end Go.Proofs.Ytlcbcagbiiachaa
