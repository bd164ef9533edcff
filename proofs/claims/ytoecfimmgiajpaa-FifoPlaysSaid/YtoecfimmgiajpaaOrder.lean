/- The walk of FifoOrder. -/
import Derived.Test.YtoecfimmgiajpaaAwake
namespace Go.Proofs.Ytoecfimmgiajpaa
open Go.RowKit

/-- A slice value that reads as these texts. -/
def StrsAt (w : World) (v : Value) (xs : List ByteArray) : Prop :=
  ∃ a cap, v = .slice a xs.length cap ∧ (xs ≠ [] → ∃ b o, a = some ⟨b, o, none⟩ ∧ ∀ i x, xs[i]? = some x → w.cell? ⟨b, o + i, none⟩ = some (.string x))

theorem cell_kept {w w' : World} {F : List Nat} (h : Keeps F w w') {a : Addr} {v : Value} (hc : w.cell? a = some v) (hn : a.block ∉ F) : w'.cell? a = some v := by
  rw [← hc]
  exact World.cell?_of_block (h.block _ (World.block_lt_of_cell? _ _ hc) hn)

theorem win_snoc {α : Type} {ss : List α} {m k : Nat} {x : α} (hm : m ≤ k) (hx : ss[k]? = some x) : (ss.take k).drop m ++ [x] = (ss.take (k + 1)).drop m := by
  have hk : k < ss.length := by
    rcases Nat.lt_or_ge k ss.length with h | h
    · exact h
    · rw [List.getElem?_eq_none h] at hx; cases hx
  rw [List.take_add_one, hx, List.drop_append]
  have : m - (ss.take k).length = 0 := by simp; omega
  rw [this]; rfl

theorem win_cons {α : Type} {ss : List α} {m k : Nat} {y : α} (hm : m < k) (hy : ss[m]? = some y) : (ss.take k).drop m = y :: (ss.take k).drop (m + 1) := by
  have hk : m < ss.length := by
    rcases Nat.lt_or_ge m ss.length with h | h
    · exact h
    · rw [List.getElem?_eq_none h] at hy; cases hy
  have hl : m < (ss.take k).length := by simp; omega
  rw [List.drop_eq_getElem_cons hl]
  congr 1
  rw [List.getElem?_eq_getElem hk] at hy
  simp at hy ⊢
  exact hy

theorem order_walk (v : Value) (ss : List ByteArray) (bits : Int) (w : World) (hlen : ss.length ≤ 9223372036854775807) (hv : StrsAt w v ss) :
    Calls Try.prog 3 #[v, .int .i64 bits] w fun e w' => e = .returned (.bool true) ∧ Keeps [] w w' := by
  obtain ⟨a, cap, rfl, hcell⟩ := hv
  have HC := Lib.hid hcell
  clear hcell
  go_enter Try.func3, Try.ntmps3
  go_wp2_with fail
  refine (awake_true _).mono ?_
  rintro e w1 ⟨rfl, K1⟩
  go_wp2_with fail
  refine (newS_nil _).mono ?_
  rintro e w2 ⟨rfl, q2, K2⟩
  have k2 : Keeps [] w w2 := K1.trans K2
  obtain ⟨b, hb⟩ : ∃ b, b = w1.heap.size := ⟨_, rfl⟩
  rw [← hb] at q2 ⊢
  have hbw : w.heap.size ≤ b := by rw [hb]; exact K1.size
  clear hb K1 K2
  go_wp2_with fail
  go_loopw [7, 8] (fun o i wr => ∃ (m k : Nat) (F : List Nat) (size : Nat), k ≤ ss.length ∧ k ≤ 40 ∧ m ≤ k ∧ o = .int .i64 m ∧ i = .int .i64 k ∧ QS wr b F size ((ss.take k).drop m) ∧ Keeps [] w wr ∧ (∀ k ∈ F, w.heap.size ≤ k) ∧ size ≤ max 8 (2 * k)) (fun _ i _ => 40 - (intOf i).toNat)
  case atStart => exact ⟨0, 0, [b], 0, by omega, by omega, by omega, rfl, rfl, by simpa using q2, k2, by simp [hbw], by omega⟩
  case round =>
    obtain ⟨m, k, F, size, hk, hk40, hm, rfl, rfl, hq, hK, hF, hsz⟩ := hrel
    have HQ := Lib.hid hq
    have HF := Lib.hid hF
    clear hq hF q2 k2
    by_cases hlt : k < ss.length ∧ k < 40
    · obtain ⟨hlt1, hlt2⟩ := hlt
      obtain ⟨x, hx⟩ : ∃ x, ss[k]? = some x := ⟨ss[k], by simp [hlt1]⟩
      obtain ⟨y, hy⟩ : ∃ y, ss[m]? = some y := ⟨ss[m]'(by omega), by simp⟩
      obtain ⟨b0, o0, ha, hc⟩ := HC.out (by intro e; rw [e] at hlt1; simp at hlt1)
      subst ha
      have hcr := cell_kept hK (hc k x hx) (by simp)
      have hcy := hc m y hy
      have HX := Lib.hid hx
      have HY := Lib.hid hy
      have HCY := Lib.hid hcy
      clear hc hx hy hcy
      have hlt1' : (k : Int) < (ss.length : Int) := by omega
      have hlt2' : (k : Int) < 40 := by omega
      have hlen' : (ss.length : Int) ≤ 9223372036854775807 := by omega
      go_wp2_with fail
      refine (pushS b F size _ x _ HQ.out (by omega)).mono ?_
      rintro e w3 ⟨F', rfl, hq', hK', hF'⟩
      have hl : ((ss.take k).drop m).length = k - m := by simp; omega
      have hsz' : (if ((ss.take k).drop m).length < size then size else max 8 (2 * size)) ≤ max 8 (2 * (k + 1)) := by rw [hl]; split <;> omega
      generalize (if ((ss.take k).drop m).length < size then size else max 8 (2 * size)) = size' at hq' hsz'
      rw [win_snoc (by omega) HX.out] at hq'
      have hK3 := hK.andThen hK' (fun g hg => .inr (HF.out g hg))
      have hF3 : Hid (∀ k ∈ F', w.heap.size ≤ k) := fun g hg => by
        rcases hF' g hg with h | h
        · exact HF.out g h
        · have := hK.size; omega
      have hcy3 := cell_kept hK3 HCY.out (by simp)
      clear hcr hK hK' hF' hl HQ HF hsz
      have HQ := Lib.hid hq'
      clear hq'
      go_wp2_with fail
      · have hq4 := HQ.out
        rw [win_cons (by omega) HY.out] at hq4
        refine (popS_some b F' size' y _ _ hq4 (by omega)).mono ?_
        rintro e w4 ⟨rfl, q4, k4⟩
        clear hq4
        have hK4 := hK3.andThen k4 (fun g hg => .inr (hF3.out g hg))
        have hcy4 := cell_kept hK4 HCY.out (by simp)
        have HQ4 := Lib.hid q4
        clear q4 hcy3
        have hm' : (m : Int) < (ss.length : Int) := by omega
        go_wp2
        go_roundw
        case rel => exact ⟨m + 1, k + 1, F', size', by omega, by omega, by omega, by go_num, by go_num, HQ4.out, hK4, hF3.out, by omega⟩
        case measure => simp [intOf]; omega
      · go_roundw
        case rel => exact ⟨m, k + 1, F', size', by omega, by omega, by omega, rfl, by go_num, HQ.out, hK3, hF3.out, by omega⟩
        case measure => simp [intOf]; omega
    · have hkl : (k : Int) = (ss.length : Int) ∧ (ss.length : Int) ≤ 40 ∨ (k : Int) = 40 ∧ 40 < (ss.length : Int) := by omega
      clear hlt
      rcases hkl with ⟨h1, h2⟩ | ⟨h1, h2⟩
      · have t0 : (ss.length : Int) ≤ (k : Int) := by omega
        have H1 := Lib.hid h1
        clear h1
        go_wp2_with fail
        clear t0
        go_loopw [7] (fun o wr => ∃ (m : Nat), m ≤ k ∧ o = .int .i64 m ∧ ∃ F : List Nat, QS wr b F size ((ss.take k).drop m) ∧ Keeps [] w wr ∧ (∀ k ∈ F, w.heap.size ≤ k)) (fun o _ => 40 - (intOf o).toNat)
        case atStart => exact ⟨m, hm, rfl, F, HQ.out, hK, HF.out⟩
        case round =>
          obtain ⟨m, hm, rfl, F, hq, hK, hF⟩ := hrel
          have hq2 := Lib.hid hq
          have hF2 := Lib.hid hF
          clear hq hF
          by_cases hlt : m < k
          · obtain ⟨y, hy⟩ : ∃ y, ss[m]? = some y := ⟨ss[m]'(by omega), by simp⟩
            obtain ⟨b0, o0, ha, hc⟩ := HC.out (by intro e; rw [e] at hy; simp at hy)
            subst ha
            have HY := Lib.hid hy
            have HCY := Lib.hid (hc m y hy)
            clear hc hy
            have t1 : (m : Int) < (ss.length : Int) := by have := H1.out; omega
            have t2 : (m : Int) < 40 := by have := H1.out; omega
            go_wp2_with fail
            have hq4 := hq2.out
            rw [win_cons hlt HY.out] at hq4
            refine (popS_some b F size y _ _ hq4 (by omega)).mono ?_
            rintro e w4 ⟨rfl, q4, k4⟩
            clear hq4
            have hK4 := hK.andThen k4 (fun g hg => .inr (hF2.out g hg))
            have hcy4 := cell_kept hK4 HCY.out (by simp)
            have HQ4 := Lib.hid q4
            clear q4
            go_wp2
            go_roundw
            case rel => exact ⟨m + 1, by omega, by go_num, F, HQ4.out, hK4, hF2.out⟩
            case measure => simp [intOf]; omega
          · have t1 : ¬ (m : Int) < (ss.length : Int) := by have := H1.out; omega
            have hq4 := hq2.out
            rw [List.drop_eq_nil_of_le (by simp; omega)] at hq4
            go_wp2_with fail
            refine (popS_none b F size _ hq4).mono ?_
            rintro e w4 ⟨rfl, rfl⟩
            go_wp2_with fail
            refine (lenS b F size [] _ hq4).mono ?_
            rintro e w4 ⟨rfl, rfl⟩
            go_wp2
            go_ret
            exact ⟨rfl, hK⟩
      · have t0 : (k : Int) < (ss.length : Int) := by omega
        have t9 : (40 : Int) ≤ (k : Int) := by omega
        have H1 := Lib.hid h1
        clear h1
        go_wp2_with fail
        clear t0 t9
        go_loopw [7] (fun o wr => ∃ (m : Nat), m ≤ k ∧ o = .int .i64 m ∧ ∃ F : List Nat, QS wr b F size ((ss.take k).drop m) ∧ Keeps [] w wr ∧ (∀ k ∈ F, w.heap.size ≤ k)) (fun o _ => 40 - (intOf o).toNat)
        case atStart => exact ⟨m, hm, rfl, F, HQ.out, hK, HF.out⟩
        case round =>
          obtain ⟨m, hm, rfl, F, hq, hK, hF⟩ := hrel
          have hq2 := Lib.hid hq
          have hF2 := Lib.hid hF
          clear hq hF
          by_cases hlt : m < k
          · obtain ⟨y, hy⟩ : ∃ y, ss[m]? = some y := ⟨ss[m]'(by omega), by simp⟩
            obtain ⟨b0, o0, ha, hc⟩ := HC.out (by intro e; rw [e] at hy; simp at hy)
            subst ha
            have HY := Lib.hid hy
            have HCY := Lib.hid (hc m y hy)
            clear hc hy
            have t1 : (m : Int) < (ss.length : Int) := by have := H1.out; omega
            have t2 : (m : Int) < 40 := by have := H1.out; omega
            go_wp2_with fail
            have hq4 := hq2.out
            rw [win_cons hlt HY.out] at hq4
            refine (popS_some b F size y _ _ hq4 (by omega)).mono ?_
            rintro e w4 ⟨rfl, q4, k4⟩
            clear hq4
            have hK4 := hK.andThen k4 (fun g hg => .inr (hF2.out g hg))
            have hcy4 := cell_kept hK4 HCY.out (by simp)
            have HQ4 := Lib.hid q4
            clear q4
            go_wp2
            go_roundw
            case rel => exact ⟨m + 1, by omega, by go_num, F, HQ4.out, hK4, hF2.out⟩
            case measure => simp [intOf]; omega
          · have t1 : ¬ (m : Int) < 40 := by have := H1.out; omega
            have hq4 := hq2.out
            rw [List.drop_eq_nil_of_le (by simp; omega)] at hq4
            go_wp2_with fail
            refine (popS_none b F size _ hq4).mono ?_
            rintro e w4 ⟨rfl, rfl⟩
            go_wp2_with fail
            refine (lenS b F size [] _ hq4).mono ?_
            rintro e w4 ⟨rfl, rfl⟩
            go_wp2
            go_ret
            exact ⟨rfl, hK⟩

end Go.Proofs.Ytoecfimmgiajpaa
