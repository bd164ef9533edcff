/- The walk of FifoPlays. -/
import Derived.Test.YtoecfimmgiajpaaLooks
namespace Go.Proofs.Ytoecfimmgiajpaa
open Go.RowKit Go.Shelf

/-- The program's queue at b holds lq, the document's at m lm; all of it is new. -/
def Both (w : World) (b m : Nat) (lq lm : List Int) (most : Nat) (W : World) : Prop :=
  ∃ (F G : List Nat) (size : Nat), QI W b F size lq ∧ MQ W m G lm most ∧ (∀ k ∈ G, k < W.heap.size) ∧ (∀ g ∈ G, g ∉ F) ∧ (∀ k ∈ F, w.heap.size ≤ k) ∧ (∀ k ∈ G, w.heap.size ≤ k) ∧ size ≤ max 8 (2 * max most lq.length) ∧ Keeps [] w W

theorem MQ.small2 {W : World} {m : Nat} {G : List Nat} {ys : List Int} {most : Nat} (h : MQ W m G ys most) : ∃ G', MQ W m G' ys most ∧ ∀ k ∈ G', k < W.heap.size ∧ k ∈ G := by
  obtain ⟨a, cap, hb, hmG, hcap, hmost, hnone, hrow⟩ := h
  by_cases hne : ys = []
  · exact ⟨[m], ⟨a, cap, hb, by simp, hcap, hmost, hnone, fun h => absurd hne h⟩, by simp; exact ⟨blk_lt hb, hmG⟩⟩
  · obtain ⟨g, o, cs, ha, hgG, hgm, hgb, hc⟩ := hrow hne
    refine ⟨[m, g], ⟨a, cap, hb, by simp, hcap, hmost, hnone, fun _ => ⟨g, o, cs, ha, by simp, hgm, hgb, hc⟩⟩, ?_⟩
    intro k hk
    simp at hk
    rcases hk with rfl | rfl
    · exact ⟨blk_lt hb, hmG⟩
    · exact ⟨blk_lt hgb, hgG⟩
theorem MQ.mem {W : World} {m : Nat} {G : List Nat} {ys : List Int} {most : Nat} (h : MQ W m G ys most) : m ∈ G := by
  obtain ⟨a, cap, hb, hmG, -⟩ := h
  exact hmG
theorem MQ.le_most {W : World} {m : Nat} {G : List Nat} {ys : List Int} {most : Nat} (h : MQ W m G ys most) : ys.length ≤ most := by
  obtain ⟨a, cap, hb, hmG, _, h, -⟩ := h
  exact h

theorem both_qpush (w : World) (b m : Nat) (lq lm : List Int) (most : Nat) (W : World) (x : Int) (h : Both w b m lq lm most W) (h1 : lq.length ≤ 900) (h2 : most ≤ 900) :
    Calls Try.prog 15 #[.pointer (some ⟨b, 0, none⟩), .int .i64 x] W fun e W' => e = .returned (.tuple #[]) ∧ Both w b m (lq ++ [x]) lm most W' := by
  obtain ⟨F, G, size, hq, hm, hG, hd, hF, hGw, hs, hk⟩ := h
  have hle := hq.le
  refine (pushI b F size lq x W hq (by omega)).mono ?_
  rintro e W' ⟨F', rfl, hq', hK, hF'⟩
  refine ⟨rfl, F', G, _, hq', hm.kept hK (fun g hg hgG => hd g hgG hg), fun k hk => Nat.lt_of_lt_of_le (hG k hk) hK.size, fun g hg hgF => ?_, fun k hk' => ?_, hGw, ?_, ?_⟩
  · rcases hF' g hgF with h | h
    · exact hd g hg h
    · have := hG g hg; omega
  · rcases hF' k hk' with h | h
    · exact hF k h
    · have := hk.size; omega
  · simp only [List.length_append, List.length_singleton]
    split <;> omega
  · exact hk.andThen hK (fun g hg => .inr (hF g hg))

theorem both_mpush (w : World) (b m : Nat) (lq lm : List Int) (most : Nat) (W : World) (x : Int) (h : Both w b m lq lm most W) (h1 : lm.length ≤ 900) (h2 : most ≤ 900) :
    Calls Try.prog 21 #[.pointer (some ⟨m, 0, none⟩), .int .i64 x] W fun e W' => e = .returned (.tuple #[]) ∧ Both w b m lq (lm ++ [x]) (max most (lm.length + 1)) W' := by
  obtain ⟨F, G, size, hq, hm, hG, hd, hF, hGw, hs, hk⟩ := h
  have hmm := hm.mem
  refine (mpush m G lm most x W hm (by omega) (by omega)).mono ?_
  rintro e W' ⟨rfl, G', hm', hK, hG'⟩
  obtain ⟨G2, hm2, hG2⟩ := hm'.small2
  have hFl := hq.lt
  refine ⟨rfl, F, G2, size, hq.kept hK (fun g hg => by simp at hg; subst hg; exact hd _ hmm), hm2, fun k hk => (hG2 k hk).1, fun g hg hgF => ?_, hF, fun k hk' => ?_, by omega, hk.andThen hK (fun g hg => ?_)⟩
  · rcases hG' g (hG2 g hg).2 with rfl | h
    · exact hd _ hmm hgF
    · have := hFl g hgF; omega
  · rcases hG' k (hG2 k hk').2 with rfl | h
    · exact hGw _ hmm
    · have := hk.size; omega
  · simp at hg; subst hg; exact .inr (hGw _ hmm)

theorem both_qpop_some (w : World) (b m : Nat) (x : Int) (lq lm : List Int) (most : Nat) (W : World) (h : Both w b m (x :: lq) lm most W) (h1 : lq.length < most) (h2 : most ≤ 900) :
    Calls Try.prog 17 #[.pointer (some ⟨b, 0, none⟩)] W fun e W' => e = .returned (.tuple #[.int .i64 x, .bool true]) ∧ Both w b m lq lm most W' := by
  obtain ⟨F, G, size, hq, hm, hG, hd, hF, hGw, hs, hk⟩ := h
  simp only [List.length_cons] at hs
  refine (popI_some b F size x lq W hq (by omega)).mono ?_
  rintro e W' ⟨rfl, hq', hK⟩
  exact ⟨rfl, F, G, size, hq', hm.kept hK (fun g hg hgG => hd g hgG hg), fun k hk => Nat.lt_of_lt_of_le (hG k hk) hK.size, hd, hF, hGw, by omega, hk.andThen hK (fun g hg => .inr (hF g hg))⟩

theorem both_qpop_none (w : World) (b m : Nat) (lm : List Int) (most : Nat) (W : World) (h : Both w b m [] lm most W) :
    Calls Try.prog 17 #[.pointer (some ⟨b, 0, none⟩)] W fun e W' => e = .returned (.tuple #[.int .i64 0, .bool false]) ∧ W = W' := by
  obtain ⟨F, G, size, hq, hm, hG, hd, hF, hGw, hs, hk⟩ := h
  exact popI_none b F size W hq

theorem both_mpop_some (w : World) (b m : Nat) (x : Int) (lq lm : List Int) (most : Nat) (W : World) (h : Both w b m lq (x :: lm) most W) (h2 : most ≤ 900) :
    Calls Try.prog 22 #[.pointer (some ⟨m, 0, none⟩)] W fun e W' => e = .returned (.int .i64 x) ∧ Both w b m lq lm most W' := by
  obtain ⟨F, G, size, hq, hm, hG, hd, hF, hGw, hs, hk⟩ := h
  have hmm := hm.mem
  have hle := hm.le_most
  simp at hle
  refine (mpop_some m G x lm most W hm (by omega)).mono ?_
  rintro e W' ⟨rfl, hm', hK⟩
  refine ⟨rfl, F, G, size, hq.kept hK (fun g hg => by simp at hg; subst hg; exact hd _ hmm), hm', fun k hk => Nat.lt_of_lt_of_le (hG k hk) hK.size, hd, hF, hGw, hs, hk.andThen hK (fun g hg => ?_)⟩
  simp at hg; subst hg; exact .inr (hGw _ hmm)

theorem both_mpop_none (w : World) (b m : Nat) (lq : List Int) (most : Nat) (W : World) (h : Both w b m lq [] most W) :
    Calls Try.prog 22 #[.pointer (some ⟨m, 0, none⟩)] W fun e W' => e = .returned (.int .i64 0) ∧ W = W' := by
  obtain ⟨F, G, size, hq, hm, hG, hd, hF, hGw, hs, hk⟩ := h
  exact mpop_none m G most W hm

theorem both_looks (w : World) (b m : Nat) (l : List Int) (most : Nat) (W : World) (h : Both w b m l l most W) (h2 : most ≤ 900) :
    Calls Try.prog 23 #[.pointer (some ⟨b, 0, none⟩), .pointer (some ⟨m, 0, none⟩)] W fun e W' => e = .returned (.bool true) ∧ Both w b m l l most W' := by
  obtain ⟨F, G, size, hq, hm, hG, hd, hF, hGw, hs, hk⟩ := h
  have hle := hm.le_most
  refine (looks_true b F size l m G most W hq hm (by omega) (by omega) (by omega) hq.le).mono ?_
  rintro e W' ⟨rfl, hK⟩
  exact ⟨rfl, F, G, size, hq.kept hK (by simp), hm.kept hK (by simp), fun k hk => Nat.lt_of_lt_of_le (hG k hk) hK.size, hd, hF, hGw, hs, hk.trans hK⟩

/-- The head of the document's queue. -/
theorem Both.mhead {w : World} {b m : Nat} {lq lm : List Int} {most : Nat} {W : World} (h : Both w b m lq lm most W) : ∃ a cap, W.cell? ⟨m, 0, none⟩ = some (.slice a lm.length cap) := by
  obtain ⟨F, G, size, hq, hm, -⟩ := h
  obtain ⟨a, cap, h0, -⟩ := hm.facts
  exact ⟨a, cap, h0⟩
theorem Both.keeps {w : World} {b m : Nat} {lq lm : List Int} {most : Nat} {W : World} (h : Both w b m lq lm most W) : Keeps [] w W := by
  obtain ⟨F, G, size, hq, hm, hG, hd, hF, hGw, hs, hk⟩ := h
  exact hk
theorem Both.le {w : World} {b m : Nat} {lq lm : List Int} {most : Nat} {W : World} (h : Both w b m lq lm most W) : lm.length ≤ most := by
  obtain ⟨F, G, size, hq, hm, -⟩ := h
  exact hm.le_most

theorem ints_cell {w : World} {a : Option Addr} {cap : Nat} {xs : List Int} (h : IntsAt w (.slice a xs.length cap) xs) {i : Nat} {x : Int} (hx : xs[i]? = some x) : ∃ b o, a = some ⟨b, o, none⟩ ∧ w.cell? ⟨b, o + i, none⟩ = some (.int .i64 x) := by
  obtain ⟨a', cap', he, _, hc⟩ := h
  cases he
  obtain ⟨b, o, ha, h2⟩ := hc (by rintro rfl; simp at hx)
  exact ⟨b, o, ha, h2 i x hx⟩
theorem ints_kept {w w' : World} {v : Value} {xs : List Int} (h : IntsAt w v xs) (k : Keeps [] w w') : IntsAt w' v xs := by
  obtain ⟨a, cap, he, hlc, hc⟩ := h
  refine ⟨a, cap, he, hlc, fun hne => ?_⟩
  obtain ⟨b, o, h1, h2⟩ := hc hne
  exact ⟨b, o, h1, fun i x hx => cell_kept k (h2 i x hx) (by simp)⟩
theorem take12 {w : World} {a : Option Addr} {cap : Nat} {xs : List Int} (h : IntsAt w (.slice a xs.length cap) xs) (h12 : 12 ≤ xs.length) : IntsAt w (.slice a (xs.take 12).length cap) (xs.take 12) := by
  obtain ⟨a', cap', he, hlc, hc⟩ := h
  cases he
  refine ⟨a, cap, rfl, by simp; omega, fun hne => ?_⟩
  obtain ⟨b, o, h1, h2⟩ := hc (by rintro rfl; simp at h12)
  refine ⟨b, o, h1, fun i x hx => h2 i x ?_⟩
  rw [List.getElem?_take] at hx
  split at hx
  · exact hx
  · cases hx

set_option maxHeartbeats 2000000 in
set_option maxRecDepth 100000 in
theorem plays_walk (v0 v1 : Value) (xs0 ys : List Int) (w : World) (hm : xs0.length ≤ 9223372036854775807) (hm' : ys.length ≤ 9223372036854775807) (hw' : ∀ x ∈ ys, (Lit.int .i64 x).wf = true) (hv0 : IntsAt w v0 xs0) (hv1 : IntsAt w v1 ys) :
    Calls Try.prog 7 #[v0, v1] w fun e w' => e = .returned (.bool true) ∧ Keeps [] w w' := by
  obtain ⟨a, cap, rfl, hlc, hcell⟩ := id hv0
  obtain ⟨a1, cap1, rfl, -, -⟩ := id hv1
  have hlen' : (ys.length : Int) ≤ 9223372036854775807 := by omega
  have hlen : (xs0.length : Int) ≤ 9223372036854775807 := by omega
  have HV0 := Lib.hid hv0
  have HV1 := Lib.hid hv1
  have HW := Lib.hid hw'
  have HM := Lib.hid (And.intro hm hm')
  clear hcell hv0 hv1 hw' hm hm'
  have hmid : ∃ xs : List Int, xs.length ≤ 12 ∧ (xs = xs0 ∧ xs0.length ≤ 12 ∨ xs = xs0.take 12 ∧ 12 < xs0.length) := by
    by_cases h : 12 < xs0.length
    · exact ⟨xs0.take 12, by simp; omega, .inr ⟨rfl, h⟩⟩
    · exact ⟨xs0, by omega, .inl ⟨rfl, by omega⟩⟩
  obtain ⟨xs, hxs, hc⟩ := hmid
  go_enter Try.func7, Try.ntmps7
  go_wp2_with fail
  refine (awake_true _).mono ?_
  rintro e w1 ⟨rfl, K1⟩
  rcases hc with ⟨hye, h12⟩ | ⟨hye, h12⟩
  focus
    subst hye
    have h12' : (xs.length : Int) ≤ 12 := by omega
    go_wp2_with fail
    have hi := ints_kept HV0.out K1
    have HI : Hid (IntsAt w (.slice a xs.length cap) xs) := HV0
    clear h12' hlen hlc h12
  rotate_left 1
  focus
    have h12' : (12 : Int) < (xs0.length : Int) := by omega
    have hcap : (12 : Int) ≤ (cap : Int) := by omega
    have HYE := Lib.hid hye
    clear hye
    go_wp2_with fail
    have e12 : 12 = xs.length := by rw [HYE.out]; simp; omega
    have hi : IntsAt w1 (.slice a xs.length cap) xs := by rw [HYE.out]; exact take12 (ints_kept HV0.out K1) (by omega)
    rw [show Value.slice a 12 cap = Value.slice a xs.length cap from by rw [← e12]]
    have HI : Hid (IntsAt w (.slice a xs.length cap) xs) := Lib.hid (by rw [HYE.out]; exact take12 HV0.out (by omega))
    clear e12 hcap h12' hlen hlc h12
  all_goals
    refine (newI _ xs _ (by omega) hi).mono ?_
    rintro e w2 ⟨F, size, rfl, q2, K2, hF, hsz⟩
    have k2 := K1.trans K2
    have hFl := q2.lt
    obtain ⟨b, hb⟩ : ∃ b, b = w1.heap.size := ⟨_, rfl⟩
    rw [← hb] at q2 hF ⊢
    have hbw : w.heap.size ≤ b := by rw [hb]; exact K1.size
    clear hb hi
    have HQ := Lib.hid q2
    have HF := Lib.hid (And.intro hF hFl)
    clear q2 hF hFl
    go_wp2_with fail
    have B0 : Both w b w2.heap.size xs [] 0 (w2.alloc (.cells #[.slice none 0 0, .int .i64 0] 50)) := by
      have hFl := HF.out.2
      refine ⟨F, [w2.heap.size], size, HQ.out.kept ((Keeps.refl [] _).alloc _) (by simp), ⟨none, 0, blk_new _ _, by simp, by simp, by simp, by simp, by simp⟩, by simp, ?_, fun k hk => by have := HF.out.1 k hk; omega, ?_, by omega, k2.alloc _⟩
      · intro g hg hgF; simp at hg; subst hg; have := hFl _ hgF; omega
      · intro k hk; simp at hk; subst hk; exact k2.size
    have hmw : w.heap.size ≤ w2.heap.size := k2.size
    obtain ⟨m, hmm⟩ : ∃ m, m = w2.heap.size := ⟨_, rfl⟩
    rw [← hmm] at B0 hmw ⊢
    generalize (w2.alloc (.cells #[.slice none 0 0, .int .i64 0] 50)) = w3 at B0 ⊢
    clear hmm HQ HF k2 K2 HV0 hsz
    go_loopw [8] (fun i wr => ∃ k : Nat, k ≤ xs.length ∧ i = .int .i64 k ∧ Both w b m xs (xs.take k) k wr) (fun i _ => xs.length - (intOf i).toNat)
    case atStart => exact ⟨0, by omega, rfl, B0⟩
    case round =>
      obtain ⟨k, hk, rfl, hB⟩ := hrel
      by_cases hlt : k < xs.length
      · obtain ⟨x, hx⟩ : ∃ x, xs[k]? = some x := ⟨xs[k], by simp [hlt]⟩
        obtain ⟨b0, o0, rfl, hcx⟩ := ints_cell (ints_kept HI.out hB.keeps) hx
        have HBB := Lib.hid hB
        have HX := Lib.hid hx
        have hlt' : (k : Int) < (xs.length : Int) := by omega
        clear hB hx B0
        go_wp2_with fail
        have htk : (xs.take k).length = k := by simp; omega
        refine (both_mpush w b m xs (xs.take k) k _ x HBB.out (by omega) (by omega)).mono ?_
        rintro e w4 ⟨rfl, hB4⟩
        rw [show xs.take k ++ [x] = xs.take (k + 1) from by rw [List.take_add_one, HX.out]; rfl, htk, show max k (k + 1) = k + 1 from by omega] at hB4
        have HB4 := Lib.hid hB4
        clear hB4 htk
        go_wp2
        go_roundw
        case rel => exact ⟨k + 1, by omega, by go_num, HB4.out⟩
        case measure => simp [intOf]; omega
      · obtain rfl : k = xs.length := by omega
        rw [List.take_length] at hB
        have HBB := Lib.hid hB
        clear hB B0
        go_wp2_with fail
        go_loopw [9, 10] (fun n i wr => ∃ (k N : Nat) (l : List Int) (most : Nat), k ≤ ys.length ∧ k ≤ 40 ∧ i = .int .i64 k ∧ n = .int .i64 N ∧ N ≤ 100 + 8 * k ∧ most ≤ 12 + 8 * k ∧ Both w b m l l most wr) (fun _ i _ => 40 - (intOf i).toNat)
        case atStart => exact ⟨0, 100, xs, xs.length, by omega, by omega, rfl, rfl, by omega, by omega, HBB.out⟩
        case round =>
          obtain ⟨k, N, l, most, hk, hk40, rfl, rfl, hN, hmost, hB⟩ := hrel
          have HB1 := Lib.hid hB
          clear hB
          by_cases hlt : k < ys.length ∧ k < 40
          · obtain ⟨hlt1, hlt2⟩ := hlt
            obtain ⟨y, hy⟩ : ∃ y, ys[k]? = some y := ⟨ys[k], by simp [hlt1]⟩
            have hwf := HW.out y (List.mem_of_getElem? hy)
            obtain ⟨b1, o1, ha1, -⟩ := ints_cell HV1.out hy
            have HY : Hid (∀ W, Keeps [] w W → W.cell? ⟨b1, o1 + k, none⟩ = some (.int .i64 y)) := Lib.hid (by
              intro W hW
              obtain ⟨b2, o2, ha2, h⟩ := ints_cell (ints_kept HV1.out hW) hy
              rw [ha1] at ha2; cases ha2; exact h)
            subst ha1
            have t1 : decide (k < ys.length) = true := by simp; omega
            have t2 : decide ((k : Int) < 40) = true := by simp; omega
            obtain ⟨K1, hK1⟩ : ∃ K : Nat, y % 8 = (K : Int) := Int.eq_ofNat_of_zero_le (Int.emod_nonneg _ (by decide))
            have hK8 : K1 ≤ 8 := by omega
            have HK1 := Lib.hid hK1
            clear hy hK1
            go_wp2_with fail
            obtain ⟨wo, rfl⟩ : ∃ wo : World, wo = wr := ⟨_, rfl⟩
            go_loopw [9, 11] (fun n i wr => ∃ (j N : Nat) (l : List Int) (most : Nat), j ≤ K1 ∧ i = .int .i64 j ∧ n = .int .i64 N ∧ N ≤ 100 + 8 * k + j ∧ most ≤ 12 + 8 * k + j ∧ Both w b m l l most wr) (fun _ i _ => K1 - (intOf i).toNat)
            case atStart => exact ⟨0, N, l, most, by omega, rfl, rfl, by omega, by omega, HB1.out⟩
            case round =>
              obtain ⟨j, N, l, most, hj, rfl, rfl, hN, hmost, hB⟩ := hrel
              have hcy := HY.out _ hB.keeps
              have hle := hB.le
              have HB2 := Lib.hid hB
              clear hB HB1
              go_wp2_with fail
              refine (rest_any y 8 _ (by decide) (by decide)).mono ?_
              rintro e w' ⟨rfl, rfl⟩
              rw [HK1.out]
              by_cases hjl : j < K1
              · have t3 : decide (j < K1) = true := by simp; omega
                go_wp2_with fail
                refine (both_qpush w b m l l most _ N HB2.out (by omega) (by omega)).mono ?_
                rintro e w5 ⟨rfl, hB5⟩
                go_wp2_with fail
                refine (both_mpush w b m (l ++ [(N : Int)]) l most _ N hB5 (by omega) (by omega)).mono ?_
                rintro e w6 ⟨rfl, hB6⟩
                have HB6 := Lib.hid hB6
                clear hB5 hB6
                go_wp2
                go_roundw
                case rel => exact ⟨j + 1, N + 1, l ++ [(N : Int)], max most (l.length + 1), by omega, by go_num, by go_num, by omega, by omega, HB6.out⟩
                case measure => simp [intOf]; omega
              · have t3 : decide (j < K1) = false := by simp; omega
                go_wp2_with fail
                obtain ⟨wi, rfl⟩ : ∃ wi : World, wi = wr := ⟨_, rfl⟩
                clear hcy
                obtain ⟨K2, hK2⟩ : ∃ K : Nat, wrap64 (y.tdiv 8) % 8 = (K : Int) := Int.eq_ofNat_of_zero_le (Int.emod_nonneg _ (by decide))
                have hK28 : K2 ≤ 8 := by omega
                have HK2 := Lib.hid hK2
                clear hK2
                go_loopw [12] (fun i wr => ∃ (j : Nat) (l : List Int), i = .int .i64 j ∧ j ≤ K2 ∧ Both w b m l l most wr) (fun i _ => K2 - (intOf i).toNat)
                case atStart => exact ⟨0, l, rfl, by omega, HB2.out⟩
                case round =>
                  obtain ⟨j2, l2, rfl, hj2, hB⟩ := hrel
                  have hcy := HY.out _ hB.keeps
                  have hle2 := hB.le
                  have HB3 := Lib.hid hB
                  clear hB HB2
                  go_wp2_with fail
                  refine (rest_any (wrap64 (y.tdiv 8)) 8 _ (by decide) (by decide)).mono ?_
                  rintro e w' ⟨rfl, rfl⟩
                  rw [HK2.out]
                  by_cases hjl : j2 < K2
                  · have t3 : decide (j2 < K2) = true := by simp; omega
                    obtain ⟨am, cm, hmc⟩ := HB3.out.mhead
                    cases l2 with
                    | nil =>
                      have t4 : decide (0 < ([] : List Int).length) = false := by simp
                      go_wp2_with fail
                      refine (both_qpop_none w b m [] most _ HB3.out).mono ?_
                      rintro e w' ⟨rfl, rfl⟩
                      go_wp2_with fail
                      refine (both_mpop_none w b m [] most _ HB3.out).mono ?_
                      rintro e w' ⟨rfl, rfl⟩
                      go_wp2
                      go_roundw
                      case rel => exact ⟨j2 + 1, [], by go_num, by omega, HB3.out⟩
                      case measure => simp [intOf]; omega
                    | cons x l2 =>
                      have t4 : decide (0 < (x :: l2).length) = true := by simp
                      have t5 : (x == x) = true := by simp
                      simp only [List.length_cons] at hle2
                      go_wp2_with fail
                      refine (both_qpop_some w b m x l2 (x :: l2) most _ HB3.out (by omega) (by omega)).mono ?_
                      rintro e w5 ⟨rfl, hB5⟩
                      go_wp2_with fail
                      refine (both_mpop_some w b m x l2 l2 most _ hB5 (by omega)).mono ?_
                      rintro e w6 ⟨rfl, hB6⟩
                      have HB6 := Lib.hid hB6
                      clear hB5 hB6 hmc hcy
                      go_wp2
                      go_roundw
                      case rel => exact ⟨j2 + 1, l2, by go_num, by omega, HB6.out⟩
                      case measure => simp [intOf]; omega
                  · have t3 : decide (j2 < K2) = false := by simp; omega
                    go_wp2_with fail
                    refine (both_looks w b m l2 most _ HB3.out (by omega)).mono ?_
                    rintro e w5 ⟨rfl, hB5⟩
                    have HB5 := Lib.hid hB5
                    clear hB5 hcy
                    go_wp2
                    go_roundw
                    case rel => exact ⟨k + 1, N, l2, most, by omega, by omega, by go_num, rfl, by omega, by omega, HB5.out⟩
                    case measure => simp [intOf]; omega
          · have hkl : (k : Int) = (ys.length : Int) ∨ ¬ (k : Int) = (ys.length : Int) ∧ (k : Int) = 40 := by omega
            have HKK := Lib.hid HB1.out.keeps
            rcases hkl with h1 | ⟨h1, h2⟩
            · have t1 : decide (k < ys.length) = false := by simp; omega
              clear h1 hlt
              go_wp2
              go_ret
              exact ⟨rfl, HKK.out⟩
            · have t1 : decide (k < ys.length) = true := by simp; omega
              have t2 : decide ((k : Int) < 40) = false := by simp; omega
              clear h1 h2 hlt
              go_wp2
              go_ret
              exact ⟨rfl, HKK.out⟩
end Go.Proofs.Ytoecfimmgiajpaa
