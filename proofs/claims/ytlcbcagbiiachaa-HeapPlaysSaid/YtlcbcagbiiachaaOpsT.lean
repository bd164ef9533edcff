/- Peek and Pop of heaps of the document's things. -/
import Derived.Test.YtlcbcagbiiachaaDownT
import Derived.Test.YtlcbcagbiiachaaOps
namespace Go.Proofs.Ytlcbcagbiiachaa
open Go.RowKit

abbrev HT := IsHeap (α := (Int × Int)) keyT eiT 3 21 80 82
abbrev itV (x : Int × Int) : Value := .agg #[.int .i64 x.1, .int .i64 x.2]

theorem lenT (b : Nat) (F : List Nat) (came : Nat) (S : List ((Int × Int) × Nat)) (w : World) (h : HT w b F came S) :
    Calls Try.prog 25 #[.pointer (some ⟨b, 0, none⟩)] w fun e w' => e = .returned (.int .i64 S.length) ∧ w = w' := by
  obtain ⟨a, cap, h1⟩ := h.slice
  exact lenT_mem b _ cap a w h1

theorem peekT_none (b : Nat) (F : List Nat) (came : Nat) (w : World) (h : HT w b F came []) :
    Calls Try.prog 30 #[.pointer (some ⟨b, 0, none⟩)] w fun e w' => e = .returned (.tuple #[itV (0, 0), .bool false]) ∧ Keeps [] w w' := by
  have K0 : Keeps [] w ((w.alloc (.cells #[.int .i64 0, .int .i64 0] 45)).alloc (.cells #[.int .i64 0, .int .i64 0] 45)) := ((Keeps.refl _ _).alloc _).alloc _
  have H := Lib.hid (h.kept K0 (by simp))
  clear h K0
  go_enter Try.func30, Try.ntmps30
  go_wp2_with fail
  skip
  refine (lenT b F came [] _ H.out).mono ?_
  rintro e w' ⟨rfl, rfl⟩
  go_wp2
  refine bodyPost_ret (v := .tuple #[itV (0, 0), .bool false]) (by simp [results, Try.results30, go_sem]) rfl ⟨rfl, ((Keeps.refl _ _).alloc _).alloc _⟩

theorem peekT_mem (b g n cap : Nat) (x : Int × Int) (w : World) (hn : 0 < n) (h1 : w.cell? ⟨b, 1, none⟩ = some (.slice (some ⟨g, 0, none⟩) n cap)) (hx : w.cell? ⟨g, 0, none⟩ = some (.int .i64 x.1)) (hx2 : w.cell? ⟨g, 1, none⟩ = some (.int .i64 x.2)) :
    Calls Try.prog 30 #[.pointer (some ⟨b, 0, none⟩)] w fun e w' => e = .returned (.tuple #[itV x, .bool true]) ∧ Keeps [] w w' := by
  have hn0 : ((n : Int) == 0) = false := by rw [beq_eq_false_iff_ne]; omega
  have hn1 : (0 : Int) < (n : Int) := by omega
  have K0 : Keeps [] w ((w.alloc (.cells #[.int .i64 0, .int .i64 0] 45)).alloc (.cells #[.int .i64 0, .int .i64 0] 45)) := ((Keeps.refl _ _).alloc _).alloc _
  have h1' := cell_kept K0 h1 (by simp)
  have hx' := cell_kept K0 hx (by simp)
  have hx2' := cell_kept K0 hx2 (by simp)
  clear h1 hx hx2
  go_enter Try.func30, Try.ntmps30
  go_wp2_with (go_at_call 25; refine (lenT_mem b n cap _ _ h1').mono ?_; rintro e w' ⟨rfl, rfl⟩)
  refine bodyPost_ret (v := .tuple #[itV x, .bool true]) (by simp [results, Try.results30, go_sem]) rfl ⟨rfl, ((Keeps.refl _ _).alloc _).alloc _⟩

theorem head_cellT {w : World} {b g cap : Nat} {c2 : Value} {L : List ((Int × Int) × Nat)} (h : HMT w b g cap c2 L) (hl : 0 < L.length) : w.cell? ⟨g, 0, none⟩ = some (.int .i64 L[0]!.1.1) ∧ w.cell? ⟨g, 1, none⟩ = some (.int .i64 L[0]!.1.2) := by
  obtain ⟨cur, hg, hcs, ht⟩ := h.hg
  have h0 := take_get (ei := eiT) eiT_len ht 0 0 hl (by decide)
  have h1 := take_get (ei := eiT) eiT_len ht 0 1 hl (by decide)
  rw [cell_blk hg, cell_blk hg]
  exact ⟨by simpa using h0, by simpa using h1⟩

theorem peekT_some (b : Nat) (F : List Nat) (came : Nat) (s : (Int × Int) × Nat) (S : List ((Int × Int) × Nat)) (w : World) (h : HT w b F came (s :: S)) :
    Calls Try.prog 30 #[.pointer (some ⟨b, 0, none⟩)] w fun e w' => e = .returned (.tuple #[itV s.1, .bool true]) ∧ Keeps [] w w' := by
  obtain ⟨h1, h2, h3⟩ := h
  rcases h3 with ⟨h3, rfl, h5⟩ | ⟨g, cap, L, rfl, h4, h5, h6, h7⟩
  · cases h3
  · have hl : 0 < L.length := by rw [h5.length_eq]; simp
    have h0 := head_cellT h7 hl
    rw [head_ord h6 h5 h1] at h0
    exact peekT_mem b g _ cap s.1 w hl (cell_blk h7.hb 1) h0.1 h0.2

theorem downEmptyT (b cap : Nat) (a : Option Addr) (w : World) (h1 : w.cell? ⟨b, 1, none⟩ = some (.slice a 0 cap)) :
    Calls Try.prog 42 #[.pointer (some ⟨b, 0, none⟩), .int .i64 (0 : Nat)] w fun e w' => e = .returned (.tuple #[]) ∧ w = w' := by
  go_enter Try.func42, Try.ntmps42
  go_step3
  go_wp2_with fail
  go_step3
  go_wp2_with fail
  refine wp_loop_rounds 1 ?_
  rw [rounds_succ]
  go_wp2_with fail
  refine wp_loop_rounds 1 ?_
  rw [rounds_succ]
  go_wp2
  simp only [Exit.noGoto]
  go_returns
  exact ⟨rfl, rfl⟩

theorem popT_none (b : Nat) (F : List Nat) (came : Nat) (w : World) (h : HT w b F came []) :
    Calls Try.prog 24 #[.pointer (some ⟨b, 0, none⟩)] w fun e w' => e = .returned (.tuple #[itV (0, 0), .bool false]) ∧ Keeps [] w w' := by
  have K0 : Keeps [] w (w.alloc (.cells #[.int .i64 0, .int .i64 0] 45)) := (Keeps.refl _ _).alloc _
  have H := Lib.hid (h.kept K0 (by simp))
  have hres := blk_new w (.cells #[.int .i64 0, .int .i64 0] 45)
  clear h
  go_enter Try.func24, Try.ntmps24
  go_wp2_with fail
  generalize w.alloc (.cells #[.int .i64 0, .int .i64 0] 45) = w1 at H hres K0 ⊢
  refine (peekT_none b F came _ H.out).mono ?_
  rintro e w' ⟨rfl, K1⟩
  have hres2 := blk_alloc (K1.blk hres (by simp)) (.cells #[.int .i64 0, .int .i64 0] 45)
  have e0 := cell_blk hres2 0
  have e1 := cell_blk hres2 1
  have f0 := free_blk hres2 0
  have f1 := free_blk hres2 1
  have hres3 := K1.blk hres (by simp)
  have e2 := cell_blk hres3 0
  have e3 := cell_blk hres3 1
  have f2 := free_blk hres3 0
  have f3 := free_blk hres3 1
  have HRES := Lib.hid hres3
  clear hres3
  have K2 := K0.trans K1
  have hn2 : w.heap.size < w'.heap.size := blk_lt (K1.blk hres (by simp))
  clear hres hres2 K0 K1 H
  go_wp2
  have hb3 := blk_alloc (blk_set_same (blk_set_same HRES.out 0 (.int .i64 0)) 1 (.int .i64 0)) (.cells #[.int .i64 0, .int .i64 0] 45)
  have r0 := cell_blk hb3 0
  have r1 := cell_blk hb3 1
  simp at r0 r1
  refine bodyPost_ret (v := .tuple #[itV (0, 0), .bool false]) (by simp [results, Try.results24, go_sem, r0, r1]) rfl ⟨rfl, ?_⟩
  exact (((K2.andThen ((Keeps.refl [w.heap.size] w').setCell _ 0 _ (.inl (by simp))) (by simp)).andThen ((Keeps.refl [w.heap.size] _).setCell _ 1 _ (.inl (by simp))) (by simp)).alloc _)

set_option maxHeartbeats 1000000 in
theorem popT_some (b : Nat) (F : List Nat) (came : Nat) (s : (Int × Int) × Nat) (S : List ((Int × Int) × Nat)) (w : World) (h : HT w b F came (s :: S)) (hn : S.length < 1000000) :
    Calls Try.prog 24 #[.pointer (some ⟨b, 0, none⟩)] w fun e w' => e = .returned (.tuple #[itV s.1, .bool true]) ∧ HT w' b F came S ∧ Keeps F w w' := by
  have H := Lib.hid h
  obtain ⟨h1, h2, h3⟩ := h
  rcases h3 with ⟨h3, rfl, h5⟩ | ⟨g, cap, L, rfl, h4, h5, h6, h7⟩
  · cases h3
  · have hlen : L.length = S.length + 1 := by rw [h5.length_eq]; rfl
    have H1 := Lib.hid h1
    have H2 := Lib.hid h2
    have H5 := Lib.hid h5
    have H6 := Lib.hid h6
    have H7 := Lib.hid h7
    have c1 := cell_blk h7.hb 1
    rw [hlen] at c1
    have hbg := h7.hbg
    have hcap := h7.hcap
    rw [hlen] at hcap
    have HL := Lib.hid hlen
    clear h1 h2 h5 h6 h7 hlen
    generalize hnn : S.length = n at c1 hcap hn
    have HN := Lib.hid hnn
    clear hnn
    have hres := blk_new w (.cells #[.int .i64 0, .int .i64 0] 45)
    have K0 : Keeps [] w (w.alloc (.cells #[.int .i64 0, .int .i64 0] 45)) := (Keeps.refl _ _).alloc _
    have HA := Lib.hid (H.out.kept K0 (by simp))
    have H7A := Lib.hid (H7.out.keeps K0 (by simp) (by simp))
    have hlw := H7.out.lt
    clear c1 H H7
    go_enter Try.func24, Try.ntmps24
    go_wp2_with fail
    generalize w.alloc (.cells #[.int .i64 0, .int .i64 0] 45) = wa at HA H7A K0 hres ⊢
    refine (peekT_some b _ came s S _ HA.out).mono ?_
    rintro e wb ⟨rfl, Kb⟩
    have K0b := K0.trans (Kb.alloc (.cells #[.int .i64 s.1.1, .int .i64 s.1.2] 45))
    have hres2 := blk_alloc (Kb.blk hres (by simp)) (.cells #[.int .i64 s.1.1, .int .i64 s.1.2] 45)
    have hx := blk_new wb (.cells #[.int .i64 s.1.1, .int .i64 s.1.2] 45)
    have H7B := Lib.hid (H7A.out.keeps (Kb.alloc (.cells #[.int .i64 s.1.1, .int .i64 s.1.2] 45)) (by simp) (by simp))
    have hnb : w.heap.size < wb.heap.size := blk_lt (Kb.blk hres (by simp))
    clear HA H7A K0 hres Kb
    have c1 := cell_blk H7B.out.hb 1
    rw [HL.out, HN.out] at c1
    go_wp2_with fail
    generalize wb.alloc (.cells #[.int .i64 s.1.1, .int .i64 s.1.2] 45) = wc at K0b hres2 hx H7B c1 ⊢
    obtain ⟨hlb, hlg⟩ := hlw
    refine (swapT_of b g cap 0 n _ L _ H7B.out (by have := HL.out; omega) (by have := HL.out; have := HN.out; omega) (by have := HL.out; have := HN.out; omega)).mono ?_
    rintro e w1 ⟨rfl, hm1, K1⟩
    have hls : (sw L 0 n).length = n + 1 := by rw [length_sw, HL.out, HN.out]
    have b1 := hm1.hb
    rw [hls] at b1
    have d1 := cell_blk b1 1
    have e1 := free_blk b1 1
    have HM1 := Lib.hid hm1
    have B1 := Lib.hid b1
    have HLS := Lib.hid hls
    have hc1 : (n : Int) ≤ (cap : Int) := by omega
    have hc2 : (0 : Int) ≤ (n : Int) := by omega
    clear hm1 b1 hls c1
    go_wp2_with fail
    have b2 := blk_set_same B1.out 1 (.slice (some ⟨g, 0, none⟩) n cap)
    rw [getset3] at b2
    have k2 : Keeps [b] w1 (w1.setCell ⟨b, 1, none⟩ (.slice (some ⟨g, 0, none⟩) n cap)) := (Keeps.refl _ _).setCell b 1 _ (by simp)
    have htl : ((sw L 0 n).take n).length = n := by have := HLS.out; simp; omega
    have hm2 : HMT (w1.setCell ⟨b, 1, none⟩ (.slice (some ⟨g, 0, none⟩) n cap)) b g cap (.int .u64 came) ((sw L 0 n).take n) := by
      obtain ⟨cur, hg, hcs, ht⟩ := HM1.out.hg
      refine ⟨by rw [htl]; exact b2, ⟨cur, k2.blk hg (by simpa using Ne.symm hbg), hcs, ?_⟩, hbg, by rw [htl]; omega⟩
      have hle : n * 3 ≤ (sw L 0 n).length * 3 := by rw [HLS.out]; omega
      rw [htl]
      refine Eq.trans (b := (cur.toList.take ((sw L 0 n).length * 3)).take (n * 3)) ?_ ?_
      · rw [List.take_take, Nat.min_eq_left hle]
      · rw [ht]
        have := flat_append (ei := eiT) ((sw L 0 n).take n) ((sw L 0 n).drop n)
        rw [List.take_append_drop] at this
        rw [this, List.take_left']
        rw [length_flat (ei := eiT) eiT_len, htl]
    have K2 : Keeps [b, g] wc (w1.setCell ⟨b, 1, none⟩ (.slice (some ⟨g, 0, none⟩) n cap)) := (K1.mono (by simp)).trans (k2.mono (by simp))
    clear k2 K1
    generalize (w1.setCell ⟨b, 1, none⟩ (.slice (some ⟨g, 0, none⟩) n cap)) = w2 at b2 hm2 K2 ⊢
    have hpp := pop_perm (key := keyT) (by rw [HL.out, HN.out]) H6.out H5.out H1.out
    have hdn := down_start (key := keyT) (n := n) (by rw [HL.out, HN.out]) H6.out
    have hord : Ord keyT S := by have := H1.out; unfold Ord at *; exact (List.pairwise_cons.1 this).2
    have hat : ∀ y ∈ S, y.2 < came := fun y hy => H2.out y (by simp [hy])
    have HPP := Lib.hid hpp
    have HDN := Lib.hid hdn
    have HOR := Lib.hid hord
    have HAT := Lib.hid hat
    have HM2 := Lib.hid hm2
    have B2 := Lib.hid b2
    clear hpp hdn hord hat hm2 b2 d1 e1
    have fin : ∀ (w3 : World), HT w3 b [b, g] came S → Keeps [b, g] wc w3 → w3.heap[w.heap.size]? = some (.cells #[.int .i64 0, .int .i64 0] 45 (0, 0)) ∧ w3.heap[wb.heap.size]? = some (.cells #[.int .i64 s.1.1, .int .i64 s.1.2] 45 (0, 0)) ∧
        HT ((w3.setCell ⟨w.heap.size, 0, none⟩ (.int .i64 s.1.1)).setCell ⟨w.heap.size, 1, none⟩ (.int .i64 s.1.2)) b [b, g] came S ∧ Keeps [b, g] w ((w3.setCell ⟨w.heap.size, 0, none⟩ (.int .i64 s.1.1)).setCell ⟨w.heap.size, 1, none⟩ (.int .i64 s.1.2)) := by
      intro w3 h3 k3
      have kk : Keeps [w.heap.size] w3 ((w3.setCell ⟨w.heap.size, 0, none⟩ (.int .i64 s.1.1)).setCell ⟨w.heap.size, 1, none⟩ (.int .i64 s.1.2)) := ((Keeps.refl _ _).setCell _ 0 _ (.inl (by simp))).setCell _ 1 _ (.inl (by simp))
      refine ⟨k3.blk hres2 (by simp; omega), k3.blk hx (by simp; omega), h3.kept kk (by simp; omega), ?_⟩
      exact ((K0b.mono (by simp)).trans (k3.mono (by intro k hk; exact .inl hk))).andThen kk (by simp)
    have FIN := Lib.hid fin
    clear fin hres2 hx K0b
    by_cases hn0 : n = 0
    · subst hn0
      refine (downEmptyT b cap _ _ (cell_blk B2.out 1)).mono ?_
      rintro e w3 ⟨rfl, rfl⟩
      have hh : HT w2 b [b, g] came S := ⟨HOR.out, HAT.out, .inr ⟨g, cap, _, rfl, h4, HPP.out, (by intro j hj hj2; simp at hj2), HM2.out⟩⟩
      obtain ⟨hr3, hx3, hh3, hk3⟩ := FIN.out _ hh K2
      have HH3 := Lib.hid hh3
      have HK3 := Lib.hid hk3
      have HR3 := Lib.hid hr3
      have e0 := cell_blk hr3 0
      have e1 := cell_blk hr3 1
      have e2 := cell_blk hx3 0
      have e3 := cell_blk hx3 1
      have f0 := free_blk hr3 0
      have f1 := free_blk hr3 1
      clear hh hr3 hx3 hh3 hk3 K2
      go_wp2
      have hb3 := blk_set_same (blk_set_same HR3.out 0 (.int .i64 s.1.1)) 1 (.int .i64 s.1.2)
      have r0 := cell_blk hb3 0
      have r1 := cell_blk hb3 1
      simp at r0 r1
      refine bodyPost_ret (v := .tuple #[itV s.1, .bool true]) (by simp [results, Try.results24, go_sem, r0, r1]) rfl ⟨rfl, HH3.out, HK3.out⟩
    · refine (downT b g cap 0 _ _ _ HM2.out (by rw [htl]; omega) (by rw [htl]; omega) HDN.out).mono ?_
      rintro e w3 ⟨rfl, L3, hm3, hp3, hh3, K3⟩
      have hh : HT w3 b [b, g] came S := ⟨HOR.out, HAT.out, .inr ⟨g, cap, L3, rfl, h4, hp3.trans HPP.out, hh3, hm3⟩⟩
      obtain ⟨hr3, hx3, hh3, hk3⟩ := FIN.out _ hh (K2.trans (K3.mono (by simp)))
      have HH3 := Lib.hid hh3
      have HK3 := Lib.hid hk3
      have HR3 := Lib.hid hr3
      have e0 := cell_blk hr3 0
      have e1 := cell_blk hr3 1
      have e2 := cell_blk hx3 0
      have e3 := cell_blk hx3 1
      have f0 := free_blk hr3 0
      have f1 := free_blk hr3 1
      clear hh hr3 hx3 hh3 hk3 K2 hm3 hp3
      go_wp2
      have hb3 := blk_set_same (blk_set_same HR3.out 0 (.int .i64 s.1.1)) 1 (.int .i64 s.1.2)
      have r0 := cell_blk hb3 0
      have r1 := cell_blk hb3 1
      simp at r0 r1
      refine bodyPost_ret (v := .tuple #[itV s.1, .bool true]) (by simp [results, Try.results24, go_sem, r0, r1]) rfl ⟨rfl, HH3.out, HK3.out⟩
end Go.Proofs.Ytlcbcagbiiachaa
