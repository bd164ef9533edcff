/- What a heap is in memory; Len, Peek, Pop and Push of it. -/
import Derived.Test.YtlcbcagbiiachaaDown
namespace Go.Proofs.Ytlcbcagbiiachaa
open Go.RowKit

/-- The heap at block b (its memory: F) holds S, in order. -/
def IsHeap {α : Type} [Inhabited α] (key : α → Int) (ei : α × Nat → List Value) (sz less T E : Nat) (w : World) (b : Nat) (F : List Nat) (came : Nat) (S : List (α × Nat)) : Prop :=
  Ord key S ∧ (∀ y ∈ S, y.2 < came) ∧
  ((S = [] ∧ F = [b] ∧ w.heap[b]? = some (.cells #[.func (.func less) #[] #[], .slice none 0 0, .int .u64 came] T (0, 0))) ∨
   ∃ (g cap : Nat) (L : List (α × Nat)), F = [b, g] ∧ cap ≤ maxLen ∧ L.Perm S ∧ Hp key L ∧ HM ei sz less T E w b g cap (.int .u64 came) L)

section
variable {α : Type} [Inhabited α] {key : α → Int} {ei : α × Nat → List Value} {sz less T E : Nat} {w w' : World} {b : Nat} {F : List Nat} {came : Nat} {S : List (α × Nat)}
theorem IsHeap.kept (h : IsHeap key ei sz less T E w b F came S) {G : List Nat} (k : Keeps G w w') (hG : ∀ g ∈ G, g ∉ F) : IsHeap key ei sz less T E w' b F came S := by
  obtain ⟨h1, h2, h3⟩ := h
  refine ⟨h1, h2, ?_⟩
  rcases h3 with ⟨h3, rfl, h5⟩ | ⟨g, cap, L, rfl, h4, h5, h6, h7⟩
  · exact .inl ⟨h3, rfl, k.blk h5 (fun hb => hG _ hb (by simp))⟩
  · exact .inr ⟨g, cap, L, rfl, h4, h5, h6, h7.keeps k (fun hb => hG _ hb (by simp)) (fun hb => hG _ hb (by simp))⟩
theorem IsHeap.lt (h : IsHeap key ei sz less T E w b F came S) : ∀ k ∈ F, k < w.heap.size := by
  rcases h.2.2 with ⟨h3, rfl, h5⟩ | ⟨g, cap, L, rfl, h4, h5, h6, h7⟩
  · intro k hk; simp at hk; subst hk; exact blk_lt h5
  · intro k hk; simp at hk; rcases hk with rfl | rfl
    · exact h7.lt.1
    · exact h7.lt.2
theorem IsHeap.mem (h : IsHeap key ei sz less T E w b F came S) : b ∈ F := by
  rcases h.2.2 with ⟨h3, rfl, h5⟩ | ⟨g, cap, L, rfl, h4, h5, h6, h7⟩ <;> simp
theorem IsHeap.slice (h : IsHeap key ei sz less T E w b F came S) : ∃ a cap, w.cell? ⟨b, 1, none⟩ = some (.slice a S.length cap) := by
  rcases h.2.2 with ⟨h3, rfl, h5⟩ | ⟨g, cap, L, rfl, h4, h5, h6, h7⟩
  · exact ⟨none, 0, by rw [h3]; exact cell_blk h5 1⟩
  · exact ⟨some ⟨g, 0, none⟩, cap, by rw [← h5.length_eq]; exact cell_blk h7.hb 1⟩
end
theorem getset3 (x y z v : Value) : (#[x, y, z] : Array Value).setIfInBounds 1 v = #[x, v, z] := by simp

abbrev HI := IsHeap (α := Int) keyI eiI 2 10 71 84

theorem lenI (b : Nat) (F : List Nat) (came : Nat) (S : List (Int × Nat)) (w : World) (h : HI w b F came S) :
    Calls Try.prog 14 #[.pointer (some ⟨b, 0, none⟩)] w fun e w' => e = .returned (.int .i64 S.length) ∧ w = w' := by
  obtain ⟨a, cap, h1⟩ := h.slice
  exact lenI_mem b _ cap a w h1

theorem peekI_none (b : Nat) (F : List Nat) (came : Nat) (w : World) (h : HI w b F came []) :
    Calls Try.prog 27 #[.pointer (some ⟨b, 0, none⟩)] w fun e w' => e = .returned (.tuple #[.int .i64 0, .bool false]) ∧ w = w' := by
  have H := Lib.hid h
  clear h
  go_enter Try.func27, Try.ntmps27
  go_wp2_with fail
  refine (lenI b F came [] _ H.out).mono ?_
  rintro e w' ⟨rfl, rfl⟩
  go_wp2
  go_ret2
  exact ⟨rfl, rfl⟩

theorem peekI_mem (b g n cap : Nat) (x : Int) (w : World) (hn : 0 < n) (h1 : w.cell? ⟨b, 1, none⟩ = some (.slice (some ⟨g, 0, none⟩) n cap)) (hx : w.cell? ⟨g, 0, none⟩ = some (.int .i64 x)) :
    Calls Try.prog 27 #[.pointer (some ⟨b, 0, none⟩)] w fun e w' => e = .returned (.tuple #[.int .i64 x, .bool true]) ∧ w = w' := by
  have hn0 : ((n : Int) == 0) = false := by rw [beq_eq_false_iff_ne]; omega
  have hn1 : (0 : Int) < (n : Int) := by omega
  go_enter Try.func27, Try.ntmps27
  go_wp2_with (go_at_call 14; refine (lenI_mem b n cap _ _ h1).mono ?_; rintro e w' ⟨rfl, rfl⟩)
  go_ret2
  exact ⟨rfl, rfl⟩

theorem head_cellI {w : World} {b g cap : Nat} {c2 : Value} {L : List (Int × Nat)} (h : HMI w b g cap c2 L) (hl : 0 < L.length) : w.cell? ⟨g, 0, none⟩ = some (.int .i64 L[0]!.1) := by
  obtain ⟨cur, hg, hcs, ht⟩ := h.hg
  have := take_get (ei := eiI) eiI_len ht 0 0 hl (by decide)
  rw [cell_blk hg]
  simpa using this

theorem peekI_some (b : Nat) (F : List Nat) (came : Nat) (s : Int × Nat) (S : List (Int × Nat)) (w : World) (h : HI w b F came (s :: S)) :
    Calls Try.prog 27 #[.pointer (some ⟨b, 0, none⟩)] w fun e w' => e = .returned (.tuple #[.int .i64 s.1, .bool true]) ∧ w = w' := by
  obtain ⟨h1, h2, h3⟩ := h
  rcases h3 with ⟨h3, rfl, h5⟩ | ⟨g, cap, L, rfl, h4, h5, h6, h7⟩
  · cases h3
  · have hl : 0 < L.length := by rw [h5.length_eq]; simp
    have h0 := head_cellI h7 hl
    rw [head_ord h6 h5 h1] at h0
    exact peekI_mem b g _ cap s.1 w hl (cell_blk h7.hb 1) h0

theorem downEmptyI (b cap : Nat) (a : Option Addr) (w : World) (h1 : w.cell? ⟨b, 1, none⟩ = some (.slice a 0 cap)) :
    Calls Try.prog 36 #[.pointer (some ⟨b, 0, none⟩), .int .i64 (0 : Nat)] w fun e w' => e = .returned (.tuple #[]) ∧ w = w' := by
  go_enter Try.func36, Try.ntmps36
  go_step3
  go_wp2_with fail
  go_step3
  go_wp2_with fail
  refine wp_loop_rounds 1 ?_
  rw [rounds_succ]
  go_wp2_with fail
  refine wp_loop_rounds 1 ?_
  rw [rounds_succ]
  go_wp2
  simp only [Exit.noGoto]
  go_returns
  exact ⟨rfl, rfl⟩

theorem popI_none (b : Nat) (F : List Nat) (came : Nat) (w : World) (h : HI w b F came []) :
    Calls Try.prog 15 #[.pointer (some ⟨b, 0, none⟩)] w fun e w' => e = .returned (.tuple #[.int .i64 0, .bool false]) ∧ w = w' := by
  have H := Lib.hid h
  clear h
  go_enter Try.func15, Try.ntmps15
  go_wp2_with fail
  refine (peekI_none b F came _ H.out).mono ?_
  rintro e w' ⟨rfl, rfl⟩
  go_wp2
  go_ret2
  exact ⟨rfl, rfl⟩

set_option maxHeartbeats 1000000 in
theorem popI_some (b : Nat) (F : List Nat) (came : Nat) (s : Int × Nat) (S : List (Int × Nat)) (w : World) (h : HI w b F came (s :: S)) (hn : S.length < 1000000) :
    Calls Try.prog 15 #[.pointer (some ⟨b, 0, none⟩)] w fun e w' => e = .returned (.tuple #[.int .i64 s.1, .bool true]) ∧ HI w' b F came S ∧ Keeps F w w' := by
  have H := Lib.hid h
  obtain ⟨h1, h2, h3⟩ := h
  rcases h3 with ⟨h3, rfl, h5⟩ | ⟨g, cap, L, rfl, h4, h5, h6, h7⟩
  · cases h3
  · have hlen : L.length = S.length + 1 := by rw [h5.length_eq]; rfl
    have H1 := Lib.hid h1
    have H2 := Lib.hid h2
    have H5 := Lib.hid h5
    have H6 := Lib.hid h6
    have H7 := Lib.hid h7
    have c1 := cell_blk h7.hb 1
    rw [hlen] at c1
    have hbg := h7.hbg
    have hcap := h7.hcap
    rw [hlen] at hcap
    have HL := Lib.hid hlen
    clear h1 h2 h5 h6 h7 hlen
    generalize hnn : S.length = n at c1 hcap hn
    have HN := Lib.hid hnn
    clear hnn
    go_enter Try.func15, Try.ntmps15
    go_wp2_with fail
    refine (peekI_some b _ came s S _ H.out).mono ?_
    rintro e w' ⟨rfl, rfl⟩
    go_wp2_with fail
    refine (swapI_of b g cap 0 n _ L _ H7.out (by have := HL.out; omega) (by have := HL.out; have := HN.out; omega) (by have := HL.out; have := HN.out; omega)).mono ?_
    rintro e w1 ⟨rfl, hm1, K1⟩
    have hls : (sw L 0 n).length = n + 1 := by rw [length_sw, HL.out, HN.out]
    have b1 := hm1.hb
    rw [hls] at b1
    have d1 := cell_blk b1 1
    have e1 := free_blk b1 1
    have HM1 := Lib.hid hm1
    have B1 := Lib.hid b1
    have HLS := Lib.hid hls
    have hc1 : (n : Int) ≤ (cap : Int) := by omega
    have hc2 : (0 : Int) ≤ (n : Int) := by omega
    clear hm1 b1 hls c1
    go_wp2_with fail
    have b2 := blk_set_same B1.out 1 (.slice (some ⟨g, 0, none⟩) n cap)
    rw [getset3] at b2
    have k2 : Keeps [b] w1 (w1.setCell ⟨b, 1, none⟩ (.slice (some ⟨g, 0, none⟩) n cap)) := (Keeps.refl _ _).setCell b 1 _ (by simp)
    have htl : ((sw L 0 n).take n).length = n := by have := HLS.out; simp; omega
    have hm2 : HMI (w1.setCell ⟨b, 1, none⟩ (.slice (some ⟨g, 0, none⟩) n cap)) b g cap (.int .u64 came) ((sw L 0 n).take n) := by
      obtain ⟨cur, hg, hcs, ht⟩ := HM1.out.hg
      refine ⟨by rw [htl]; exact b2, ⟨cur, k2.blk hg (by simpa using Ne.symm hbg), hcs, ?_⟩, hbg, by rw [htl]; omega⟩
      have hle : n * 2 ≤ (sw L 0 n).length * 2 := by rw [HLS.out]; omega
      rw [htl]
      refine Eq.trans (b := (cur.toList.take ((sw L 0 n).length * 2)).take (n * 2)) ?_ ?_
      · rw [List.take_take, Nat.min_eq_left hle]
      · rw [ht]
        have := flat_append (ei := eiI) ((sw L 0 n).take n) ((sw L 0 n).drop n)
        rw [List.take_append_drop] at this
        rw [this, List.take_left']
        rw [length_flat (ei := eiI) eiI_len, htl]
    have K2 : Keeps [b, g] w (w1.setCell ⟨b, 1, none⟩ (.slice (some ⟨g, 0, none⟩) n cap)) := (K1.mono (by simp)).trans (k2.mono (by simp))
    clear k2 K1
    generalize (w1.setCell ⟨b, 1, none⟩ (.slice (some ⟨g, 0, none⟩) n cap)) = w2 at b2 hm2 K2 ⊢
    have hpp := pop_perm (key := keyI) (by rw [HL.out, HN.out]) H6.out H5.out H1.out
    have hdn := down_start (key := keyI) (n := n) (by rw [HL.out, HN.out]) H6.out
    have hord : Ord keyI S := by have := H1.out; unfold Ord at *; exact (List.pairwise_cons.1 this).2
    have hat : ∀ y ∈ S, y.2 < came := fun y hy => H2.out y (by simp [hy])
    have HPP := Lib.hid hpp
    have HDN := Lib.hid hdn
    have HOR := Lib.hid hord
    have HAT := Lib.hid hat
    have HM2 := Lib.hid hm2
    have B2 := Lib.hid b2
    clear hpp hdn hord hat hm2 b2 d1 e1
    by_cases hn0 : n = 0
    · subst hn0
      refine (downEmptyI b cap _ _ (cell_blk B2.out 1)).mono ?_
      rintro e w3 ⟨rfl, rfl⟩
      go_wp2
      go_ret2
      refine ⟨rfl, ⟨HOR.out, HAT.out, .inr ⟨g, cap, _, rfl, h4, HPP.out, ?_, HM2.out⟩⟩, K2⟩
      intro j hj hj2
      simp at hj2
    · refine (downI b g cap 0 _ _ _ HM2.out (by rw [htl]; omega) (by rw [htl]; omega) HDN.out).mono ?_
      rintro e w3 ⟨rfl, L3, hm3, hp3, hh3, K3⟩
      have HM3 := Lib.hid hm3
      have HP3 := Lib.hid hp3
      have HH3 := Lib.hid hh3
      clear hm3 hp3 hh3
      go_wp2
      go_ret2
      exact ⟨rfl, ⟨HOR.out, HAT.out, .inr ⟨g, cap, L3, rfl, h4, HP3.out.trans HPP.out, HH3.out, HM3.out⟩⟩, K2.trans (K3.mono (by simp))⟩

abbrev HS := IsHeap (α := ByteArray) keyS eiS 2 12 74 76

theorem lenS (b : Nat) (F : List Nat) (came : Nat) (S : List (ByteArray × Nat)) (w : World) (h : HS w b F came S) :
    Calls Try.prog 18 #[.pointer (some ⟨b, 0, none⟩)] w fun e w' => e = .returned (.int .i64 S.length) ∧ w = w' := by
  obtain ⟨a, cap, h1⟩ := h.slice
  exact lenS_mem b _ cap a w h1

theorem peekS_none (b : Nat) (F : List Nat) (came : Nat) (w : World) (h : HS w b F came []) :
    Calls Try.prog 38 #[.pointer (some ⟨b, 0, none⟩)] w fun e w' => e = .returned (.tuple #[.string ⟨#[]⟩, .bool false]) ∧ w = w' := by
  have H := Lib.hid h
  clear h
  go_enter Try.func38, Try.ntmps38
  go_wp2_with fail
  refine (lenS b F came [] _ H.out).mono ?_
  rintro e w' ⟨rfl, rfl⟩
  go_wp2
  go_ret2
  exact ⟨rfl, rfl⟩

theorem peekS_mem (b g n cap : Nat) (x : ByteArray) (w : World) (hn : 0 < n) (h1 : w.cell? ⟨b, 1, none⟩ = some (.slice (some ⟨g, 0, none⟩) n cap)) (hx : w.cell? ⟨g, 0, none⟩ = some (.string x)) :
    Calls Try.prog 38 #[.pointer (some ⟨b, 0, none⟩)] w fun e w' => e = .returned (.tuple #[.string x, .bool true]) ∧ w = w' := by
  have hn0 : ((n : Int) == 0) = false := by rw [beq_eq_false_iff_ne]; omega
  have hn1 : (0 : Int) < (n : Int) := by omega
  go_enter Try.func38, Try.ntmps38
  go_wp2_with (go_at_call 18; refine (lenS_mem b n cap _ _ h1).mono ?_; rintro e w' ⟨rfl, rfl⟩)
  go_ret2
  exact ⟨rfl, rfl⟩

theorem head_cellS {w : World} {b g cap : Nat} {c2 : Value} {L : List (ByteArray × Nat)} (h : HMS w b g cap c2 L) (hl : 0 < L.length) : w.cell? ⟨g, 0, none⟩ = some (.string L[0]!.1) := by
  obtain ⟨cur, hg, hcs, ht⟩ := h.hg
  have := take_get (ei := eiS) eiS_len ht 0 0 hl (by decide)
  rw [cell_blk hg]
  simpa using this

theorem peekS_some (b : Nat) (F : List Nat) (came : Nat) (s : ByteArray × Nat) (S : List (ByteArray × Nat)) (w : World) (h : HS w b F came (s :: S)) :
    Calls Try.prog 38 #[.pointer (some ⟨b, 0, none⟩)] w fun e w' => e = .returned (.tuple #[.string s.1, .bool true]) ∧ w = w' := by
  obtain ⟨h1, h2, h3⟩ := h
  rcases h3 with ⟨h3, rfl, h5⟩ | ⟨g, cap, L, rfl, h4, h5, h6, h7⟩
  · cases h3
  · have hl : 0 < L.length := by rw [h5.length_eq]; simp
    have h0 := head_cellS h7 hl
    rw [head_ord h6 h5 h1] at h0
    exact peekS_mem b g _ cap s.1 w hl (cell_blk h7.hb 1) h0

theorem downEmptyS (b cap : Nat) (a : Option Addr) (w : World) (h1 : w.cell? ⟨b, 1, none⟩ = some (.slice a 0 cap)) :
    Calls Try.prog 39 #[.pointer (some ⟨b, 0, none⟩), .int .i64 (0 : Nat)] w fun e w' => e = .returned (.tuple #[]) ∧ w = w' := by
  go_enter Try.func39, Try.ntmps39
  go_step3
  go_wp2_with fail
  go_step3
  go_wp2_with fail
  refine wp_loop_rounds 1 ?_
  rw [rounds_succ]
  go_wp2_with fail
  refine wp_loop_rounds 1 ?_
  rw [rounds_succ]
  go_wp2
  simp only [Exit.noGoto]
  go_returns
  exact ⟨rfl, rfl⟩

theorem popS_none (b : Nat) (F : List Nat) (came : Nat) (w : World) (h : HS w b F came []) :
    Calls Try.prog 19 #[.pointer (some ⟨b, 0, none⟩)] w fun e w' => e = .returned (.tuple #[.string ⟨#[]⟩, .bool false]) ∧ w = w' := by
  have H := Lib.hid h
  clear h
  go_enter Try.func19, Try.ntmps19
  go_wp2_with fail
  refine (peekS_none b F came _ H.out).mono ?_
  rintro e w' ⟨rfl, rfl⟩
  go_wp2
  go_ret2
  exact ⟨rfl, rfl⟩

set_option maxHeartbeats 1000000 in
theorem popS_some (b : Nat) (F : List Nat) (came : Nat) (s : ByteArray × Nat) (S : List (ByteArray × Nat)) (w : World) (h : HS w b F came (s :: S)) (hn : S.length < 1000000) :
    Calls Try.prog 19 #[.pointer (some ⟨b, 0, none⟩)] w fun e w' => e = .returned (.tuple #[.string s.1, .bool true]) ∧ HS w' b F came S ∧ Keeps F w w' := by
  have H := Lib.hid h
  obtain ⟨h1, h2, h3⟩ := h
  rcases h3 with ⟨h3, rfl, h5⟩ | ⟨g, cap, L, rfl, h4, h5, h6, h7⟩
  · cases h3
  · have hlen : L.length = S.length + 1 := by rw [h5.length_eq]; rfl
    have H1 := Lib.hid h1
    have H2 := Lib.hid h2
    have H5 := Lib.hid h5
    have H6 := Lib.hid h6
    have H7 := Lib.hid h7
    have c1 := cell_blk h7.hb 1
    rw [hlen] at c1
    have hbg := h7.hbg
    have hcap := h7.hcap
    rw [hlen] at hcap
    have HL := Lib.hid hlen
    clear h1 h2 h5 h6 h7 hlen
    generalize hnn : S.length = n at c1 hcap hn
    have HN := Lib.hid hnn
    clear hnn
    go_enter Try.func19, Try.ntmps19
    go_wp2_with fail
    refine (peekS_some b _ came s S _ H.out).mono ?_
    rintro e w' ⟨rfl, rfl⟩
    go_wp2_with fail
    refine (swapS_of b g cap 0 n _ L _ H7.out (by have := HL.out; omega) (by have := HL.out; have := HN.out; omega) (by have := HL.out; have := HN.out; omega)).mono ?_
    rintro e w1 ⟨rfl, hm1, K1⟩
    have hls : (sw L 0 n).length = n + 1 := by rw [length_sw, HL.out, HN.out]
    have b1 := hm1.hb
    rw [hls] at b1
    have d1 := cell_blk b1 1
    have e1 := free_blk b1 1
    have HM1 := Lib.hid hm1
    have B1 := Lib.hid b1
    have HLS := Lib.hid hls
    have hc1 : (n : Int) ≤ (cap : Int) := by omega
    have hc2 : (0 : Int) ≤ (n : Int) := by omega
    clear hm1 b1 hls c1
    go_wp2_with fail
    have b2 := blk_set_same B1.out 1 (.slice (some ⟨g, 0, none⟩) n cap)
    rw [getset3] at b2
    have k2 : Keeps [b] w1 (w1.setCell ⟨b, 1, none⟩ (.slice (some ⟨g, 0, none⟩) n cap)) := (Keeps.refl _ _).setCell b 1 _ (by simp)
    have htl : ((sw L 0 n).take n).length = n := by have := HLS.out; simp; omega
    have hm2 : HMS (w1.setCell ⟨b, 1, none⟩ (.slice (some ⟨g, 0, none⟩) n cap)) b g cap (.int .u64 came) ((sw L 0 n).take n) := by
      obtain ⟨cur, hg, hcs, ht⟩ := HM1.out.hg
      refine ⟨by rw [htl]; exact b2, ⟨cur, k2.blk hg (by simpa using Ne.symm hbg), hcs, ?_⟩, hbg, by rw [htl]; omega⟩
      have hle : n * 2 ≤ (sw L 0 n).length * 2 := by rw [HLS.out]; omega
      rw [htl]
      refine Eq.trans (b := (cur.toList.take ((sw L 0 n).length * 2)).take (n * 2)) ?_ ?_
      · rw [List.take_take, Nat.min_eq_left hle]
      · rw [ht]
        have := flat_append (ei := eiS) ((sw L 0 n).take n) ((sw L 0 n).drop n)
        rw [List.take_append_drop] at this
        rw [this, List.take_left']
        rw [length_flat (ei := eiS) eiS_len, htl]
    have K2 : Keeps [b, g] w (w1.setCell ⟨b, 1, none⟩ (.slice (some ⟨g, 0, none⟩) n cap)) := (K1.mono (by simp)).trans (k2.mono (by simp))
    clear k2 K1
    generalize (w1.setCell ⟨b, 1, none⟩ (.slice (some ⟨g, 0, none⟩) n cap)) = w2 at b2 hm2 K2 ⊢
    have hpp := pop_perm (key := keyS) (by rw [HL.out, HN.out]) H6.out H5.out H1.out
    have hdn := down_start (key := keyS) (n := n) (by rw [HL.out, HN.out]) H6.out
    have hord : Ord keyS S := by have := H1.out; unfold Ord at *; exact (List.pairwise_cons.1 this).2
    have hat : ∀ y ∈ S, y.2 < came := fun y hy => H2.out y (by simp [hy])
    have HPP := Lib.hid hpp
    have HDN := Lib.hid hdn
    have HOR := Lib.hid hord
    have HAT := Lib.hid hat
    have HM2 := Lib.hid hm2
    have B2 := Lib.hid b2
    clear hpp hdn hord hat hm2 b2 d1 e1
    by_cases hn0 : n = 0
    · subst hn0
      refine (downEmptyS b cap _ _ (cell_blk B2.out 1)).mono ?_
      rintro e w3 ⟨rfl, rfl⟩
      go_wp2
      go_ret2
      refine ⟨rfl, ⟨HOR.out, HAT.out, .inr ⟨g, cap, _, rfl, h4, HPP.out, ?_, HM2.out⟩⟩, K2⟩
      intro j hj hj2
      simp at hj2
    · refine (downS b g cap 0 _ _ _ HM2.out (by rw [htl]; omega) (by rw [htl]; omega) HDN.out).mono ?_
      rintro e w3 ⟨rfl, L3, hm3, hp3, hh3, K3⟩
      have HM3 := Lib.hid hm3
      have HP3 := Lib.hid hp3
      have HH3 := Lib.hid hh3
      clear hm3 hp3 hh3
      go_wp2
      go_ret2
      exact ⟨rfl, ⟨HOR.out, HAT.out, .inr ⟨g, cap, L3, rfl, h4, HP3.out.trans HPP.out, HH3.out, HM3.out⟩⟩, K2.trans (K3.mono (by simp))⟩

end Go.Proofs.Ytlcbcagbiiachaa
