/- A heap of things whose counter is any value (the clone of Each): Len, Peek, Pop; its iterator. (Printed by gen_clone.py out of OpsT and Drain.) -/
import Derived.Test.YtlcbcagbiiachaaOpsT
import Derived.Test.YtlcbcagbiiachaaDrain
namespace Go.Proofs.Ytlcbcagbiiachaa
open Go.RowKit Go.Shelf
attribute [local go_sem] Oper.semAt_some

def HC (w : World) (b : Nat) (F : List Nat) (cv : Value) (S : List ((Int × Int) × Nat)) : Prop :=
  Ord keyT S ∧ ((S = [] ∧ F = [b] ∧ w.heap[b]? = some (.cells #[.func (.func 21) #[] #[], .slice none 0 0, cv] 80 (0, 0))) ∨
   ∃ (g cap : Nat) (L : List ((Int × Int) × Nat)), F = [b, g] ∧ cap ≤ maxLen ∧ L.Perm S ∧ Hp keyT L ∧ HMT w b g cap cv L)
theorem hc_of {w : World} {b : Nat} {F : List Nat} {came : Nat} {S : List ((Int × Int) × Nat)} (h : HT w b F came S) : HC w b F (.int .u64 came) S := ⟨h.1, h.2.2⟩
theorem ht_of {w : World} {b : Nat} {F : List Nat} {came : Nat} {S : List ((Int × Int) × Nat)} (h : HC w b F (.int .u64 came) S) (hl : ∀ y ∈ S, y.2 < came) : HT w b F came S := ⟨h.1, hl, h.2⟩
section
variable {w w' : World} {b : Nat} {F : List Nat} {cv : Value} {S : List ((Int × Int) × Nat)}
theorem HC.kept (h : HC w b F cv S) {G : List Nat} (k : Keeps G w w') (hG : ∀ g ∈ G, g ∉ F) : HC w' b F cv S := by
  obtain ⟨h1, h3⟩ := h
  refine ⟨h1, ?_⟩
  rcases h3 with ⟨h3, rfl, h5⟩ | ⟨g, cap, L, rfl, h4, h5, h6, h7⟩
  · exact .inl ⟨h3, rfl, k.blk h5 (fun hb => hG _ hb (by simp))⟩
  · exact .inr ⟨g, cap, L, rfl, h4, h5, h6, h7.keeps k (fun hb => hG _ hb (by simp)) (fun hb => hG _ hb (by simp))⟩
theorem HC.lt (h : HC w b F cv S) : ∀ k ∈ F, k < w.heap.size := by
  rcases h.2 with ⟨h3, rfl, h5⟩ | ⟨g, cap, L, rfl, h4, h5, h6, h7⟩
  · intro k hk; simp at hk; subst hk; exact blk_lt h5
  · intro k hk; simp at hk; rcases hk with rfl | rfl
    · exact h7.lt.1
    · exact h7.lt.2
theorem HC.mem (h : HC w b F cv S) : b ∈ F := by
  rcases h.2 with ⟨h3, rfl, h5⟩ | ⟨g, cap, L, rfl, h4, h5, h6, h7⟩ <;> simp
theorem HC.slice (h : HC w b F cv S) : ∃ a cap, w.cell? ⟨b, 1, none⟩ = some (.slice a S.length cap) := by
  rcases h.2 with ⟨h3, rfl, h5⟩ | ⟨g, cap, L, rfl, h4, h5, h6, h7⟩
  · exact ⟨none, 0, by rw [h3]; exact cell_blk h5 1⟩
  · exact ⟨some ⟨g, 0, none⟩, cap, by rw [← h5.length_eq]; exact cell_blk h7.hb 1⟩
theorem HC.same (h : HC w b F cv S) (k : Same F w w') : HC w' b F cv S := by
  obtain ⟨h1, h3⟩ := h
  refine ⟨h1, ?_⟩
  rcases h3 with ⟨h3, rfl, h5⟩ | ⟨g, cap, L, rfl, h4, h5, h6, h7⟩
  · exact .inl ⟨h3, rfl, (k b (by simp)).trans h5⟩
  · obtain ⟨cur, hg, hcs, ht⟩ := h7.hg
    exact .inr ⟨g, cap, L, rfl, h4, h5, h6, ⟨(k b (by simp)).trans h7.hb, ⟨cur, (k g (by simp)).trans hg, hcs, ht⟩, h7.hbg, h7.hcap⟩⟩
theorem HC.cells (h : HC w b F cv S) : ∀ k ∈ F, ∃ cs t fr, w.heap[k]? = some (.cells cs t fr) := by
  obtain ⟨h1, h3⟩ := h
  rcases h3 with ⟨h3, rfl, h5⟩ | ⟨g, cap, L, rfl, h4, h5, h6, h7⟩
  · intro k hk; simp at hk; subst hk; exact ⟨_, _, _, h5⟩
  · obtain ⟨cur, hg, hcs, ht⟩ := h7.hg
    intro k hk; simp at hk; rcases hk with rfl | rfl
    · exact ⟨_, _, _, h7.hb⟩
    · exact ⟨_, _, _, hg⟩
theorem hc_survive {W W' : World} {row : Option Nat} (hg : W.grownBy W' row) {B : Nat}
    (hr : ∀ r, row = some r → B ≤ r ∧ ∃ o : Obj, W.heap[r]? = some o ∧ o.isCells = false) (h : HC W b F cv S) : HC W' b F cv S :=
  h.same (fun k hk => by obtain ⟨cs, t, fr, e⟩ := h.cells k hk; rw [e]; exact cells_survive hg hr e)
theorem HC.clen (h : HC w b F cv S) : Ytlcbcagbiiachaa.sliceLen w b = S.length := by
  obtain ⟨a, cap, h1⟩ := h.slice
  simp [Ytlcbcagbiiachaa.sliceLen, h1]
end
theorem lenC (b : Nat) (F : List Nat) (cv : Value) (S : List ((Int × Int) × Nat)) (w : World) (h : HC w b F cv S) :
    Calls Try.prog 25 #[.pointer (some ⟨b, 0, none⟩)] w fun e w' => e = .returned (.int .i64 S.length) ∧ w = w' := by
  obtain ⟨a, cap, h1⟩ := h.slice
  exact lenT_mem b _ cap a w h1

theorem peekC_some (b : Nat) (F : List Nat) (cv : Value) (s : (Int × Int) × Nat) (S : List ((Int × Int) × Nat)) (w : World) (h : HC w b F cv (s :: S)) :
    Calls Try.prog 30 #[.pointer (some ⟨b, 0, none⟩)] w fun e w' => e = .returned (.tuple #[itV s.1, .bool true]) ∧ Keeps [] w w' := by
  obtain ⟨h1, h3⟩ := h
  rcases h3 with ⟨h3, rfl, h5⟩ | ⟨g, cap, L, rfl, h4, h5, h6, h7⟩
  · cases h3
  · have hl : 0 < L.length := by rw [h5.length_eq]; simp
    have h0 := head_cellT h7 hl
    rw [head_ord h6 h5 h1] at h0
    exact peekT_mem b g _ cap s.1 w hl (cell_blk h7.hb 1) h0.1 h0.2

set_option maxHeartbeats 1000000 in
theorem popC_some (b : Nat) (F : List Nat) (cv : Value) (s : (Int × Int) × Nat) (S : List ((Int × Int) × Nat)) (w : World) (h : HC w b F cv (s :: S)) (hn : S.length < 1000000) :
    Calls Try.prog 24 #[.pointer (some ⟨b, 0, none⟩)] w fun e w' => e = .returned (.tuple #[itV s.1, .bool true]) ∧ HC w' b F cv S ∧ Keeps F w w' := by
  have H := Lib.hid h
  obtain ⟨h1, h3⟩ := h
  rcases h3 with ⟨h3, rfl, h5⟩ | ⟨g, cap, L, rfl, h4, h5, h6, h7⟩
  · cases h3
  · have hlen : L.length = S.length + 1 := by rw [h5.length_eq]; rfl
    have H1 := Lib.hid h1
    have H5 := Lib.hid h5
    have H6 := Lib.hid h6
    have H7 := Lib.hid h7
    have c1 := cell_blk h7.hb 1
    rw [hlen] at c1
    have hbg := h7.hbg
    have hcap := h7.hcap
    rw [hlen] at hcap
    have HL := Lib.hid hlen
    clear h1 h5 h6 h7 hlen
    generalize hnn : S.length = n at c1 hcap hn
    have HN := Lib.hid hnn
    clear hnn
    have hres := blk_new w (.cells #[.int .i64 0, .int .i64 0] 45)
    have K0 : Keeps [] w (w.alloc (.cells #[.int .i64 0, .int .i64 0] 45)) := (Keeps.refl _ _).alloc _
    have HA := Lib.hid (H.out.kept K0 (by simp))
    have H7A := Lib.hid (H7.out.keeps K0 (by simp) (by simp))
    have hlw := H7.out.lt
    clear c1 H H7
    go_enter Try.func24, Try.ntmps24
    go_wp2_with fail
    generalize w.alloc (.cells #[.int .i64 0, .int .i64 0] 45) = wa at HA H7A K0 hres ⊢
    refine (peekC_some b _ cv s S _ HA.out).mono ?_
    rintro e wb ⟨rfl, Kb⟩
    have K0b := K0.trans (Kb.alloc (.cells #[.int .i64 s.1.1, .int .i64 s.1.2] 45))
    have hres2 := blk_alloc (Kb.blk hres (by simp)) (.cells #[.int .i64 s.1.1, .int .i64 s.1.2] 45)
    have hx := blk_new wb (.cells #[.int .i64 s.1.1, .int .i64 s.1.2] 45)
    have H7B := Lib.hid (H7A.out.keeps (Kb.alloc (.cells #[.int .i64 s.1.1, .int .i64 s.1.2] 45)) (by simp) (by simp))
    have hnb : w.heap.size < wb.heap.size := blk_lt (Kb.blk hres (by simp))
    clear HA H7A K0 hres Kb
    have c1 := cell_blk H7B.out.hb 1
    rw [HL.out, HN.out] at c1
    go_wp2_with fail
    generalize wb.alloc (.cells #[.int .i64 s.1.1, .int .i64 s.1.2] 45) = wc at K0b hres2 hx H7B c1 ⊢
    obtain ⟨hlb, hlg⟩ := hlw
    refine (swapT_of b g cap 0 n _ L _ H7B.out (by have := HL.out; omega) (by have := HL.out; have := HN.out; omega) (by have := HL.out; have := HN.out; omega)).mono ?_
    rintro e w1 ⟨rfl, hm1, K1⟩
    have hls : (sw L 0 n).length = n + 1 := by rw [length_sw, HL.out, HN.out]
    have b1 := hm1.hb
    rw [hls] at b1
    have d1 := cell_blk b1 1
    have e1 := free_blk b1 1
    have HM1 := Lib.hid hm1
    have B1 := Lib.hid b1
    have HLS := Lib.hid hls
    have hc1 : (n : Int) ≤ (cap : Int) := by omega
    have hc2 : (0 : Int) ≤ (n : Int) := by omega
    clear hm1 b1 hls c1
    go_wp2_with fail
    have b2 := blk_set_same B1.out 1 (.slice (some ⟨g, 0, none⟩) n cap)
    rw [getset3] at b2
    have k2 : Keeps [b] w1 (w1.setCell ⟨b, 1, none⟩ (.slice (some ⟨g, 0, none⟩) n cap)) := (Keeps.refl _ _).setCell b 1 _ (by simp)
    have htl : ((sw L 0 n).take n).length = n := by have := HLS.out; simp; omega
    have hm2 : HMT (w1.setCell ⟨b, 1, none⟩ (.slice (some ⟨g, 0, none⟩) n cap)) b g cap cv ((sw L 0 n).take n) := by
      obtain ⟨cur, hg, hcs, ht⟩ := HM1.out.hg
      refine ⟨by rw [htl]; exact b2, ⟨cur, k2.blk hg (by simpa using Ne.symm hbg), hcs, ?_⟩, hbg, by rw [htl]; omega⟩
      have hle : n * 3 ≤ (sw L 0 n).length * 3 := by rw [HLS.out]; omega
      rw [htl]
      refine Eq.trans (b := (cur.toList.take ((sw L 0 n).length * 3)).take (n * 3)) ?_ ?_
      · rw [List.take_take, Nat.min_eq_left hle]
      · rw [ht]
        have := flat_append (ei := eiT) ((sw L 0 n).take n) ((sw L 0 n).drop n)
        rw [List.take_append_drop] at this
        rw [this, List.take_left']
        rw [length_flat (ei := eiT) eiT_len, htl]
    have K2 : Keeps [b, g] wc (w1.setCell ⟨b, 1, none⟩ (.slice (some ⟨g, 0, none⟩) n cap)) := (K1.mono (by simp)).trans (k2.mono (by simp))
    clear k2 K1
    generalize (w1.setCell ⟨b, 1, none⟩ (.slice (some ⟨g, 0, none⟩) n cap)) = w2 at b2 hm2 K2 ⊢
    have hpp := pop_perm (key := keyT) (by rw [HL.out, HN.out]) H6.out H5.out H1.out
    have hdn := down_start (key := keyT) (n := n) (by rw [HL.out, HN.out]) H6.out
    have hord : Ord keyT S := by have := H1.out; unfold Ord at *; exact (List.pairwise_cons.1 this).2
    have HPP := Lib.hid hpp
    have HDN := Lib.hid hdn
    have HOR := Lib.hid hord
    have HM2 := Lib.hid hm2
    have B2 := Lib.hid b2
    clear hpp hdn hord hm2 b2 d1 e1
    have fin : ∀ (w3 : World), HC w3 b [b, g] cv S → Keeps [b, g] wc w3 → w3.heap[w.heap.size]? = some (.cells #[.int .i64 0, .int .i64 0] 45 (0, 0)) ∧ w3.heap[wb.heap.size]? = some (.cells #[.int .i64 s.1.1, .int .i64 s.1.2] 45 (0, 0)) ∧
        HC ((w3.setCell ⟨w.heap.size, 0, none⟩ (.int .i64 s.1.1)).setCell ⟨w.heap.size, 1, none⟩ (.int .i64 s.1.2)) b [b, g] cv S ∧ Keeps [b, g] w ((w3.setCell ⟨w.heap.size, 0, none⟩ (.int .i64 s.1.1)).setCell ⟨w.heap.size, 1, none⟩ (.int .i64 s.1.2)) := by
      intro w3 h3 k3
      have kk : Keeps [w.heap.size] w3 ((w3.setCell ⟨w.heap.size, 0, none⟩ (.int .i64 s.1.1)).setCell ⟨w.heap.size, 1, none⟩ (.int .i64 s.1.2)) := ((Keeps.refl _ _).setCell _ 0 _ (.inl (by simp))).setCell _ 1 _ (.inl (by simp))
      refine ⟨k3.blk hres2 (by simp; omega), k3.blk hx (by simp; omega), h3.kept kk (by simp; omega), ?_⟩
      exact ((K0b.mono (by simp)).trans (k3.mono (by intro k hk; exact .inl hk))).andThen kk (by simp)
    have FIN := Lib.hid fin
    clear fin hres2 hx K0b
    by_cases hn0 : n = 0
    · subst hn0
      refine (downEmptyT b cap _ _ (cell_blk B2.out 1)).mono ?_
      rintro e w3 ⟨rfl, rfl⟩
      have hh : HC w2 b [b, g] cv S := ⟨HOR.out, .inr ⟨g, cap, _, rfl, h4, HPP.out, (by intro j hj hj2; simp at hj2), HM2.out⟩⟩
      obtain ⟨hr3, hx3, hh3, hk3⟩ := FIN.out _ hh K2
      have HH3 := Lib.hid hh3
      have HK3 := Lib.hid hk3
      have HR3 := Lib.hid hr3
      have e0 := cell_blk hr3 0
      have e1 := cell_blk hr3 1
      have e2 := cell_blk hx3 0
      have e3 := cell_blk hx3 1
      have f0 := free_blk hr3 0
      have f1 := free_blk hr3 1
      clear hh hr3 hx3 hh3 hk3 K2
      go_wp2
      have hb3 := blk_set_same (blk_set_same HR3.out 0 (.int .i64 s.1.1)) 1 (.int .i64 s.1.2)
      have r0 := cell_blk hb3 0
      have r1 := cell_blk hb3 1
      simp at r0 r1
      refine bodyPost_ret (v := .tuple #[itV s.1, .bool true]) (by simp [results, Try.results24, go_sem, r0, r1]) rfl ⟨rfl, HH3.out, HK3.out⟩
    · refine (downT b g cap 0 _ _ _ HM2.out (by rw [htl]; omega) (by rw [htl]; omega) HDN.out).mono ?_
      rintro e w3 ⟨rfl, L3, hm3, hp3, hh3, K3⟩
      have hh : HC w3 b [b, g] cv S := ⟨HOR.out, .inr ⟨g, cap, L3, rfl, h4, hp3.trans HPP.out, hh3, hm3⟩⟩
      obtain ⟨hr3, hx3, hh3, hk3⟩ := FIN.out _ hh (K2.trans (K3.mono (by simp)))
      have HH3 := Lib.hid hh3
      have HK3 := Lib.hid hk3
      have HR3 := Lib.hid hr3
      have e0 := cell_blk hr3 0
      have e1 := cell_blk hr3 1
      have e2 := cell_blk hx3 0
      have e3 := cell_blk hx3 1
      have f0 := free_blk hr3 0
      have f1 := free_blk hr3 1
      clear hh hr3 hx3 hh3 hk3 K2 hm3 hp3
      go_wp2
      have hb3 := blk_set_same (blk_set_same HR3.out 0 (.int .i64 s.1.1)) 1 (.int .i64 s.1.2)
      have r0 := cell_blk hb3 0
      have r1 := cell_blk hb3 1
      simp at r0 r1
      refine bodyPost_ret (v := .tuple #[itV s.1, .bool true]) (by simp [results, Try.results24, go_sem, r0, r1]) rfl ⟨rfl, HH3.out, HK3.out⟩

theorem drainT (w : World) (p : Option Addr) : Calls Try.prog 45 #[.pointer p] w fun e w' => e = .returned (.func (.func 46) #[] #[.pointer (some ⟨w.heap.size, 0, none⟩)]) ∧ w' = w.alloc (.cells #[.pointer p] 42) := by
  go_enter Try.func45, Try.ntmps45
  go_wp2
  go_ret
  exact ⟨rfl, rfl⟩

theorem drainC_over (n : Nat) (hn : 1 ≤ n) (Bx b : Nat) (F : List Nat) (cv : Value) (S : List ((Int × Int) × Nat)) (w : World) (hq : HC w b F cv S) (hsz : S.length < 1000000) (hBF : Bx ∉ F) (hx : w.heap[Bx]? = some (.cells #[.pointer (some ⟨b, 0, none⟩)] 42 (0, 0))) :
    SeqOver n Try.prog 46 #[.pointer (some ⟨Bx, 0, none⟩)] (fun x : Int × Int => #[itV x]) (Keeps F) (Same (Bx :: F)) (fun pre W => ∃ k, k < S.length ∧ pre = (S.map Prod.fst).take (k + 1) ∧ HC W b F cv (S.drop (k + 1))) (fun xs W => xs = S.map Prod.fst ∧ HC W b F cv []) S.length w := by
  intro lp J Jx W hW hJ hY h0
  have hF := hq.lt
  have hBx := blk_lt hx
  have sW : Same (Bx :: F) w W := fun k hk => hW.block k (by simp at hk; rcases hk with hk | hk; (· rw [hk]; exact hBx); (· exact hF k hk))
  have hqW : HC W b F cv S := hq.same (fun k hk => sW k (by simp [hk]))
  have hxW : W.heap[Bx]? = some (.cells #[.pointer (some ⟨b, 0, none⟩)] 42 (0, 0)) := (sW Bx (by simp)).trans hx
  have HX := Lib.hid hxW
  have HQ := Lib.hid hqW
  have H0 := Lib.hid h0
  have HJ := Lib.hid hJ
  have HY := Lib.hid hY
  have HS := Lib.hid hsz
  clear hxW hqW hq hx hJ hW sW hF h0 hY hBx hsz
  refine callsIn_of_wp Try.func46 rfl trivial ?_ rfl
  simp only [Try.ntmps46, List.size_toArray, List.length_cons, List.length_nil, Nat.reduceAdd, Nat.reduceSub, Array.replicate_succ, Array.replicate_zero, List.push_toArray, List.append_toArray, List.nil_append, List.cons_append]
  gi_wp2_with fail
  gi_loopw [3] (fun _ wr => ∃ k : Nat, k ≤ S.length ∧ J ((S.map Prod.fst).take k) wr ∧ HC wr b F cv (S.drop k) ∧ wr.heap[Bx]? = some (.cells #[.pointer (some ⟨b, 0, none⟩)] 42 (0, 0))) (fun _ wr => sliceLen wr b)
  case atStart => exact ⟨0, Nat.zero_le _, by simpa using H0.out, by simpa using HQ.out, HX.out⟩
  case round =>
    obtain ⟨k, hk, hJs, hq, hx⟩ := hrel
    have cx := cell_blk hx 0
    have HJs := Lib.hid hJs
    have HQR := Lib.hid hq
    have HXR := Lib.hid hx
    clear hJs hq hx
    gi_wp2_with fail
    refine ⟨trivial, ?_⟩
    refine (callsIn_wide.2 (lenC b F cv _ _ HQR.out)).mono ?_
    rintro e w' ⟨rfl, rfl⟩
    by_cases hlt : k < S.length
    · obtain ⟨s, hs⟩ : ∃ s, S[k]? = some s := ⟨S[k], by simp [hlt]⟩
      have hd : S.drop k = s :: S.drop (k + 1) := by
        rw [List.drop_eq_getElem_cons hlt]
        congr 1
        rw [List.getElem?_eq_getElem hlt] at hs
        exact Option.some.inj hs
      have hgt : decide ((0 : Nat) < (S.drop k).length) = true := by simp; omega
      have HSK := Lib.hid hs
      have HD := Lib.hid hd
      have hq2 := HQR.out
      rw [hd] at hq2
      have HQ2 := Lib.hid hq2
      have hlen2 : (S.drop (k + 1)).length < 1000000 := by simp; have := HS.out; omega
      have HL2 := Lib.hid hlen2
      clear hs hd hq2 hlen2
      gi_wp2_with fail
      refine ⟨trivial, ?_⟩
      refine (callsIn_wide.2 (popC_some b F cv s (S.drop (k + 1)) _ HQ2.out HL2.out)).mono ?_
      rintro e w2 ⟨rfl, hq3, K3⟩
      have hq3 := hq3.kept ((Keeps.refl [] w2).alloc (.cells #[.int .i64 s.1.1, .int .i64 s.1.2] 45)) (by simp)
      have K3 := K3.alloc (.cells #[.int .i64 s.1.1, .int .i64 s.1.2] 45)
      have HQ3 := Lib.hid hq3
      have hx3 := K3.blk HXR.out hBF
      have hJ3 := HJ.out _ _ _ HJs.out K3
      have HX3 := Lib.hid hx3
      have hpre : (S.map Prod.fst).take k ++ [s.1] = (S.map Prod.fst).take (k + 1) := by
        rw [List.take_add_one, List.getElem?_map, HSK.out]; rfl
      have HPRE := Lib.hid hpre
      have hy := HY.out _ s.1 _ hJ3 (by simp; omega) ⟨k, hlt, HPRE.out, HQ3.out⟩
      obtain ⟨fn, tmps, assign, body, hy, hR⟩ := hy
      clear hJ3 hq3 hx3 K3 hpre cx
      gi_wp2
      refine hR.mono ?_
      rintro e W3 (⟨rfl, hJ3, hk3⟩ | ⟨rfl, hJx3⟩)
      · have HJ3 := Lib.hid hJ3
        have HK3 := Lib.hid hk3
        clear hJ3 hy hk3
        gi_wp2
        go_roundw
        case rel => exact ⟨k + 1, by omega, by rw [← HPRE.out]; exact HJ3.out, HQ3.out.same (fun i hi => HK3.out i (by simp [hi])), (HK3.out Bx (by simp)).trans HX3.out⟩
        case measure =>
          rw [(HQ3.out.same (fun i hi => HK3.out i (by simp [hi]))).clen, HQR.out.clen]
          simp; omega
      · gi_wp2
        refine bodyPost_ret (results_none rfl _ _ _) rfl ?_
        exact ⟨⟨_, rfl⟩, .inr ⟨_, hJx3⟩⟩
    · obtain rfl : k = S.length := by omega
      have hgt : decide ((0 : Nat) < (S.drop S.length).length) = false := by simp
      gi_wp2
      go_end0
      exact ⟨⟨_, rfl⟩, .inl ⟨_, ⟨rfl, by simpa using HQR.out⟩, by have h9 := HJs.out; rwa [List.take_of_length_le (by simp)] at h9⟩⟩
end Go.Proofs.Ytlcbcagbiiachaa
