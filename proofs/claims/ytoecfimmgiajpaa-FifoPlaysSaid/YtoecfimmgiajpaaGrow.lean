/- (*Queue).grow, of texts and of numbers: a ring of twice as many, the old things first. -/
import Derived.Test.YtoecfimmgiajpaaProg
import Derived.Test.YtoecfimmgiajpaaBase
import Derived.StillTailTactics
import Derived.Handy
namespace Go.Proofs.Ytoecfimmgiajpaa
open Go.RowKit

theorem infoS : (Try.prog.info? 9).map (fun i => (i.zero, i.size, i.bytes)) = some (some (.string ⟨#[]⟩), 1, 16) := by kernel_rfl

theorem growS (b : Nat) (ao : Option Addr) (len frm size : Nat) (n : Int) (cs : List Value) (w : World)
    (hsz : size = max 8 (2 * len)) (hlen : len ≤ 1000000) (hcs : cs.length = len) (hfrm : frm ≤ len)
    (hao : ao = none → len = 0) (hr : ∀ a, ao = some a → ∃ r, a = ⟨r, 0, none⟩ ∧ r ≠ b ∧ w.heap[r]? = some (.cells cs.toArray 9 (0, 0)))
    (h1c : ∀ u ∈ cs, u.oneCell' = true)
    (h : w.heap[b]? = some (.cells #[.slice ao len len, .int .i64 frm, .int .i64 n] 54 (0, 0))) :
    Calls Try.prog 24 #[.pointer (some ⟨b, 0, none⟩)] w fun e w' => e = .returned (.tuple #[]) ∧ w'.heap[b]? = some (.cells #[.slice (some ⟨w.heap.size, 0, none⟩) size size, .int .i64 0, .int .i64 n] 54 (0, 0)) ∧
      w'.ownsRow w.heap.size 9 1 (.slice (some ⟨w.heap.size, 0, none⟩) len size) len (cs.drop frm ++ cs.take frm) ∧ w.grownBy w' (some b) := by
  obtain ⟨h0, h1, h2, f0, f1, f2⟩ := facts3 h
  obtain ⟨i0, hi, hz0, hz1, hz2⟩ := info_parts infoS
  have hbl := blk_lt h
  have H := Lib.hid h
  clear h
  have HR := Lib.hid hr
  clear hr
  have HC := Lib.hid hcs
  clear hcs
  have H1 := Lib.hid h1c
  clear h1c
  have hcase : (8 : Int) < 2 * len ∨ (2 * len : Int) ≤ 8 := by omega
  rcases hcase with hcase | hcase
  · have hB : 2 * (len : Int) = (size : Int) := by omega
    rw [hB] at hcase
    have HS := Lib.hid hsz
    clear hsz
    go_enter Try.func24, Try.ntmps24
    go_wp2_with (at_make; refine wpList_make_own _ rfl _ _ 22 rfl w.heap.size 9 i0 _ 1 Try.underlying22 hi hz0 hz1 .i64 .i64 _ size rfl rfl rfl (by rw [hz2]; have := HS.out; omega) (by unfold maxLen; have := HS.out; omega) (Nat.le_refl _) ?_; intro w1 hown1 hgrow1)
    have b1 := blk_grown hgrow1 H.out (by simp)
    obtain ⟨g0, g1, g2, -, -, -⟩ := facts3 b1
    have B1 := Lib.hid b1
    clear b1
    have k1 : (frm : Int) ≤ (len : Int) := by omega
    have k0 : (0 : Int) ≤ (frm : Int) := by omega
    go_still_tail 10, (by kernel_rfl)
    change wpList _ _ _ _ _ w1.drew
    have HR1 : ∀ a, ao = some a → ∃ r, a = ⟨r, 0, none⟩ ∧ r ≠ b ∧ r < w.heap.size ∧ w1.heap[r]? = some (.cells cs.toArray 9 (0, 0)) := by
      intro a ha
      obtain ⟨r, h1, h2, h3⟩ := HR.out a ha
      exact ⟨r, h1, h2, blk_lt h3, blk_grown hgrow1 h3 (by simp)⟩
    have HR1' := Lib.hid HR1
    clear HR1
    generalize hAO : (if len = frm then ao else Option.map (fun x => x.add frm) ao) = AO
    refine wpList_append_fits_any _ rfl _ _ 22 rfl w.heap.size 9 i0 1 Try.underlying22 hi hz1 w.heap.size 0 size [] rfl hown1 AO (len - frm) (len - frm) (cs.drop frm) rfl (by have := HC.out; simp; omega) ?hn ?hc (fun u hu => H1.out u (List.mem_of_mem_drop hu)) (by have := HS.out; omega) ?_
    case hn =>
      intro he
      rw [← hAO] at he
      split at he
      · omega
      · simp at he; have := hao he; omega
    case hc =>
      intro ad he
      rw [← hAO] at he
      split at he
      · have := HC.out
        intro j u hu
        rw [List.drop_of_length_le (by omega)] at hu
        simp at hu
      · cases hx : ao with
        | none => rw [hx] at he; simp at he
        | some a =>
          rw [hx] at he
          obtain ⟨r, rfl, h2, h3, h4⟩ := HR1'.out a hx
          simp at he
          subst he
          exact cell_row (w := w1) h4 frm
    clear hAO
    intro w2 hown2 hgrow2
    simp only [Nat.zero_add, List.nil_append] at hown2 ⊢
    have b2 := blk_grown (w := w1.drew) hgrow2 B1.out (by simp; omega)
    clear g0 g1 g2
    obtain ⟨g0, g1, g2, -, -, -⟩ := facts3 b2
    have B2 := Lib.hid b2
    clear b2
    go_wp2
    go_still_tail 10, (by kernel_rfl)
    change wpList _ _ _ _ _ w2.drew
    have HR2 : ∀ a, ao = some a → ∃ r, a = ⟨r, 0, none⟩ ∧ w2.heap[r]? = some (.cells cs.toArray 9 (0, 0)) := by
      intro a ha
      obtain ⟨r, h1, h2, h3, h4⟩ := HR1'.out a ha
      exact ⟨r, h1, blk_grown (w := w1.drew) hgrow2 h4 (by simp; omega)⟩
    have HR2' := Lib.hid HR2
    clear HR2
    refine wpList_append_fits_any _ rfl _ _ 22 rfl w.heap.size 9 i0 1 Try.underlying22 hi hz1 w.heap.size (len - frm) size _ rfl hown2 ao frm len (cs.take frm) rfl (by have := HC.out; simp; omega) ?hn2 ?hc2 (fun u hu => H1.out u (List.mem_of_mem_take hu)) (by have := HS.out; omega) ?_
    case hn2 =>
      intro he
      have := hao he; omega
    case hc2 =>
      intro ad he j u hu
      obtain ⟨r, rfl, h4⟩ := HR2'.out ad he
      exact cell_row (w := w2) h4 0 j u (by
        simp only [List.drop_zero]
        rw [List.getElem?_take] at hu
        split at hu
        · exact hu
        · cases hu)
    intro w3 hown3 hgrow3
    have b3 := blk_grown (w := w2.drew) hgrow3 B2.out (by simp; omega)
    clear g0 g1 g2
    obtain ⟨g0, g1, g2, z0, z1, z2⟩ := facts3 b3
    have B3 := Lib.hid b3
    clear b3
    have s1 := hgrow1.size
    have s2 := hgrow2.size
    go_wp2
    go_returns
    have e : len - frm + frm = len := by omega
    rw [e] at hown3
    refine ⟨rfl, ?_, ?_, ?_⟩
    · have := blk_set_same (blk_set_same B3.out 0 (.slice (some ⟨w.heap.size, 0, none⟩) size size)) 1 (.int .i64 0)
      simpa using this
    · refine ownsRow_setCell_other (ownsRow_setCell_other hown3 ?_ _) ?_ _
      · simp [Value.ownBlock]; omega
      · simp [Value.ownBlock]; omega
    · refine grown_set (grown_set ?_ _ _) _ _
      exact grown_new (grown_drew (grown_new (grown_drew (grown_weaken _ hgrow1)) hgrow2 (Nat.le_refl _))) hgrow3 (Nat.le_refl _)
  · obtain rfl : size = 8 := by omega
    have HS := Lib.hid hsz
    clear hsz
    go_enter Try.func24, Try.ntmps24
    go_wp2_with (at_make; refine wpList_make_own _ rfl _ _ 22 rfl w.heap.size 9 i0 _ 1 Try.underlying22 hi hz0 hz1 .i64 .i64 _ 8 rfl rfl rfl (by rw [hz2]; have := HS.out; omega) (by unfold maxLen; have := HS.out; omega) (Nat.le_refl _) ?_; intro w1 hown1 hgrow1)
    have b1 := blk_grown hgrow1 H.out (by simp)
    obtain ⟨g0, g1, g2, -, -, -⟩ := facts3 b1
    have B1 := Lib.hid b1
    clear b1
    have k1 : (frm : Int) ≤ (len : Int) := by omega
    have k0 : (0 : Int) ≤ (frm : Int) := by omega
    go_still_tail 10, (by kernel_rfl)
    change wpList _ _ _ _ _ w1.drew
    have HR1 : ∀ a, ao = some a → ∃ r, a = ⟨r, 0, none⟩ ∧ r ≠ b ∧ r < w.heap.size ∧ w1.heap[r]? = some (.cells cs.toArray 9 (0, 0)) := by
      intro a ha
      obtain ⟨r, h1, h2, h3⟩ := HR.out a ha
      exact ⟨r, h1, h2, blk_lt h3, blk_grown hgrow1 h3 (by simp)⟩
    have HR1' := Lib.hid HR1
    clear HR1
    generalize hAO : (if len = frm then ao else Option.map (fun x => x.add frm) ao) = AO
    refine wpList_append_fits_any _ rfl _ _ 22 rfl w.heap.size 9 i0 1 Try.underlying22 hi hz1 w.heap.size 0 8 [] rfl hown1 AO (len - frm) (len - frm) (cs.drop frm) rfl (by have := HC.out; simp; omega) ?hn ?hc (fun u hu => H1.out u (List.mem_of_mem_drop hu)) (by have := HS.out; omega) ?_
    case hn =>
      intro he
      rw [← hAO] at he
      split at he
      · omega
      · simp at he; have := hao he; omega
    case hc =>
      intro ad he
      rw [← hAO] at he
      split at he
      · have := HC.out
        intro j u hu
        rw [List.drop_of_length_le (by omega)] at hu
        simp at hu
      · cases hx : ao with
        | none => rw [hx] at he; simp at he
        | some a =>
          rw [hx] at he
          obtain ⟨r, rfl, h2, h3, h4⟩ := HR1'.out a hx
          simp at he
          subst he
          exact cell_row (w := w1) h4 frm
    clear hAO
    intro w2 hown2 hgrow2
    simp only [Nat.zero_add, List.nil_append] at hown2 ⊢
    have b2 := blk_grown (w := w1.drew) hgrow2 B1.out (by simp; omega)
    clear g0 g1 g2
    obtain ⟨g0, g1, g2, -, -, -⟩ := facts3 b2
    have B2 := Lib.hid b2
    clear b2
    go_wp2
    go_still_tail 10, (by kernel_rfl)
    change wpList _ _ _ _ _ w2.drew
    have HR2 : ∀ a, ao = some a → ∃ r, a = ⟨r, 0, none⟩ ∧ w2.heap[r]? = some (.cells cs.toArray 9 (0, 0)) := by
      intro a ha
      obtain ⟨r, h1, h2, h3, h4⟩ := HR1'.out a ha
      exact ⟨r, h1, blk_grown (w := w1.drew) hgrow2 h4 (by simp; omega)⟩
    have HR2' := Lib.hid HR2
    clear HR2
    refine wpList_append_fits_any _ rfl _ _ 22 rfl w.heap.size 9 i0 1 Try.underlying22 hi hz1 w.heap.size (len - frm) 8 _ rfl hown2 ao frm len (cs.take frm) rfl (by have := HC.out; simp; omega) ?hn2 ?hc2 (fun u hu => H1.out u (List.mem_of_mem_take hu)) (by have := HS.out; omega) ?_
    case hn2 =>
      intro he
      have := hao he; omega
    case hc2 =>
      intro ad he j u hu
      obtain ⟨r, rfl, h4⟩ := HR2'.out ad he
      exact cell_row (w := w2) h4 0 j u (by
        simp only [List.drop_zero]
        rw [List.getElem?_take] at hu
        split at hu
        · exact hu
        · cases hu)
    intro w3 hown3 hgrow3
    have b3 := blk_grown (w := w2.drew) hgrow3 B2.out (by simp; omega)
    clear g0 g1 g2
    obtain ⟨g0, g1, g2, z0, z1, z2⟩ := facts3 b3
    have B3 := Lib.hid b3
    clear b3
    have s1 := hgrow1.size
    have s2 := hgrow2.size
    go_wp2
    go_returns
    have e : len - frm + frm = len := by omega
    rw [e] at hown3
    refine ⟨rfl, ?_, ?_, ?_⟩
    · have := blk_set_same (blk_set_same B3.out 0 (.slice (some ⟨w.heap.size, 0, none⟩) 8 8)) 1 (.int .i64 0)
      simpa using this
    · refine ownsRow_setCell_other (ownsRow_setCell_other hown3 ?_ _) ?_ _
      · simp [Value.ownBlock]; omega
      · simp [Value.ownBlock]; omega
    · refine grown_set (grown_set ?_ _ _) _ _
      exact grown_new (grown_drew (grown_new (grown_drew (grown_weaken _ hgrow1)) hgrow2 (Nat.le_refl _))) hgrow3 (Nat.le_refl _)

theorem infoI : (Try.prog.info? 3).map (fun i => (i.zero, i.size, i.bytes)) = some (some (.int .i64 0), 1, 8) := by kernel_rfl

theorem growI (b : Nat) (ao : Option Addr) (len frm size : Nat) (n : Int) (cs : List Value) (w : World)
    (hsz : size = max 8 (2 * len)) (hlen : len ≤ 1000000) (hcs : cs.length = len) (hfrm : frm ≤ len)
    (hao : ao = none → len = 0) (hr : ∀ a, ao = some a → ∃ r, a = ⟨r, 0, none⟩ ∧ r ≠ b ∧ w.heap[r]? = some (.cells cs.toArray 3 (0, 0)))
    (h1c : ∀ u ∈ cs, u.oneCell' = true)
    (h : w.heap[b]? = some (.cells #[.slice ao len len, .int .i64 frm, .int .i64 n] 45 (0, 0))) :
    Calls Try.prog 26 #[.pointer (some ⟨b, 0, none⟩)] w fun e w' => e = .returned (.tuple #[]) ∧ w'.heap[b]? = some (.cells #[.slice (some ⟨w.heap.size, 0, none⟩) size size, .int .i64 0, .int .i64 n] 45 (0, 0)) ∧
      w'.ownsRow w.heap.size 3 1 (.slice (some ⟨w.heap.size, 0, none⟩) len size) len (cs.drop frm ++ cs.take frm) ∧ w.grownBy w' (some b) := by
  obtain ⟨h0, h1, h2, f0, f1, f2⟩ := facts3 h
  obtain ⟨i0, hi, hz0, hz1, hz2⟩ := info_parts infoI
  have hbl := blk_lt h
  have H := Lib.hid h
  clear h
  have HR := Lib.hid hr
  clear hr
  have HC := Lib.hid hcs
  clear hcs
  have H1 := Lib.hid h1c
  clear h1c
  have hcase : (8 : Int) < 2 * len ∨ (2 * len : Int) ≤ 8 := by omega
  rcases hcase with hcase | hcase
  · have hB : 2 * (len : Int) = (size : Int) := by omega
    rw [hB] at hcase
    have HS := Lib.hid hsz
    clear hsz
    go_enter Try.func26, Try.ntmps26
    go_wp2_with (at_make; refine wpList_make_own _ rfl _ _ 39 rfl w.heap.size 3 i0 _ 1 Try.underlying39 hi hz0 hz1 .i64 .i64 _ size rfl rfl rfl (by rw [hz2]; have := HS.out; omega) (by unfold maxLen; have := HS.out; omega) (Nat.le_refl _) ?_; intro w1 hown1 hgrow1)
    have b1 := blk_grown hgrow1 H.out (by simp)
    obtain ⟨g0, g1, g2, -, -, -⟩ := facts3 b1
    have B1 := Lib.hid b1
    clear b1
    have k1 : (frm : Int) ≤ (len : Int) := by omega
    have k0 : (0 : Int) ≤ (frm : Int) := by omega
    go_still_tail 10, (by kernel_rfl)
    change wpList _ _ _ _ _ w1.drew
    have HR1 : ∀ a, ao = some a → ∃ r, a = ⟨r, 0, none⟩ ∧ r ≠ b ∧ r < w.heap.size ∧ w1.heap[r]? = some (.cells cs.toArray 3 (0, 0)) := by
      intro a ha
      obtain ⟨r, h1, h2, h3⟩ := HR.out a ha
      exact ⟨r, h1, h2, blk_lt h3, blk_grown hgrow1 h3 (by simp)⟩
    have HR1' := Lib.hid HR1
    clear HR1
    generalize hAO : (if len = frm then ao else Option.map (fun x => x.add frm) ao) = AO
    refine wpList_append_fits_any _ rfl _ _ 39 rfl w.heap.size 3 i0 1 Try.underlying39 hi hz1 w.heap.size 0 size [] rfl hown1 AO (len - frm) (len - frm) (cs.drop frm) rfl (by have := HC.out; simp; omega) ?hn ?hc (fun u hu => H1.out u (List.mem_of_mem_drop hu)) (by have := HS.out; omega) ?_
    case hn =>
      intro he
      rw [← hAO] at he
      split at he
      · omega
      · simp at he; have := hao he; omega
    case hc =>
      intro ad he
      rw [← hAO] at he
      split at he
      · have := HC.out
        intro j u hu
        rw [List.drop_of_length_le (by omega)] at hu
        simp at hu
      · cases hx : ao with
        | none => rw [hx] at he; simp at he
        | some a =>
          rw [hx] at he
          obtain ⟨r, rfl, h2, h3, h4⟩ := HR1'.out a hx
          simp at he
          subst he
          exact cell_row (w := w1) h4 frm
    clear hAO
    intro w2 hown2 hgrow2
    simp only [Nat.zero_add, List.nil_append] at hown2 ⊢
    have b2 := blk_grown (w := w1.drew) hgrow2 B1.out (by simp; omega)
    clear g0 g1 g2
    obtain ⟨g0, g1, g2, -, -, -⟩ := facts3 b2
    have B2 := Lib.hid b2
    clear b2
    go_wp2
    go_still_tail 10, (by kernel_rfl)
    change wpList _ _ _ _ _ w2.drew
    have HR2 : ∀ a, ao = some a → ∃ r, a = ⟨r, 0, none⟩ ∧ w2.heap[r]? = some (.cells cs.toArray 3 (0, 0)) := by
      intro a ha
      obtain ⟨r, h1, h2, h3, h4⟩ := HR1'.out a ha
      exact ⟨r, h1, blk_grown (w := w1.drew) hgrow2 h4 (by simp; omega)⟩
    have HR2' := Lib.hid HR2
    clear HR2
    refine wpList_append_fits_any _ rfl _ _ 39 rfl w.heap.size 3 i0 1 Try.underlying39 hi hz1 w.heap.size (len - frm) size _ rfl hown2 ao frm len (cs.take frm) rfl (by have := HC.out; simp; omega) ?hn2 ?hc2 (fun u hu => H1.out u (List.mem_of_mem_take hu)) (by have := HS.out; omega) ?_
    case hn2 =>
      intro he
      have := hao he; omega
    case hc2 =>
      intro ad he j u hu
      obtain ⟨r, rfl, h4⟩ := HR2'.out ad he
      exact cell_row (w := w2) h4 0 j u (by
        simp only [List.drop_zero]
        rw [List.getElem?_take] at hu
        split at hu
        · exact hu
        · cases hu)
    intro w3 hown3 hgrow3
    have b3 := blk_grown (w := w2.drew) hgrow3 B2.out (by simp; omega)
    clear g0 g1 g2
    obtain ⟨g0, g1, g2, z0, z1, z2⟩ := facts3 b3
    have B3 := Lib.hid b3
    clear b3
    have s1 := hgrow1.size
    have s2 := hgrow2.size
    go_wp2
    go_returns
    have e : len - frm + frm = len := by omega
    rw [e] at hown3
    refine ⟨rfl, ?_, ?_, ?_⟩
    · have := blk_set_same (blk_set_same B3.out 0 (.slice (some ⟨w.heap.size, 0, none⟩) size size)) 1 (.int .i64 0)
      simpa using this
    · refine ownsRow_setCell_other (ownsRow_setCell_other hown3 ?_ _) ?_ _
      · simp [Value.ownBlock]; omega
      · simp [Value.ownBlock]; omega
    · refine grown_set (grown_set ?_ _ _) _ _
      exact grown_new (grown_drew (grown_new (grown_drew (grown_weaken _ hgrow1)) hgrow2 (Nat.le_refl _))) hgrow3 (Nat.le_refl _)
  · obtain rfl : size = 8 := by omega
    have HS := Lib.hid hsz
    clear hsz
    go_enter Try.func26, Try.ntmps26
    go_wp2_with (at_make; refine wpList_make_own _ rfl _ _ 39 rfl w.heap.size 3 i0 _ 1 Try.underlying39 hi hz0 hz1 .i64 .i64 _ 8 rfl rfl rfl (by rw [hz2]; have := HS.out; omega) (by unfold maxLen; have := HS.out; omega) (Nat.le_refl _) ?_; intro w1 hown1 hgrow1)
    have b1 := blk_grown hgrow1 H.out (by simp)
    obtain ⟨g0, g1, g2, -, -, -⟩ := facts3 b1
    have B1 := Lib.hid b1
    clear b1
    have k1 : (frm : Int) ≤ (len : Int) := by omega
    have k0 : (0 : Int) ≤ (frm : Int) := by omega
    go_still_tail 10, (by kernel_rfl)
    change wpList _ _ _ _ _ w1.drew
    have HR1 : ∀ a, ao = some a → ∃ r, a = ⟨r, 0, none⟩ ∧ r ≠ b ∧ r < w.heap.size ∧ w1.heap[r]? = some (.cells cs.toArray 3 (0, 0)) := by
      intro a ha
      obtain ⟨r, h1, h2, h3⟩ := HR.out a ha
      exact ⟨r, h1, h2, blk_lt h3, blk_grown hgrow1 h3 (by simp)⟩
    have HR1' := Lib.hid HR1
    clear HR1
    generalize hAO : (if len = frm then ao else Option.map (fun x => x.add frm) ao) = AO
    refine wpList_append_fits_any _ rfl _ _ 39 rfl w.heap.size 3 i0 1 Try.underlying39 hi hz1 w.heap.size 0 8 [] rfl hown1 AO (len - frm) (len - frm) (cs.drop frm) rfl (by have := HC.out; simp; omega) ?hn ?hc (fun u hu => H1.out u (List.mem_of_mem_drop hu)) (by have := HS.out; omega) ?_
    case hn =>
      intro he
      rw [← hAO] at he
      split at he
      · omega
      · simp at he; have := hao he; omega
    case hc =>
      intro ad he
      rw [← hAO] at he
      split at he
      · have := HC.out
        intro j u hu
        rw [List.drop_of_length_le (by omega)] at hu
        simp at hu
      · cases hx : ao with
        | none => rw [hx] at he; simp at he
        | some a =>
          rw [hx] at he
          obtain ⟨r, rfl, h2, h3, h4⟩ := HR1'.out a hx
          simp at he
          subst he
          exact cell_row (w := w1) h4 frm
    clear hAO
    intro w2 hown2 hgrow2
    simp only [Nat.zero_add, List.nil_append] at hown2 ⊢
    have b2 := blk_grown (w := w1.drew) hgrow2 B1.out (by simp; omega)
    clear g0 g1 g2
    obtain ⟨g0, g1, g2, -, -, -⟩ := facts3 b2
    have B2 := Lib.hid b2
    clear b2
    go_wp2
    go_still_tail 10, (by kernel_rfl)
    change wpList _ _ _ _ _ w2.drew
    have HR2 : ∀ a, ao = some a → ∃ r, a = ⟨r, 0, none⟩ ∧ w2.heap[r]? = some (.cells cs.toArray 3 (0, 0)) := by
      intro a ha
      obtain ⟨r, h1, h2, h3, h4⟩ := HR1'.out a ha
      exact ⟨r, h1, blk_grown (w := w1.drew) hgrow2 h4 (by simp; omega)⟩
    have HR2' := Lib.hid HR2
    clear HR2
    refine wpList_append_fits_any _ rfl _ _ 39 rfl w.heap.size 3 i0 1 Try.underlying39 hi hz1 w.heap.size (len - frm) 8 _ rfl hown2 ao frm len (cs.take frm) rfl (by have := HC.out; simp; omega) ?hn2 ?hc2 (fun u hu => H1.out u (List.mem_of_mem_take hu)) (by have := HS.out; omega) ?_
    case hn2 =>
      intro he
      have := hao he; omega
    case hc2 =>
      intro ad he j u hu
      obtain ⟨r, rfl, h4⟩ := HR2'.out ad he
      exact cell_row (w := w2) h4 0 j u (by
        simp only [List.drop_zero]
        rw [List.getElem?_take] at hu
        split at hu
        · exact hu
        · cases hu)
    intro w3 hown3 hgrow3
    have b3 := blk_grown (w := w2.drew) hgrow3 B2.out (by simp; omega)
    clear g0 g1 g2
    obtain ⟨g0, g1, g2, z0, z1, z2⟩ := facts3 b3
    have B3 := Lib.hid b3
    clear b3
    have s1 := hgrow1.size
    have s2 := hgrow2.size
    go_wp2
    go_returns
    have e : len - frm + frm = len := by omega
    rw [e] at hown3
    refine ⟨rfl, ?_, ?_, ?_⟩
    · have := blk_set_same (blk_set_same B3.out 0 (.slice (some ⟨w.heap.size, 0, none⟩) 8 8)) 1 (.int .i64 0)
      simpa using this
    · refine ownsRow_setCell_other (ownsRow_setCell_other hown3 ?_ _) ?_ _
      · simp [Value.ownBlock]; omega
      · simp [Value.ownBlock]; omega
    · refine grown_set (grown_set ?_ _ _) _ _
      exact grown_new (grown_drew (grown_new (grown_drew (grown_weaken _ hgrow1)) hgrow2 (Nat.le_refl _))) hgrow3 (Nat.le_refl _)

end Go.Proofs.Ytoecfimmgiajpaa
