/- ScriptPrefix, walked. -/
import Derived.Test.YtcdmgalhboijcaaLawkit
import Derived.Test.YtcdmgalhboijcaaPprefix
import Derived.Test.YtcdmgalhboijcaaWNEv
set_option linter.unusedVariables false
set_option linter.unusedSimpArgs false
namespace Go.Proofs.Ytcdmgalhboijcaa.Sc
open Go.RowKit Go.Proofs.Ytcdmgalhboijcaa.D Go.Proofs.YtcdmgalhboijcaaW.PrintWords Go.Proofs.YtcdmgalhboijcaaW.PrintLast Go.Proofs.Ytcdmgalhboijcaa.Pu

theorem info36 : (Try.prog.info? 36).map (fun i => (i.zero, i.size, i.bytes)) = some (some (.agg #[.int .i64 0, .int .i64 0, .int .i64 0, .int .i64 0, .slice none 0 0]), 5, 56) := by kernel_rfl
theorem others_le (n t : Int) (rs : List Rw) : (others n t rs).length ≤ rs.length := List.length_filter_le _ _
theorem beside_le (n t : Int) (rs : List Rw) (js : List Jb) : (beside n t rs js).length ≤ rs.length := by
  unfold beside
  rw [List.length_map]
  refine Nat.le_trans (List.length_filter_le _ _) ?_
  rw [List.length_zip]
  omega
set_option maxHeartbeats 8000000 in
theorem prefix_walk (A0 : Option Addr) (c0 : Nat) (l0 : List S52) (A1 : Option Addr) (c1 : Nat) (l1 : List S36) (q0 q1 : Int) (W : World)
    (h0 : Kd.C k52 W A0 l0.length l0) (hc0 : l0.length ≤ c0) (h1 : Kd.C k36 W A1 l1.length l1) (hc1 : l1.length ≤ c1) :
    Calls Try.prog 4 #[.slice A0 l0.length c0, .slice A1 l1.length c1, .agg #[.int .i64 q0, .int .i64 q1]] W fun e w' => e = .returned (.bool true) ∧ Below W.heap.size W w' := by
  have hu32 := Try.underlying32
  have H0 := Lib.hid h0
  have H1 := Lib.hid h1
  have HC0 := Lib.hid hc0
  have HC1 := Lib.hid hc1
  clear h0 h1 hc0 hc1
  go_enter Try.func4, Try.ntmps4
  go_wp2_with fail
  have J5 := Lib.hid (blk_new W (.cells #[.int .i64 q0, .int .i64 q1] 32))
  have KW := Lib.hid ((Keeps.refl [] W).alloc (.cells #[.int .i64 q0, .int .i64 q1] 32))
  generalize W.alloc (.cells #[.int .i64 q0, .int .i64 q1] 32) = w0 at J5 KW ⊢
  refine (awake_any _).mono ?_
  rintro e w1 ⟨rfl, B1⟩
  have K1 := Keeps.of_below (F := []) B1
  have j5 := Lib.hid (K1.blk J5.out (by simp))
  have kw := Lib.hid (KW.out.trans K1)
  have hC0 := Kd.C_below H0.out (kw.out.below (by simp) (Nat.le_refl _))
  clear J5 KW B1 K1
  have J5 := cell_blk j5.out 0
  have J6 := cell_blk j5.out 1
  go_wp2_with fail
  refine (set_any A0 c0 l0 q0 _ hC0 HC0.out).mono ?_
  rintro e w2 ⟨A2, c2, rfl, hc2, hC2, B2⟩
  have K1 := Keeps.of_below (F := []) B2
  have j5' := Lib.hid (K1.blk j5.out (by simp))
  have kw' := Lib.hid (kw.out.trans K1)
  have hC1 := Kd.C_below H1.out (kw'.out.below (by simp) (Nat.le_refl _))
  have hn := setT_length l0 q0
  obtain ⟨s, hs⟩ : ∃ s, s = setT l0 q0 := ⟨_, rfl⟩
  rw [← hs] at hc2 hC2 hn ⊢
  have HS := Lib.hid hs
  have HC2 := Lib.hid hC2
  clear J5 J6 j5 kw B2 K1 hC0 hC2 hs
  go_wp2_with fail
  refine (few_any A1 c1 l1 _ hC1 HC1.out).mono ?_
  rintro e w3 ⟨A3, c3, rfl, hc3, hC3, B3⟩
  have K1 := Keeps.of_below (F := []) B3
  have j5 := Lib.hid (K1.blk j5'.out (by simp))
  have kw := Lib.hid (kw'.out.trans K1)
  have hC2 := Kd.C_below HC2.out B3
  have hr := fewR_length l1
  have hcut := fewR_cuts l1
  generalize fewR l1 = raw at hc3 hC3 hr hcut ⊢
  have HC2 := Lib.hid hC2
  have HC3 := Lib.hid hC3
  have HCUT := Lib.hid hcut
  clear j5' kw' B3 K1 hC1 hC2 hC3 hcut
  have J5 := cell_blk j5.out 0
  have hk0 := Int.emod_nonneg q0 (show ((raw.length : Int) + 1) ≠ 0 by omega)
  have hk1 := Int.emod_lt_of_pos q0 (show (0 : Int) < ((raw.length : Int) + 1) by omega)
  obtain ⟨k, hk⟩ : ∃ k : Nat, q0 % ((raw.length : Int) + 1) = (k : Int) := Int.eq_ofNat_of_zero_le hk0
  rw [hk] at hk1
  have HK := Lib.hid hk
  clear hk hk0
  go_wp2_with (go_at_call 16; refine (rest16a _ (by omega) (by omega) HK.out).mono ?_; rintro e w' ⟨rfl, rfl⟩)
  refine (dec_anyg HS.out A2 c2 A3 c3 raw _ HC2.out hc2 HC3.out hc3 HCUT.out).mono ?_
  rintro e w4 ⟨A4, c4, rfl, hc4, hC4, B4⟩
  have K1 := Keeps.of_below (F := []) B4
  have j5' := Lib.hid (K1.blk j5.out (by simp))
  have kw' := Lib.hid (kw.out.trans K1)
  have hC2 := Kd.C_below HC2.out B4
  have hC3 := Kd.C_below HC3.out B4
  have hmay : mayB s = true := by rw [HS.out]; exact setT_may l0 q0
  have hall : decodeL s raw = tl s [] raw := decodeL_tl hmay (by omega)
  have hlen : (decodeL s raw).length = raw.length := by rw [hall, tl_length]
  obtain ⟨all, ha⟩ : ∃ all, all = decodeL s raw := ⟨_, rfl⟩
  rw [← ha] at hc4 hC4 hlen hall ⊢
  have HALL := Lib.hid hall
  have HMAY := Lib.hid hmay
  clear HC2 HC3 ha hall hmay J5 j5 kw K1 B4
  have HC2 := Lib.hid hC2
  have HC3 := Lib.hid hC3
  have HC4 := Lib.hid hC4
  have HLEN := Lib.hid hlen
  have HCL4 := Lib.hid hc4
  clear hC2 hC3 hC4 hlen hc4
  have hkr : k ≤ raw.length := by omega
  have hkc : (k : Int) ≤ (c3 : Int) := by omega
  have hk00 : (0 : Int) ≤ (k : Int) := by omega
  rw [HLEN.out]
  go_wp2_with fail
  have hd := dec_anyg HS.out A2 c2 A3 c3 (raw.take k) w4 HC2.out hc2 (Kd.C_take HC3.out hkr) (by simp; omega) (fun r hr => HCUT.out r (List.mem_of_mem_take hr))
  rw [List.length_take_of_le hkr, decodeL_tl HMAY.out (by simp; omega), ← tl_take, ← HALL.out, List.length_take_of_le (by rw [HLEN.out]; exact hkr)] at hd
  refine hd.mono ?_
  clear hd
  rintro e w5 ⟨A5, c5, rfl, hc5, hC5, B5⟩
  have K1 := Keeps.of_below (F := []) B5
  have j5 := Lib.hid (K1.blk j5'.out (by simp))
  have kw := Lib.hid (kw'.out.trans K1)
  have hC2 := Kd.C_below HC2.out B5
  have hC3 := Kd.C_below HC3.out B5
  have hC4 := Kd.C_below HC4.out B5
  clear HC2 HC3 HC4 j5' kw' K1 B5
  have HC2 := Lib.hid hC2
  have HC3 := Lib.hid hC3
  have HC4 := Lib.hid hC4
  have HC5 := Lib.hid hC5
  clear hC2 hC3 hC4 hC5
  have hkc4 : (k : Int) ≤ (c4 : Int) := by have := HCL4.out; have := HLEN.out; omega
  go_wp2_with fail
  have hd := same_any A5 A4 c5 c4 (all.take k) w5 (by rw [List.length_take_of_le (by rw [HLEN.out]; exact hkr)]; exact HC5.out) (by rw [List.length_take_of_le (by rw [HLEN.out]; exact hkr)]; exact hc5) (Kd.C_take HC4.out (by rw [HLEN.out]; exact hkr)) (by rw [List.length_take_of_le (by rw [HLEN.out]; exact hkr)]; omega)
  rw [List.length_take_of_le (by rw [HLEN.out]; exact hkr)] at hd
  refine hd.mono ?_
  clear hd
  rintro e w6 ⟨rfl, K1⟩
  have j5' := Lib.hid (K1.blk j5.out (by simp))
  have kw' := Lib.hid (kw.out.trans K1)
  have B6 := K1.below (B := w5.heap.size) (by simp) (Nat.le_refl _)
  have hC2 := Kd.C_below HC2.out B6
  have hC3 := Kd.C_below HC3.out B6
  have hC4 := Kd.C_below HC4.out B6
  clear HC2 HC3 HC4 HC5 j5 kw K1 B6
  have HC2 := Lib.hid hC2
  have HC3 := Lib.hid hC3
  have HC4 := Lib.hid hC4
  clear hC2 hC3 hC4
  have J6 := cell_blk j5'.out 1
  have ht0 := Int.emod_nonneg q1 (show ((s.length : Int)) ≠ 0 by omega)
  have ht1 := Int.emod_lt_of_pos q1 (show (0 : Int) < (s.length : Int) by omega)
  obtain ⟨t, ht⟩ : ∃ t : Int, q1 % (s.length : Int) = t := ⟨_, rfl⟩
  rw [ht] at ht0 ht1
  have HT := Lib.hid ht
  clear ht
  go_wp2_with (go_at_call 16; refine (rest16a _ (by omega) (by omega) HT.out).mono ?_; rintro e w' ⟨rfl, rfl⟩)
  clear J6
  have HF3 := Lib.hid (Kd.C_F heapRw HC3.out)
  have HF4 := Lib.hid (Kd.C_F heapJb HC4.out)
  go_loopg [15, 16, 17] (raw.length) (fun gh vf vl iv wr => ∃ (i : Nat), raw.length - i ≤ gh ∧ iv = .int .i64 i ∧ i ≤ raw.length ∧ Kd.N kRw 36 wr w6.heap.size (fun q => True ∧ some q ≠ vl.ownBlock) vf (others (s.length : Int) t (raw.take i)) ∧ Kd.N kJb 39 wr w6.heap.size (fun q => True ∧ some q ≠ vf.ownBlock) vl (beside (s.length : Int) t (raw.take i) (all.take i)) ∧ Below w6.heap.size w6 wr)
  case atStart => exact ⟨0, by omega, rfl, by omega, Kd.N_nil _ _ _ _ _, Kd.N_nil _ _ _ _ _, Below.refl _ _⟩
  case round =>
    obtain ⟨i, hgh, rfl, hil, hNf, hNl, hB⟩ := hrel
    have HNF := Lib.hid hNf
    have HNL := Lib.hid hNl
    have HB := Lib.hid hB
    clear hNf hNl hB
    by_cases hlt : i < raw.length
    · obtain ⟨r, hr'⟩ : ∃ r, raw[i]? = some r := ⟨raw[i], by simp [hlt]⟩
      obtain ⟨j, hj'⟩ : ∃ j, all[i]? = some j := ⟨all[i]'(by rw [HLEN.out]; exact hlt), by simp [HLEN.out, hlt]⟩
      have hC3w := Kd.C_below HC3.out HB.out
      rcases c_addr hC3w (by decide) with he | ⟨b3, o3, ha3⟩
      · rw [he] at hr'; simp at hr'
      subst ha3
      have hF3w := Kd.F_below HF3.out HB.out
      obtain ⟨ad, cs, had, hcl, hfk, hcc, _⟩ := Kd.F_get hF3w ⟨0, 0, 0, 0, []⟩ (i : Int) (by omega) (by omega)
      injection had with had
      subst had
      have hgd : raw.getD (Int.toNat (i : Int)) ⟨0, 0, 0, 0, []⟩ = r := by rw [List.getD_eq_getElem?_getD]; simp [hr']
      rw [hgd] at hfk
      obtain ⟨A6, c6, rfl, hl6, _⟩ := kRw_open (Kd.FK_now hfk)
      simp only [Int.toNat_natCast, addr_add] at hcc
      have r0 : wr.cell? ⟨b3, o3 + i * 5, none⟩ = some (.int .i64 r.task) := hcc 0 _ rfl
      have r1 : wr.cell? ⟨b3, o3 + i * 5 + 1, none⟩ = some (.int .i64 r.gap) := hcc 1 _ rfl
      have r2 : wr.cell? ⟨b3, o3 + i * 5 + 2, none⟩ = some (.int .i64 r.late) := hcc 2 _ rfl
      have r3 : wr.cell? ⟨b3, o3 + i * 5 + 3, none⟩ = some (.int .i64 r.work) := hcc 3 _ rfl
      have r4 : wr.cell? ⟨b3, o3 + i * 5 + 4, none⟩ = some (.slice A6 r.cuts.length c6) := hcc 4 _ rfl
      have HFK := Lib.hid hfk
      have hsn := beside_snoc (s.length : Int) t raw all i r j hr' hj'
      have HSN := Lib.hid hsn
      have HJ := Lib.hid hj'
      obtain ⟨m, hm⟩ : ∃ m, r.task % (s.length : Int) = m := ⟨_, rfl⟩
      have HM := Lib.hid hm
      clear hgd hfk hcc hcl hr' hj' hsn hC3w hF3w hm
      have hir : (i : Int) < (raw.length : Int) := by omega
      have hlo := others_le (s.length : Int) t (raw.take i)
      have hlb := beside_le (s.length : Int) t (raw.take i) (all.take i)
      rw [List.length_take] at hlo hlb
      by_cases hne : m = t
      · subst hne
        have HMT := HM
        go_wp2_with (go_at_call 16; refine (rest16a _ (by omega) (by omega) HM.out).mono ?_; rintro e w' ⟨rfl, rfl⟩)
        go_roundg (raw.length - (i + 1))
        case rel =>
          refine ⟨i + 1, Nat.le_refl _, by go_num, by omega, ?_, ?_, HB.out⟩
          · rw [HSN.out.1, if_neg (by simp [HM.out]), List.append_nil]; exact HNF.out
          · rw [HSN.out.2, if_neg (by simp [HM.out]), List.append_nil]; exact HNL.out
        case measure => omega
      · rcases c_addr HC4.out (by decide) with he | ⟨b4, o4, ha4⟩
        · have := HLEN.out; rw [he] at this; simp at this; omega
        subst ha4
        have hmt : (m != t) = true := by simp [hne]
        clear hne
        have hbs := HB.out.size
        go_wp2_with (first
          | (go_at_call 16; refine (rest16a _ (by omega) (by omega) HM.out).mono ?_; rintro e w' ⟨rfl, rfl⟩)
          | ((with_reducible refine gate_builtin (b := .append) (xs := #[.tmp 71, .tmp 76]) rfl ?_)
             at_builtin
             refine Kd.N_append kRw (w0 := w6) w6.heap.size rfl (.tmp 71) (.tmp 76) 23 36 (.agg #[.int .i64 0, .int .i64 0, .int .i64 0, .int .i64 0, .slice none 0 0]) 56 rfl Try.underlying23 info36 rfl (by decide) (by omega) _ (others (s.length : Int) t (raw.take i)) r [.int .i64 r.task, .int .i64 r.gap, .int .i64 r.late, .int .i64 r.work, .slice A6 r.cuts.length c6] _ (fun q => q < w6.heap.size) rfl rfl HFK.out ?okp ?fresh HNF.out HB.out hbs (by omega) ?_
             case okp =>
               intro q hq
               refine ⟨⟨trivial, fun e => ?_⟩, fun e => ?_⟩
               · have h1 := Kd.N_base HNL.out q e.symm
                 omega
               · have h1 := Kd.N_base HNF.out q e.symm
                 omega
             case fresh =>
               intro q hq
               refine ⟨trivial, fun e => ?_⟩
               have h1 := Kd.N_lt HNL.out q e.symm
               omega
             intro v1 w1 ho hb hg hat
             have hnl1 := Kd.N_after HNL.out hg hat
             have hF4w := Kd.F_below HF4.out hb
             obtain ⟨ad, cs, had, hcl, hfk, hcc, _⟩ := Kd.F_get hF4w ⟨0, 0, 0, 0, []⟩ (i : Int) (by omega) (by have := HLEN.out; omega)
             injection had with had
             subst had
             have hgd : all.getD (Int.toNat (i : Int)) ⟨0, 0, 0, 0, []⟩ = j := by rw [List.getD_eq_getElem?_getD]; simp [HJ.out]
             rw [hgd] at hfk
             obtain ⟨A8, c8, rfl, hl8, _⟩ := kJb_open (Kd.FK_now hfk)
             simp only [Int.toNat_natCast, addr_add] at hcc
             have j0 : w1.cell? ⟨b4, o4 + i * 5, none⟩ = some (.int .i64 j.task) := hcc 0 _ rfl
             have j1 : w1.cell? ⟨b4, o4 + i * 5 + 1, none⟩ = some (.int .i64 j.arrive) := hcc 1 _ rfl
             have j2 : w1.cell? ⟨b4, o4 + i * 5 + 2, none⟩ = some (.int .i64 j.release) := hcc 2 _ rfl
             have j3 : w1.cell? ⟨b4, o4 + i * 5 + 3, none⟩ = some (.int .i64 j.work) := hcc 3 _ rfl
             have j4 : w1.cell? ⟨b4, o4 + i * 5 + 4, none⟩ = some (.slice A8 j.cuts.length c8) := hcc 4 _ rfl
             have HFK8 := Lib.hid hfk
             have HO1 := Lib.hid ho
             have HB1 := Lib.hid hb
             have HNL1 := Lib.hid hnl1
             have hbs1 := hb.size
             clear hgd hfk hcc hcl hF4w hnl1 ho hb hg hat r0 r1 r2 r3 r4)
          | ((with_reducible refine gate_builtin (b := .append) (xs := #[.tmp 78, .tmp 83]) rfl ?_)
             at_builtin
             refine Kd.N_append kJb (w0 := w6) w6.heap.size rfl (.tmp 78) (.tmp 83) 29 39 (.agg #[.int .i64 0, .int .i64 0, .int .i64 0, .int .i64 0, .slice none 0 0]) 56 rfl Try.underlying29 info39 rfl (by decide) (by omega) _ (beside (s.length : Int) t (raw.take i) (all.take i)) j [.int .i64 j.task, .int .i64 j.arrive, .int .i64 j.release, .int .i64 j.work, .slice A8 j.cuts.length c8] _ (fun q => q < w6.heap.size) rfl rfl HFK8.out ?okp ?fresh HNL1.out HB1.out hbs1 (by omega) ?_
             case okp =>
               intro q hq
               refine ⟨⟨trivial, fun e => ?_⟩, fun e => ?_⟩
               · have h1 := Kd.N_base HO1.out q e.symm
                 omega
               · have h1 := Kd.N_base HNL1.out q e.symm
                 omega
             case fresh =>
               intro q hq
               refine ⟨trivial, fun e => ?_⟩
               have h1 := Kd.N_lt HO1.out q e.symm
               omega
             intro v2 w2 ho2 hb2 hg2 hat2
             have HO2 := Lib.hid ho2
             have HB2 := Lib.hid hb2
             have HNF2 := Lib.hid (Kd.N_after HO1.out hg2 hat2)
             clear ho2 hb2 hg2 hat2 j0 j1 j2 j3 j4))
        go_roundg (raw.length - (i + 1))
        case rel =>
          refine ⟨i + 1, Nat.le_refl _, by go_num, by omega, ?_, ?_, HB2.out⟩
          · rw [HSN.out.1, if_pos (by rw [HM.out]; simpa using hmt)]; exact HNF2.out
          · rw [HSN.out.2, if_pos (by rw [HM.out]; simpa using hmt)]; exact HO2.out
        case measure => omega
    · obtain rfl : i = raw.length := by omega
      have hnf := HNF.out
      have hnl := HNL.out
      rw [List.take_length] at hnf hnl
      rw [show all.take raw.length = all from by rw [← HLEN.out, List.take_length]] at hnl
      have hls : (s.length : Int) = ((s.length : Nat) : Int) := rfl
      have hto : tl s [] (others (s.length : Int) t raw) = beside (s.length : Int) t raw all := by
        rw [HALL.out]
        exact tl_others s t raw [] [] (fun _ _ => rfl)
      have hol := others_le (s.length : Int) t raw
      have hbl : (beside (s.length : Int) t raw all).length ≤ 12 := Nat.le_trans (beside_le _ _ _ _) hr
      have hdl : decodeL s (others (s.length : Int) t raw) = beside (s.length : Int) t raw all := by rw [decodeL_tl HMAY.out (by omega), hto]
      have hoc : ∀ r ∈ others (s.length : Int) t raw, r.cuts.length ≤ 6 := fun r hr => HCUT.out r ((List.mem_filter.1 hr).1)
      obtain ⟨A7, c7, rfl, hc7, hC7⟩ := Kd.N_reads hnf
      obtain ⟨A8, c8, rfl, hc8, hC8⟩ := Kd.N_reads hnl
      have hC2w := Kd.C_below HC2.out HB.out
      have HC2W := Lib.hid hC2w
      have HC7 := Lib.hid hC7
      have HC8 := Lib.hid hC8
      have HDL := Lib.hid hdl
      have HOC := Lib.hid hoc
      clear hnf hnl hto hdl hoc hC2w hC7 hC8 hls HNF HNL HF3 HF4
      generalize others (s.length : Int) t raw = fe at HC7 HDL HOC hol hc7 ⊢
      generalize beside (s.length : Int) t raw all = le at HC8 HDL hbl hc8 ⊢
      go_wp2_with fail
      have hd := dec_anyg HS.out A2 c2 A7 c7 fe wr HC2W.out hc2 HC7.out hc7 HOC.out
      rw [HDL.out] at hd
      refine hd.mono ?_
      clear hd
      rintro e w8 ⟨A9, c9, rfl, hc9, hC9, B9⟩
      have hC8' := Kd.C_below HC8.out B9
      have HC9 := Lib.hid hC9
      have HC8' := Lib.hid hC8'
      have B9' := Lib.hid B9
      clear hC9 hC8' HC8 B9
      go_wp2_with fail
      refine (same_any A9 A8 c9 c8 le w8 HC9.out hc9 HC8'.out hc8).mono ?_
      rintro e w9 ⟨rfl, K9⟩
      have hfin : Below W.heap.size W w9 := ((kw'.out.trans (Keeps.of_below (F := []) HB.out)).trans ((Keeps.of_below (F := []) B9'.out).trans K9)).below (by simp) (Nat.le_refl _)
      have HFIN := Lib.hid hfin
      clear hfin K9
      go_wp2
      go_ret
      exact ⟨rfl, HFIN.out⟩
end Go.Proofs.Ytcdmgalhboijcaa.Sc
