/- ScriptShifts, walked. -/
import Derived.Test.YtcdmgalhboijcaaNset
import Derived.Test.YtcdmgalhboijcaaPshift
set_option linter.unusedVariables false
set_option linter.unusedSimpArgs false
namespace Go.Proofs.Ytcdmgalhboijcaa.Sc
open Go.RowKit Go.Proofs.Ytcdmgalhboijcaa.D Go.Proofs.YtcdmgalhboijcaaW.PrintWords Go.Proofs.YtcdmgalhboijcaaW.PrintLast Go.Proofs.Ytcdmgalhboijcaa.Pu

theorem few8_gap (l : List Rw) : ∀ r ∈ few8 l, 0 ≤ r.gap ∧ r.gap < 12 := by
  intro r hr
  obtain ⟨x, hx, rfl⟩ := List.mem_map.1 hr
  exact ⟨Int.emod_nonneg _ (by omega), Int.emod_lt_of_pos _ (by omega)⟩
theorem few8_cuts (l : List Rw) : ∀ r ∈ few8 l, r.cuts.length ≤ 6 := by
  intro r hr
  obtain ⟨x, hx, rfl⟩ := List.mem_map.1 hr
  show (x.cuts.take 5).length ≤ 6
  simp
  omega
theorem few8_length (l : List Rw) : (few8 l).length ≤ 12 := by
  unfold few8
  simp
  omega
set_option maxRecDepth 100000 in
set_option maxHeartbeats 8000000 in
theorem shift_walk (A0 : Option Addr) (c0 : Nat) (l0 : List S52) (A1 : Option Addr) (c1 : Nat) (l1 : List S36) (q0 q1 : Int) (W : World)
    (h0 : Kd.C k52 W A0 l0.length l0) (hc0 : l0.length ≤ c0) (h1 : Kd.C k36 W A1 l1.length l1) (hc1 : l1.length ≤ c1) :
    Calls Try.prog 5 #[.slice A0 l0.length c0, .slice A1 l1.length c1, .agg #[.int .i64 q0, .int .i64 q1]] W fun e w' => e = .returned (.bool true) ∧ Below W.heap.size W w' := by
  have hu32 := Try.underlying32
  have H0 := Lib.hid h0
  have H1 := Lib.hid (c_toR h1)
  have HC0 := Lib.hid hc0
  have HC1 := Lib.hid hc1
  clear h0 h1 hc0 hc1
  go_enter Try.func5, Try.ntmps5
  go_wp2_with fail
  have J5 := Lib.hid (blk_new W (.cells #[.int .i64 q0, .int .i64 q1] 32))
  have KW := Lib.hid ((Keeps.refl [] W).alloc (.cells #[.int .i64 q0, .int .i64 q1] 32))
  generalize W.alloc (.cells #[.int .i64 q0, .int .i64 q1] 32) = w0 at J5 KW ⊢
  refine (awake_any _).mono ?_
  rintro e w1 ⟨rfl, B1⟩
  have K1 := Keeps.of_below (F := []) B1
  have j5 := Lib.hid (K1.blk J5.out (by simp))
  have kw := Lib.hid (KW.out.trans K1)
  have hC0 := Kd.C_below H0.out (kw.out.below (by simp) (Nat.le_refl _))
  clear J5 KW B1 K1
  have J5 := cell_blk j5.out 0
  go_wp2_with fail
  refine (set_any A0 c0 l0 q0 _ hC0 HC0.out).mono ?_
  rintro e w2 ⟨A2, c2, rfl, hc2, hC2, B2⟩
  have K1 := Keeps.of_below (F := []) B2
  have j5' := Lib.hid (K1.blk j5.out (by simp))
  have kw' := Lib.hid (kw.out.trans K1)
  have hC1 := Kd.C_below H1.out (kw'.out.below (by simp) (Nat.le_refl _))
  have hn := setT_length l0 q0
  obtain ⟨s, hs⟩ : ∃ s, s = setT l0 q0 := ⟨_, rfl⟩
  rw [← hs] at hc2 hC2 hn ⊢
  have hmay : mayB s = true := by rw [hs]; exact setT_may l0 q0
  have HMAY := Lib.hid hmay
  have HS := Lib.hid hs
  have HC2 := Lib.hid hC2
  have HCL2 := Lib.hid hc2
  clear J5 j5 kw B2 K1 hC0 hC2 hs hmay hc2
  go_wp2_with fail
  have hf8 := few8_any A1 c1 (l1.map toR) w2 (by rw [List.length_map]; exact hC1) (by rw [List.length_map]; exact HC1.out)
  rw [List.length_map] at hf8
  refine hf8.mono ?_
  clear hf8
  rintro e w3 ⟨A3, c3, rfl, hc3, hC3, B3⟩
  have K1 := Keeps.of_below (F := []) B3
  have j5 := Lib.hid (K1.blk j5'.out (by simp))
  have kw := Lib.hid (kw'.out.trans K1)
  have hC2 := Kd.C_below HC2.out B3
  have hr := few8_length (l1.map toR)
  have hcut := few8_cuts (l1.map toR)
  have hgap := few8_gap (l1.map toR)
  generalize few8 (l1.map toR) = raw at hc3 hC3 hr hcut hgap ⊢
  have HC2 := Lib.hid hC2
  have HC3 := Lib.hid hC3
  have HCL3 := Lib.hid hc3
  have HCUT := Lib.hid hcut
  have HGAPS := Lib.hid hgap
  clear j5' kw' B3 K1 hC1 hC2 hC3 hcut hgap hc3
  have J5 := cell_blk j5.out 0
  have J6 := cell_blk j5.out 1
  have ht0 := Int.emod_nonneg q0 (show ((s.length : Int)) ≠ 0 by omega)
  have ht1 := Int.emod_lt_of_pos q0 (show (0 : Int) < (s.length : Int) by omega)
  obtain ⟨t, ht⟩ : ∃ t : Int, q0 % (s.length : Int) = t := ⟨_, rfl⟩
  rw [ht] at ht0 ht1
  have hb0 := Int.emod_nonneg q1 (show (1001 : Int) ≠ 0 by omega)
  have hb1 := Int.emod_lt_of_pos q1 (show (0 : Int) < 1001 by omega)
  obtain ⟨b, hb⟩ : ∃ b : Int, q1 % 1001 = b := ⟨_, rfl⟩
  rw [hb] at hb0 hb1
  have HT := Lib.hid ht
  have HBY := Lib.hid hb
  clear ht hb
  have HF3 := Lib.hid (Kd.C_F heapRw HC3.out)
  have hw3 := kw.out.size
  go_wp2_with (first
    | (go_at_call 16; (with_reducible refine (rest16a _ (by omega) (by omega) HT.out).mono ?_); rintro e w' ⟨rfl, rfl⟩)
    | (go_at_call 16; (with_reducible refine (rest16a _ (by omega) (by omega) HBY.out).mono ?_); rintro e w' ⟨rfl, rfl⟩)
    | ((with_reducible refine gate_dst (N := 33) rfl ?_)
       refine Kd.N_lit kRw (w0 := w3) w3.heap.size 36 rfl (N' := 33) rfl (xs := ([] : List Rw)) (inner := []) (ok := fun _ => True) (okp := fun _ => False) (by first | (go_simp; done) | (go_simp; rfl)) ⟨rfl, fun j y hy => by cases hy⟩ (fun _ hk => hk.elim) trivial (Below.refl _ _) (Nat.le_refl _) (by simp) ?_
       intro v33 w33 hn33 hb33 hg33 hat33
       have HN33 := Lib.hid hn33
       have HB33 := Lib.hid hb33
       clear hn33 hb33 hg33 hat33)
    | ((with_reducible refine gate_builtin (b := .append) (xs := #[.tmp 33, .tmp 34]) rfl ?_)
       at_builtin
       refine Kd.N_append_rows kRw (w0 := w3) w3.heap.size rfl (.tmp 33) (.tmp 34) 23 36 (.agg #[.int .i64 0, .int .i64 0, .int .i64 0, .int .i64 0, .slice none 0 0]) 56 rfl Try.underlying23 info36 rfl (by decide) (by omega) _ ([] : List Rw) raw A3 raw.length c3 (fun _ => True) (fun q => q < w3.heap.size) rfl rfl HN33.out (Kd.F_below HF3.out HB33.out) ?okp (fun _ _ => trivial) HB33.out HB33.out.size (by simp; omega) ?_
       case okp =>
         intro q hq
         refine ⟨trivial, fun e => ?_⟩
         have h1 := Kd.N_base HN33.out q e.symm
         omega
       intro v35 w35 hn35 hb35 hg35 hat35
       have HN35 := Lib.hid hn35
       have HB35 := Lib.hid hb35
       clear hn35 hb35 hg35 hat35))
  obtain ⟨A12, c12, rfl, hc12, hC12⟩ := Kd.N_reads HN35.out
  simp only [List.nil_append] at HN35 hC12 hc12 ⊢
  have hrl : (raw.length : Int) ≤ 12 := by omega
  clear hC12
  go_loopg [13, 14] (raw.length + 1) (fun gh mv iv wr => ∃ (i : Nat) (moved : Bool) (xs : List Rw), raw.length - i ≤ gh ∧ mv = .bool moved ∧ iv = .int .i64 i ∧ i ≤ raw.length ∧ Kd.N kRw 36 wr w3.heap.size (fun _ => True) (.slice A12 raw.length c12) xs ∧ (moved = false → xs = raw ∧ bumpL (s.length : Int) t b raw = raw.take i ++ bumpL (s.length : Int) t b (raw.drop i)) ∧ (moved = true → xs = bumpL (s.length : Int) t b raw) ∧ Below w3.heap.size w3 wr)
  case atStart => exact ⟨0, false, raw, by omega, rfl, rfl, by omega, HN35.out, fun _ => ⟨rfl, by simp⟩, fun h => by (cases h), HB35.out⟩
  case round =>
    clear HN33 HB33 HN35 HB35
    obtain ⟨i, moved, xs, hgh, rfl, rfl, hil, hN, hm0, hm1, hB⟩ := hrel
    have HN := Lib.hid hN
    have HM0 := Lib.hid hm0
    have HM1 := Lib.hid hm1
    have HB := Lib.hid hB
    clear hN hm0 hm1 hB
    obtain ⟨wq, hwq⟩ : ∃ wq, wq = wr := ⟨_, rfl⟩
    subst hwq
    by_cases hlt : i < raw.length ∧ moved = false
    · obtain ⟨hlt, rfl⟩ := hlt
      obtain ⟨rfl, hbu⟩ := HM0.out rfl
      obtain ⟨r, hr'⟩ : ∃ r, xs[i]? = some r := ⟨xs[i], by simp [hlt]⟩
      obtain ⟨g, cg, eg, hgb, hgl, _⟩ := Kd.N_form HN.out (by omega)
      injection eg with eg1 eg2 eg3
      subst eg1 eg3
      obtain ⟨A6, c6, hl6, hC6, hM6, r0, r1, r2, r3, r4, rf⟩ := rw_at HN.out hr'
      have rf1 := rf 1
      have HR := Lib.hid hr'
      have HBU := Lib.hid hbu
      have hir : (i : Int) < (xs.length : Int) := by omega
      obtain ⟨hg0, hg1⟩ := HGAPS.out r (List.mem_of_getElem? hr')
      obtain ⟨m, hm⟩ : ∃ m, r.task % (s.length : Int) = m := ⟨_, rfl⟩
      have HM := Lib.hid hm
      clear hC6 hM6 hr' hbu hm rf HM0 HM1
      by_cases hne : m = t
      · subst hne
        go_wp2_with (go_at_call 16; (with_reducible refine (rest16a _ (by omega) (by omega) HM.out).mono ?_); rintro e w' ⟨rfl, rfl⟩)
        have hn2 := rw_gap HN.out HR.out (r.gap + b)
        have k2 : Keeps [g] wq (wq.setCell ⟨g, i * 5 + 1, none⟩ (.int .i64 (r.gap + b))) := (Keeps.refl _ _).setCell _ _ _ (.inl (by simp))
        go_roundg (xs.length - (i + 1))
        case rel =>
          refine ⟨i + 1, true, xs.set i (bumpR b r), Nat.le_refl _, rfl, by go_num, by omega, hn2, fun h => by (cases h), fun _ => (bumpL_at _ _ _ _ i r HR.out HBU.out HM.out).symm, below_keeps HB.out k2 (by simpa using hgb) HB.out.size⟩
        case measure => omega
      · have hne' : (m == t) = false := by simp [hne]
        go_wp2_with (go_at_call 16; (with_reducible refine (rest16a _ (by omega) (by omega) HM.out).mono ?_); rintro e w' ⟨rfl, rfl⟩)
        go_roundg (xs.length - (i + 1))
        case rel =>
          refine ⟨i + 1, false, xs, Nat.le_refl _, rfl, by go_num, by omega, HN.out, fun _ => ⟨rfl, bumpL_on _ _ _ _ i r HR.out HBU.out (by rw [HM.out]; exact hne)⟩, fun h => by (cases h), HB.out⟩
        case measure => omega
    · have hx : xs = bumpL (s.length : Int) t b raw := by
        cases moved
        · obtain ⟨h1, h2⟩ := HM0.out rfl
          have hi : i = raw.length := by
            have : ¬ i < raw.length := fun h => hlt ⟨h, rfl⟩
            omega
          rw [h1, h2, hi, List.drop_length, List.take_length]
          simp [bumpL]
        · exact HM1.out rfl
      obtain ⟨hnx, hcx, hCx⟩ := Kd.N_reads' HN.out
      have HX := Lib.hid hx
      have HCX := Lib.hid hCx
      have hxl : xs.length = raw.length := by omega
      have HXL := Lib.hid hxl
      have hg : (decide ((i : Int) < (raw.length : Int)) = false) ∨ (decide ((i : Int) < (raw.length : Int)) = true ∧ moved = true) := by
        by_cases h : i < raw.length
        · right
          refine ⟨decide_eq_true (by omega), ?_⟩
          cases moved
          · exact absurd ⟨h, rfl⟩ hlt
          · rfl
        · exact .inl (decide_eq_false (by omega))
      have hC2w := Kd.C_below HC2.out HB.out
      have hC3w := Kd.C_below HC3.out HB.out
      have HC2w := Lib.hid hC2w
      have HC3w := Lib.hid hC3w
      have j5w := Lib.hid ((Keeps.of_below (F := []) HB.out).blk j5.out (by simp))
      have kww := Lib.hid (kw.out.trans (Keeps.of_below (F := []) HB.out))
      clear hx hCx hxl hnx hC2w hC3w hlt HM0 HM1 HC2 HC3 HN j5 kw HF3
      rcases hg with hg1 | ⟨hg1, rfl⟩
      case' inl =>
        have hg2 : decide (i < raw.length) = false := by simpa using hg1
      case' inr =>
        have hg2 : decide (i < raw.length) = true := by simpa using hg1
      all_goals
        go_wp2_with fail
        refine (dec_anyN HS.out A2 c2 A3 c3 raw _ HC2w.out HCL2.out HC3w.out HCL3.out HCUT.out).mono ?_
        rintro e w4 ⟨A15, c15, rfl, hc15, hN15, B4⟩
        have hall : decodeL s raw = tl s [] raw := decodeL_tl HMAY.out (by omega)
        have hlen : (decodeL s raw).length = raw.length := by rw [hall, tl_length]
        have hfm := may_fine HMAY.out
        have hbd := tl_bounds hfm.1 hfm.2.2 raw [] (soon_nil s) (by simp; omega)
        rw [← hall] at hbd
        obtain ⟨all, ha⟩ : ∃ all, all = decodeL s raw := ⟨_, rfl⟩
        rw [← ha] at hc15 hN15 hlen hall hbd ⊢
        rw [hlen] at hc15 hN15 ⊢
        have HALL := Lib.hid hall
        have HLEN := Lib.hid hlen
        have HBD := Lib.hid hbd
        have HN15 := Lib.hid hN15
        have HB4 := Lib.hid B4
        have hws : w4.heap.size ≤ w4.heap.size := Nat.le_refl _
        clear hall hlen hfm hbd ha hN15 B4
        go_wp2_with fail
        go_loopg [16] (raw.length) (fun gh iv wr => ∃ (i : Nat), raw.length - i ≤ gh ∧ iv = .int .i64 i ∧ i ≤ raw.length ∧ Kd.N kJb 39 wr wq.heap.size (fun _ => True) (.slice A15 raw.length c15) (shiftL t b (all.take i) ++ all.drop i) ∧ Below wq.heap.size wq wr)
        case atStart => exact ⟨0, by omega, rfl, by omega, by simpa [shiftL] using HN15.out, HB4.out⟩
        case round =>
          clear HN15 HB4
          obtain ⟨i2, hgh2, rfl, hil2, hN, hBx⟩ := hrel
          have HN := Lib.hid hN
          have HBX := Lib.hid hBx
          clear hN hBx
          by_cases hlt : i2 < raw.length
          · obtain ⟨j, hj⟩ : ∃ j, all[i2]? = some j := ⟨all[i2]'(by rw [HLEN.out]; exact hlt), by simp [HLEN.out, hlt]⟩
            have hgj := shift_get t b all i2 (by rw [HLEN.out]; exact hlt)
            rw [hj] at hgj
            have hll := shift_len t b all i2
            obtain ⟨g, cg, eg, hgb, hgl, _⟩ := Kd.N_form HN.out (by rw [hll, HLEN.out]; omega)
            injection eg with eg1 eg2 eg3
            subst eg1 eg3
            obtain ⟨A6, c6, hl6, hC6, hM6, r0, r1, r2, r3, r4, rf⟩ := jb_at HN.out hgj
            have rf1 := rf 1
            have rf2 := rf 2
            have HJ := Lib.hid hj
            have HGJ := Lib.hid hgj
            have hir2 : (i2 : Int) < (raw.length : Int) := by omega
            obtain ⟨ba0, ba1, br0, br1⟩ := HBD.out j (List.mem_of_getElem? hj)
            clear hC6 hM6 hj hgj hll rf eg2
            by_cases hne : j.task = t
            · obtain ⟨tk, htk⟩ : ∃ tk, j.task = tk := ⟨_, rfl⟩
              rw [htk] at r0 hne
              subst hne
              have HTK := Lib.hid htk
              clear htk
              go_wp2_with fail
              have hn1 := jb_set HN.out HGJ.out 1 (by omega) (j.arrive + b)
              have hg1' : ((shiftL tk b (all.take i2) ++ all.drop i2).set i2 (setJ j 1 (j.arrive + b)))[i2]? = some (setJ j 1 (j.arrive + b)) := by
                rw [List.getElem?_set_self (lt_of_get HGJ.out)]
              have hn2 := jb_set hn1 hg1' 2 (by omega) (j.release + b)
              have k2 : Keeps [g] wr ((wr.setCell ⟨g, i2 * 5 + 1, none⟩ (.int .i64 (j.arrive + b))).setCell ⟨g, i2 * 5 + 2, none⟩ (.int .i64 (j.release + b))) := ((Keeps.refl _ _).setCell _ _ _ (.inl (by simp))).setCell _ _ _ (.inl (by simp))
              have hst := shift_step tk b all i2 j HJ.out
              have he : ((shiftL tk b (all.take i2) ++ all.drop i2).set i2 (setJ j 1 (j.arrive + b))).set i2 (setJ (setJ j 1 (j.arrive + b)) 2 (j.release + b)) = shiftL tk b (all.take (i2 + 1)) ++ all.drop (i2 + 1) := by
                rw [List.set_set, ← hst]
                unfold shiftJ
                rw [if_pos HTK.out]
                rfl
              rw [he] at hn2
              go_roundg (raw.length - (i2 + 1))
              case rel => exact ⟨i2 + 1, Nat.le_refl _, by go_num, by omega, hn2, below_keeps HBX.out k2 (by simpa using hgb) HBX.out.size⟩
              case measure => omega
            · have hne' : (j.task == t) = false := by simp [hne]
              have hst := shift_stay t b all i2 j HJ.out hne
              have HST := Lib.hid hst
              clear hst hne
              go_wp2_with fail
              go_roundg (raw.length - (i2 + 1))
              case rel => exact ⟨i2 + 1, Nat.le_refl _, by go_num, by omega, by rw [← HST.out]; exact HN.out, HBX.out⟩
              case measure => omega
          · obtain rfl : i2 = raw.length := by omega
            have hd2 : decide (raw.length < raw.length) = false := decide_eq_false (by omega)
            have hd3 : decide ((raw.length : Int) < (raw.length : Int)) = false := decide_eq_false (by omega)
            have hN := HN.out
            rw [show all.take raw.length = all from by rw [← HLEN.out, List.take_length], show all.drop raw.length = [] from by rw [← HLEN.out, List.drop_length], List.append_nil] at hN
            obtain ⟨hnw, hcw, hCw⟩ := Kd.N_reads' hN
            have HCW := Lib.hid hCw
            have hC2y := Lib.hid (Kd.C_below HC2w.out HBX.out)
            have hCXy := Lib.hid (Kd.C_below HCX.out HBX.out)
            have hkw := kww.out.trans (Keeps.of_below (F := []) HBX.out)
            have HKW := Lib.hid hkw
            have HNW := Lib.hid hnw
            clear hN hnw hCw hkw hlt
            go_wp2_with fail
            have hdx := dec_anyg HS.out A2 c2 A12 c12 xs wr hC2y.out HCL2.out hCXy.out (by rw [HXL.out]; exact hc12) (by rw [HX.out]; exact bumpL_cuts _ _ _ 6 raw HCUT.out)
            have hdl : decodeL s xs = shiftL t b all := by
              rw [decodeL_tl HMAY.out (by rw [HXL.out]; omega), HX.out, tl_bump' s t b hb0 (by omega) raw HGAPS.out, HALL.out]
            rw [hdl, HXL.out] at hdx
            refine hdx.mono ?_
            clear hdx hdl
            rintro e w5 ⟨A17, c17, rfl, hc17, hC17, B5⟩
            have hsl : (shiftL t b all).length = raw.length := by unfold shiftL; rw [List.length_map, HLEN.out]
            have hCw5 := Kd.C_below HCW.out B5
            have HKW5 := Lib.hid (HKW.out.trans (Keeps.of_below (F := []) B5))
            rw [hsl] at hc17 hC17 ⊢
            have HC17 := Lib.hid hC17
            have HCW5 := Lib.hid hCw5
            have HSL := Lib.hid hsl
            clear hsl hCw5 B5 hC17
            go_wp2_with fail
            have hsm := same_any A17 A15 c17 c15 (shiftL t b all) w5 (by rw [HSL.out]; exact HC17.out) (by rw [HSL.out]; exact hc17) HCW5.out (by rw [HSL.out]; exact hc15)
            rw [HSL.out] at hsm
            refine hsm.mono ?_
            clear hsm
            rintro e w6 ⟨rfl, K6⟩
            have HK6 := Lib.hid (HKW5.out.trans K6)
            clear K6
            go_wp2
            go_ret
            exact ⟨rfl, HK6.out.below (by simp) (Nat.le_refl _)⟩
end Go.Proofs.Ytcdmgalhboijcaa.Sc
