/- ScriptMany, walked. -/
import Derived.Test.YtcdmgalhboijcaaWklegal
import Derived.Test.YtcdmgalhboijcaaPsetm
set_option linter.unusedVariables false
set_option linter.unusedSimpArgs false
namespace Go.Proofs.Ytcdmgalhboijcaa.Sc
open Go.RowKit Go.Proofs.Ytcdmgalhboijcaa.D Go.Proofs.YtcdmgalhboijcaaW.PrintWords Go.Proofs.YtcdmgalhboijcaaW.PrintLast Go.Proofs.Ytcdmgalhboijcaa.Pu

theorem setT3_may (l : List S52) (turn : Int) : mayB (setT3 l turn) = true := may_set _ turn
theorem setT3_ok (l : List S52) (turn : Int) : (∀ x ∈ setT3 l turn, x.nm.size ≤ maxLen) ∧ ∀ x ∈ setT3 l turn, (Lit.int .i64 x.p).wf = true := okL_of (okL_set _ turn)
theorem decodeL_cut (l : List Tsk) (raw : List Rw) : decodeL l raw = decodeL l (raw.take 4096) := by
  unfold decodeL
  rw [List.take_take, Nat.min_self]
theorem decodeL_len {l : List Tsk} (hm : mayB l = true) (raw : List Rw) : (decodeL l raw).length = min raw.length 4096 := by
  rw [decodeL_cut, decodeL_tl hm (by rw [List.length_take]; omega), tl_length, List.length_take, Nat.min_comm]
theorem legal_cut {l : List Tsk} (hm : mayB l = true) (raw : List Rw) : legalL l (decodeL l raw) = true := by
  rw [decodeL_cut]
  exact legal_decode hm _ (by rw [List.length_take]; omega)
theorem legal_many (l : List Tsk) (js : List Jb) (h : 4096 < js.length) : legalL l js = false := by
  unfold legalL
  rw [decide_eq_false (by omega)]
  simp
theorem zero_fk (W : World) : Kd.FK kRw W (fun _ => False) noRw [.int .i64 0, .int .i64 0, .int .i64 0, .int .i64 0, .slice none 0 0] :=
  fun W' _ => kRw_mk W' noRw none 0 (Nat.le_refl _) ⟨rfl, by decide, fun h => by simp [noRw] at h⟩

set_option maxRecDepth 100000 in
set_option maxHeartbeats 8000000 in
theorem many_walk (A0 : Option Addr) (c0 : Nat) (l0 : List S52) (q : Int) (W : World)
    (h0 : Kd.C k52 W A0 l0.length l0) (hc0 : l0.length ≤ c0) :
    Calls Try.prog 7 #[.slice A0 l0.length c0, .int .i64 q] W fun e w' => e = .returned (.bool true) ∧ Below W.heap.size W w' := by
  have H0 := Lib.hid h0
  have HC0 := Lib.hid hc0
  clear h0 hc0
  go_enter Try.func7, Try.ntmps7
  go_wp2_with fail
  refine (awake_any _).mono ?_
  rintro e w1 ⟨rfl, B1⟩
  have hC0 := Kd.C_below H0.out B1
  have kw := Lib.hid (Keeps.of_below (F := []) B1)
  clear B1
  go_wp2_with fail
  refine (set_any3 A0 c0 l0 q _ hC0 HC0.out).mono ?_
  rintro e w2 ⟨A2, c2, rfl, hc2, hC2, B2⟩
  have kw' := Lib.hid (kw.out.trans (Keeps.of_below (F := []) B2))
  have hmay := setT3_may l0 q
  have hokl := setT3_ok l0 q
  generalize setT3 l0 q = s at hc2 hC2 hmay hokl ⊢
  have hf := may_fine hmay
  have hl1 := hf.1
  have hl2 := hf.2.1
  have HMAY := Lib.hid hmay
  have HOKL := Lib.hid hokl
  have HC2 := Lib.hid hC2
  have HCL2 := Lib.hid hc2
  clear kw B2 hC0 hC2 hc2 hmay hokl hf
  have hr0 := Int.emod_nonneg q (show (11 : Int) ≠ 0 by omega)
  have hr1 := Int.emod_lt_of_pos q (show (0 : Int) < 11 by omega)
  obtain ⟨r, hr⟩ : ∃ r, q % 11 = r := ⟨_, rfl⟩
  rw [hr] at hr0 hr1
  have HR := Lib.hid hr
  clear hr
  obtain ⟨n, hn⟩ : ∃ n : Nat, 4090 + r = (n : Int) := ⟨(4090 + r).toNat, by omega⟩
  have hn0 : 4090 ≤ n := by omega
  have hn1 : n ≤ 4100 := by omega
  go_wp2_with (first
    | (go_at_call 16; (with_reducible refine (rest16a _ (by omega) (by omega) HR.out).mono ?_); rintro e w' ⟨rfl, rfl⟩)
    | ((with_reducible refine gate_dst (N := 19) rfl ?_)
       refine Kd.N_make kRw (w0 := w2) w2.heap.size 36 rfl (N' := 19) rfl 23 _ _ rfl (n : Int) rfl rfl Try.underlying23 (.agg #[.int .i64 0, .int .i64 0, .int .i64 0, .int .i64 0, .slice none 0 0]) 56 info36 rfl (by decide) (by omega) noRw (ok := fun _ => True) (okp := fun _ => False) (zero_fk _) (fun _ hk => hk.elim) trivial (by omega) (by omega) (Below.refl _ _) (Nat.le_refl _) ?_
       intro v19 w3 hn19 hb19 hg19 hat19
       have HN19 := Lib.hid hn19
       have HB19 := Lib.hid hb19
       clear hn19 hb19 hg19 hat19))
  obtain ⟨A3, c3, rfl, hc3, hC3⟩ := Kd.N_reads HN19.out
  have hrl : (List.replicate (Int.toNat (n : Int)) noRw).length = n := by simp
  obtain ⟨raw, hraw⟩ : ∃ raw, raw = List.replicate (Int.toNat (n : Int)) noRw := ⟨_, rfl⟩
  rw [← hraw] at hrl hc3 hC3 ⊢
  have hcut : ∀ x ∈ raw, x.cuts.length ≤ 17592186044416 := by
    intro x hx
    rw [hraw] at hx
    rw [(List.mem_replicate.1 hx).2]
    decide
  have kw3 := Lib.hid (kw'.out.trans (Keeps.of_below (F := []) HB19.out))
  have hC2 := Kd.C_below HC2.out HB19.out
  have HC2a := Lib.hid hC2
  have HC3 := Lib.hid hC3
  have HCUT := Lib.hid hcut
  have hdl := decodeL_len HMAY.out raw
  have hlg := legal_cut HMAY.out raw
  clear HN19 HB19 kw' HC2 hcut hC3 hraw hC2
  rw [hrl] at hc3 HC3 hdl ⊢
  obtain ⟨m, hm⟩ : ∃ m, min n 4096 = m := ⟨_, rfl⟩
  rw [hm] at hdl
  have hm0 : 4090 ≤ m := by omega
  have hm1 : m ≤ n := by omega
  have hm2 : m ≤ 4096 := by omega
  have HM := Lib.hid hm
  have HRL := Lib.hid hrl
  have hmin : ∀ W, (Builtin.min_ #[3, 3] 3 #[.int .i64 n, .int .i64 4096]).run Try.prog W = .ok (.int .i64 m) W := fun W => by
    rw [min2_run]
    congr 2
    omega
  clear hm hrl
  go_wp2_with fail
  have hd := decode_any A2 c2 s A3 c3 raw w3 HOKL.out.1 HOKL.out.2 HC2a.out HCL2.out (by rw [HRL.out]; exact HC3.out) (by rw [HRL.out]; exact hc3) HCUT.out
  rw [HRL.out] at hd
  refine hd.mono ?_
  clear hd
  rintro e w4 ⟨v8, rfl, hS8, B4⟩
  have hN8 := Kd.S_N hS8
  obtain ⟨A8, c8, rfl, hc8, hC8⟩ := Kd.N_reads hN8
  generalize decodeL s raw = js at hdl hlg hc8 hC8 hN8
  rw [hdl] at hc8 hC8 hN8 ⊢
  have kw4 := Lib.hid (kw3.out.trans (Keeps.of_below (F := []) B4))
  have HC2b := Lib.hid (Kd.C_below HC2a.out B4)
  have HJL := Lib.hid hdl
  have HLG := Lib.hid hlg
  have HC8 := Lib.hid hC8
  have HN8 := Lib.hid hN8
  have HCL8 := Lib.hid hc8
  have hqq : ((m : Int) != (m : Int)) = false := by simp
  have HB34 := Lib.hid B4
  clear hdl hlg hC8 hN8 hS8 hc8 B4 HC3 HCUT HRL
  go_wp2_with fail
  have hq := Legal_any A2 c2 s A8 c8 js w4 HOKL.out.1 HOKL.out.2 HC2b.out HCL2.out (by rw [HJL.out]; exact HC8.out) (by rw [HJL.out]; exact HCL8.out)
  rw [HJL.out, HLG.out] at hq
  refine hq.mono ?_
  clear hq
  rintro e w5 ⟨rfl, B5⟩
  have kw5 := Lib.hid (kw4.out.trans (Keeps.of_below (F := []) B5))
  have HC2c := Lib.hid (Kd.C_below HC2b.out B5)
  have HN5 := Lib.hid (Kd.N_below HN8.out B5)
  have h45 := B5.size
  have HJB := Lib.hid (HB34.out.trans (B5.mono HB34.out.size))
  have hrs := row_tsk HC2a.out
  obtain ⟨t0, ht0⟩ : ∃ t0, s[0]? = some t0 := ⟨s[0]'(by omega), by simp⟩
  obtain ⟨b2, o2, ha2, hct⟩ := hrs 0 t0 ht0
  have hct2 : w3.cell? ⟨b2, o2 + 2, none⟩ = some (.int .i64 t0.t) := hct 2 _ rfl
  have HCT := Lib.hid hct2
  subst ha2
  clear B5 kw4 HC2b HN8 HC8 hqq HC2c hrs hct hct2 ht0
  go_wp2_with fail
  go_loopg [8] (n) (fun gh jv wr => ∃ (k : Nat) (xs : List Jb), n - k ≤ gh ∧ xs.length = k ∧ m ≤ k ∧ k ≤ n ∧ (k = m → xs = js) ∧ Kd.N kJb 39 wr w3.heap.size (fun _ => True) jv xs ∧ Below w3.heap.size w3 wr)
  case atStart => exact ⟨m, js, by omega, HJL.out, by omega, by omega, fun _ => rfl, HN5.out, HJB.out⟩
  case round =>
    obtain ⟨wq, hwq⟩ : ∃ wq, wq = wr := ⟨_, rfl⟩
    subst hwq
    obtain ⟨k, xs, hgh, hxl, hmk, hkn, hjs, hN, hB⟩ := hrel
    obtain ⟨g, cg, rfl, hgb, hgl, _⟩ := Kd.N_form hN (by omega)
    rw [hxl] at hN ⊢
    have HN := Lib.hid hN
    have HB := Lib.hid hB
    have HXL := Lib.hid hxl
    have HJS := Lib.hid hjs
    clear hN hB hxl hjs HN5 HJB
    by_cases hlt : k < n
    · obtain ⟨p, rfl⟩ : ∃ p, k = p + 1 := ⟨k - 1, by omega⟩
      obtain ⟨r, hr⟩ : ∃ r, xs[p]? = some r := ⟨xs[p]'(by have := HXL.out; omega), by simp⟩
      obtain ⟨A6, c6, hl6, hC6, hM6, r0, r1, r2, r3, r4, rf⟩ := jb_at HN.out hr
      have HFK := Lib.hid hM6
      have ht2 : wq.cell? ⟨b2, o2 + 2, none⟩ = some (.int .i64 t0.t) := (HB.out.cell (World.block_lt_of_cell? _ _ HCT.out)).trans HCT.out
      have hgo : ((p + 1 : Nat) : Int) < (n : Int) := by omega
      have hs1 : ((p + 1 : Nat) : Int) - 1 = (p : Int) := by omega
      have hp0 : (p : Int) < ((p + 1 : Nat) : Int) := by omega
      have hsl : (0 : Int) < (s.length : Int) := by omega
      have hsl2 : 0 < s.length := by omega
      have T2 := Lib.hid ht2
      clear hr hC6 hM6 rf ht2
      go_wp2_with fail
      have J9 := Lib.hid (blk_new wq (.cells #[.int .i64 r.task, .int .i64 r.arrive, .int .i64 r.release, .int .i64 r.work, .slice A6 r.cuts.length c6] 39))
      have KW := Lib.hid ((Keeps.refl [] wq).alloc (.cells #[.int .i64 r.task, .int .i64 r.arrive, .int .i64 r.release, .int .i64 r.work, .slice A6 r.cuts.length c6] 39))
      have ht2 := keeps_cell KW.out T2.out
      clear r0 r1 r2 r3 r4
      generalize wq.alloc (.cells #[.int .i64 r.task, .int .i64 r.arrive, .int .i64 r.release, .int .i64 r.work, .slice A6 r.cuts.length c6] 39) = W1 at J9 KW ht2 ⊢
      have j1 := cell_blk J9.out 1
      obtain ⟨z, hz⟩ : ∃ z, IntKind.i64.wrap (r.arrive + t0.t) = z := ⟨_, rfl⟩
      go_still_tail 8, (by kernel_rfl)

      refine name_drew_list (w := W1) ?_
      rintro W2 K2 -
      have j9 := K2.blk J9.out (by simp)
      have KW2 := Lib.hid (KW.out.trans K2)
      clear j1 ht2 J9 KW K2
      have J9 := Lib.hid j9
      have j1 := cell_blk j9 1
      have f1 := free_blk j9 1
      have j2 := cell_blk j9 2
      have f2 := free_blk j9 2
      have j0 := cell_blk j9 0
      have j3 := cell_blk j9 3
      have j4 := cell_blk j9 4
      have hbw : Below wq.heap.size wq W2 := KW2.out.below (by simp) (Nat.le_refl _)
      have hb9 : wq.heap.size < W2.heap.size := blk_lt j9
      clear j9
      have hwq3 : w3.heap.size ≤ wq.heap.size := HB.out.size
      have hxl9 : (xs.length + 1) * 56 ≤ 140737488355328 := by have := HXL.out; omega
      go_wp2_with (first
        | (at_builtin
           refine Kd.N_append kJb (w0 := w3) w3.heap.size rfl (.tmp 53) (.tmp 55) 29 39 (.agg #[.int .i64 0, .int .i64 0, .int .i64 0, .int .i64 0, .slice none 0 0]) 56 rfl Try.underlying29 info39 rfl (by decide) (by omega) (.slice (some ⟨g, 0, none⟩) (p + 1) cg) xs ⟨r.task, z, z, r.work, r.cuts⟩ [.int .i64 r.task, .int .i64 z, .int .i64 z, .int .i64 r.work, .slice A6 r.cuts.length c6] (fun _ => True) (fun q => True ∧ q ≠ g) rfl (by first | (go_simp; done) | (go_simp; rfl) | (simp; rfl)) (Foot.imp (Kd.FK_below HFK.out (((KW2.out.setCell wq.heap.size 1 (.int .i64 z) (.inr (by omega))).setCell wq.heap.size 2 (.int .i64 z) (.inr (by omega))).below (by simp) (Nat.le_refl _))) (fun W' hk => kJb_mk W' ⟨r.task, z, z, r.work, r.cuts⟩ A6 c6 hl6 (kJb_inv hk).2)) (fun q hq => ⟨trivial, fun e => hq.2 (Option.some.inj e)⟩) (fun _ _ => trivial) (Kd.N_below HN.out (((KW2.out.setCell wq.heap.size 1 (.int .i64 z) (.inr (by omega))).setCell wq.heap.size 2 (.int .i64 z) (.inr (by omega))).below (by simp) (Nat.le_refl _))) (HB.out.trans ((((KW2.out.setCell wq.heap.size 1 (.int .i64 z) (.inr (by omega))).setCell wq.heap.size 2 (.int .i64 z) (.inr (by omega))).below (by simp) (Nat.le_refl _)).mono hwq3)) (by simp; omega) hxl9 ?_
           intro v1 w6 ho hb hg hat
           have HO := Lib.hid ho
           have HB6 := Lib.hid hb
           clear j0 j1 j2 j3 j4 f1 f2 ho hb hg hat))
      have hl9 := HXL.out
      go_roundg (n - (p + 1 + 1))
      case rel => exact ⟨p + 1 + 1, _, Nat.le_refl _, by rw [List.length_append, hl9]; rfl, by omega, by omega, fun h => by omega, HO.out, HB6.out⟩
      case measure => omega
    · obtain rfl : k = n := by omega
      have hd2 : decide ((k : Int) < (k : Int)) = false := decide_eq_false (by omega)
      have hd3 : decide (k < k) = false := decide_eq_false (by omega)
      obtain ⟨_, hck, hCk⟩ := Kd.N_reads' HN.out
      have hC2w := Kd.C_below HC2a.out HB.out
      have HCK := Lib.hid hCk
      have HC2w := Lib.hid hC2w
      have hW3 : Below W.heap.size W w3 := kw3.out.below (by simp) (Nat.le_refl _)
      have HWQ := Lib.hid (hW3.trans (HB.out.mono hW3.size))
      clear hW3
      clear hCk hC2w hlt
      by_cases h4 : k ≤ 4096
      · obtain rfl : k = m := by have := HM.out; omega
        have hxs := HJS.out rfl
        have hlg := HLG.out
        rw [← hxs] at hlg
        have HL := Lib.hid hlg
        have d4 : decide ((k : Int) ≤ 4096) = true := decide_eq_true (by omega)
        have d5 : decide (k ≤ 4096) = true := decide_eq_true h4
        have d6 : decide ((xs.length : Int) ≤ 4096) = true := decide_eq_true (by have := HXL.out; omega)
        have d7 : decide (xs.length ≤ 4096) = true := decide_eq_true (by have := HXL.out; omega)
        clear hxs hlg
        go_wp2_with fail
        have hq := Legal_any _ c2 s _ cg xs wq HOKL.out.1 HOKL.out.2 HC2w.out HCL2.out HCK.out (by rw [HXL.out]; exact hck)
        rw [HL.out] at hq
        refine hq.mono ?_
        clear hq
        rintro e w9 ⟨rfl, B9⟩
        have HB9 := Lib.hid B9
        clear B9
        go_wp2
        go_ret
        exact ⟨by simp [*], HWQ.out.trans (HB9.out.mono HWQ.out.size)⟩
      · have hlg := legal_many s xs (by rw [HXL.out]; omega)
        have HL := Lib.hid hlg
        have d4 : decide ((k : Int) ≤ 4096) = false := decide_eq_false (by omega)
        have d5 : decide (k ≤ 4096) = false := decide_eq_false h4
        have d6 : decide ((xs.length : Int) ≤ 4096) = false := decide_eq_false (by have := HXL.out; omega)
        have d7 : decide (xs.length ≤ 4096) = false := decide_eq_false (by have := HXL.out; omega)
        clear hlg
        go_wp2_with fail
        have hq := Legal_any _ c2 s _ cg xs wq HOKL.out.1 HOKL.out.2 HC2w.out HCL2.out HCK.out (by rw [HXL.out]; exact hck)
        rw [HL.out] at hq
        refine hq.mono ?_
        clear hq
        rintro e w9 ⟨rfl, B9⟩
        have HB9 := Lib.hid B9
        clear B9
        go_wp2
        go_ret
        exact ⟨by simp [*], HWQ.out.trans (HB9.out.mono HWQ.out.size)⟩
end Go.Proofs.Ytcdmgalhboijcaa.Sc
