/- back: what is encoded is decoded to the same, walked. -/
import Derived.Test.YtcdmgalhboijcaaRefenc
import Derived.Test.YtcdmgalhboijcaaSame
set_option linter.unusedVariables false
set_option linter.unusedSimpArgs false
namespace Go.Proofs.Ytcdmgalhboijcaa.Sc
open Go.RowKit Go.Shelf Go.Maps Go.Proofs.YtcdmgalhboijcaaW.PrintWords Go.Proofs.YtcdmgalhboijcaaW.PrintMore
open Go.Proofs.Ytcdmgalhboijcaa.Pu Go.Proofs.Ytcdmgalhboijcaa.D

set_option maxHeartbeats 8000000 in
theorem back_any (A0 : Option Addr) (c0 : Nat) (l : List Tsk) (A1 : Option Addr) (c1 : Nat) (jobs : List Jb) (w : World) (hsz : ∀ x ∈ l, x.nm.size ≤ maxLen) (hwf : ∀ x ∈ l, (Lit.int .i64 x.p).wf = true)
    (h0 : kTsk.C w A0 l.length l) (hc0 : l.length ≤ c0) (h1 : kJb.C w A1 jobs.length jobs) (hc1 : jobs.length ≤ c1) :
    Calls Try.prog 22 #[.slice A0 l.length c0, .slice A1 jobs.length c1] w fun e w' => e = .returned (.bool true) ∧ Below w.heap.size w w' := by
  have H0 := Lib.hid h0
  have H1 := Lib.hid h1
  have HSZ := Lib.hid hsz
  have HWF := Lib.hid hwf
  have hu69 := Try.underlying69
  clear h0 h1 hsz hwf
  go_enter Try.func22, Try.ntmps22
  go_wp2_with fail
  refine (Encode_any A0 c0 l A1 c1 jobs _ HSZ.out HWF.out H0.out hc0 H1.out hc1).mono ?_
  rintro e w1 ⟨v, rfl, hS, B1⟩
  obtain ⟨A2, c2, rfl, hc2, hC2⟩ := Kd.R_reads (Kd.S_R hS)
  have HC2 := Lib.hid hC2
  have KW := Lib.hid (Keeps.of_below (F := []) B1)
  have hC0 := Kd.C_below H0.out B1
  have hC1 := Kd.C_below H1.out B1
  clear hS hC2 B1
  go_wp2_with fail
  refine (refEncode_any A0 c0 l A1 c1 jobs _ HSZ.out hC0 hc0 hC1 hc1).mono ?_
  rintro e w2 ⟨v, rfl, hS, B2⟩
  obtain ⟨A3, c3, rfl, hc3, hC3⟩ := Kd.R_reads (Kd.S_R hS)
  have HC3 := Lib.hid hC3
  have HC2a := Lib.hid (Kd.C_below HC2.out B2)
  have KWa := Lib.hid (KW.out.trans (Keeps.of_below (F := []) B2))
  clear hS hC3 B2 HC2 KW hC0 hC1
  obtain ⟨rs, hrs⟩ : ∃ rs, rs = (encodeL l jobs).1 := ⟨_, rfl⟩
  obtain ⟨ok, hok⟩ : ∃ ok, ok = (encodeL l jobs).2 := ⟨_, rfl⟩
  rw [← hrs] at hc2 hc3 HC3 HC2a ⊢
  rw [← hok]
  have HRS := Lib.hid hrs
  have HOK := Lib.hid hok
  clear hrs hok
  go_wp2_with fail
  have J7 := Lib.hid (blk_new w2 (.cells #[.slice A3 rs.length c3, .bool ok] 69))
  have KWb := Lib.hid (KWa.out.alloc (.cells #[.slice A3 rs.length c3, .bool ok] 69))
  have HC2b := Lib.hid (Kd.C_alloc HC2a.out (.cells #[.slice A3 rs.length c3, .bool ok] 69))
  have HC3b := Lib.hid (Kd.C_alloc HC3.out (.cells #[.slice A3 rs.length c3, .bool ok] 69))
  clear HC2a HC3 KWa
  generalize w2.alloc (.cells #[.slice A3 rs.length c3, .bool ok] 69) = w3 at J7 KWb HC2b HC3b ⊢
  have j0 := cell_blk J7.out 0
  go_wp2_with fail
  refine (sameRaw_any A2 A3 c2 c3 rs _ HC2b.out hc2 HC3b.out hc3).mono ?_
  rintro e w4 ⟨rfl, K4⟩
  have j7 := K4.blk J7.out (by simp)
  have HC2c := Lib.hid (Kd.C_below HC2b.out (K4.below (by simp) (Nat.le_refl _)))
  have KWc := Lib.hid (KWb.out.trans K4)
  clear j0 J7 HC2b HC3b KWb K4
  have j1 := cell_blk j7 1
  clear j7
  cases ok
  · go_wp2
    go_ret
    exact ⟨rfl, KWc.out.below (by simp) (Nat.le_refl _)⟩
  · have hle : legalL l jobs = true := by
      cases h : legalL l jobs
      · have := HOK.out; unfold encodeL at this; rw [h] at this; simp at this
      · rfl
    have hka : okAll l jobs = true := by
      cases h : okAll l jobs
      · have := HOK.out; unfold encodeL at this; rw [hle, h] at this; simp at this
      · rfl
    have hre : rs = encs l jobs := by rw [HRS.out]; unfold encodeL; rw [hle, hka]; rfl
    have hdec : decodeL l rs = jobs := by rw [hre]; exact decode_enc hle hka
    have hcu : ∀ r ∈ rs, r.cuts.length ≤ 17592186044416 := by
      rw [hre]
      have hlg := hle
      unfold legalL at hlg
      simp only [Bool.and_eq_true, decide_eq_true_eq] at hlg
      exact encFrom_cuts (may_fine hlg.1).2.2 jobs [] hlg.2.2
    have HDEC := Lib.hid hdec
    have HCU := Lib.hid hcu
    have hC0 := Kd.C_below H0.out (KWc.out.below (by simp) (Nat.le_refl _))
    have hC1 := Kd.C_below H1.out (KWc.out.below (by simp) (Nat.le_refl _))
    clear hle hka hre hdec hcu
    go_wp2_with fail
    have hd := decode_any A0 c0 l A2 c2 rs w4 HSZ.out HWF.out hC0 hc0 HC2c.out hc2 HCU.out
    rw [HDEC.out] at hd
    refine hd.mono ?_
    clear hd
    rintro e w5 ⟨v5, rfl, hS5, B5⟩
    obtain ⟨A5, c5, rfl, hc5, hC5⟩ := Kd.R_reads (Kd.S_R hS5)
    have hC1b := Kd.C_below hC1 B5
    have HC5 := Lib.hid hC5
    have HC1b := Lib.hid hC1b
    have KWd := Lib.hid (KWc.out.trans (Keeps.of_below (F := []) B5))
    clear j1 hC0 hC1 hS5 hC5 hC1b B5 KWc HC2c
    go_wp2_with fail
    refine (same_any A5 A1 c5 c1 jobs _ HC5.out hc5 HC1b.out hc1).mono ?_
    rintro e w6 ⟨rfl, K6⟩
    have KWe := Lib.hid (KWd.out.trans K6)
    clear K6
    go_wp2
    go_ret
    exact ⟨rfl, KWe.out.below (by simp) (Nat.le_refl _)⟩
end Go.Proofs.Ytcdmgalhboijcaa.Sc
