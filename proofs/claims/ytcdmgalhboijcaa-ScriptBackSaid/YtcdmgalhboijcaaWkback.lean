/- ScriptBack, walked. -/
import Derived.Test.YtcdmgalhboijcaaWklegal
import Derived.Test.YtcdmgalhboijcaaBack
set_option linter.unusedVariables false
set_option linter.unusedSimpArgs false
namespace Go.Proofs.Ytcdmgalhboijcaa.Sc
open Go.RowKit Go.Proofs.Ytcdmgalhboijcaa.D Go.Proofs.YtcdmgalhboijcaaW.PrintWords Go.Proofs.YtcdmgalhboijcaaW.PrintLast Go.Proofs.Ytcdmgalhboijcaa.Pu

theorem back_anyg {s : List Tsk} {l : List S52} {turn : Int} (hs : s = setT l turn) (A0 : Option Addr) (c0 : Nat) (A1 : Option Addr) (c1 : Nat) (jobs : List Jb) (w : World)
    (h0 : kTsk.C w A0 s.length s) (hc0 : s.length ≤ c0) (h1 : kJb.C w A1 jobs.length jobs) (hc1 : jobs.length ≤ c1) :
    Calls Try.prog 22 #[.slice A0 s.length c0, .slice A1 jobs.length c1] w fun e w' => e = .returned (.bool true) ∧ Below w.heap.size w w' := by
  subst hs
  have h := setT_ok l turn
  exact back_any A0 c0 (setT l turn) A1 c1 jobs w h.1 h.2 h0 hc0 h1 hc1

set_option maxRecDepth 100000 in
set_option maxHeartbeats 8000000 in
theorem back_walk (A0 : Option Addr) (c0 : Nat) (l0 : List S52) (A1 : Option Addr) (c1 : Nat) (l1 : List S36) (q0 q1 q2 : Int) (W : World) (hw2 : (Lit.int .i64 q2).wf = true)
    (h0 : Kd.C k52 W A0 l0.length l0) (hc0 : l0.length ≤ c0) (h1 : Kd.C k36 W A1 l1.length l1) (hc1 : l1.length ≤ c1) :
    Calls Try.prog 9 #[.slice A0 l0.length c0, .slice A1 l1.length c1, .agg #[.int .i64 q0, .int .i64 q1, .int .i64 q2]] W fun e w' => e = .returned (.bool true) ∧ Below W.heap.size W w' := by
  have hu41 := Try.underlying41
  have H0 := Lib.hid h0
  have H1 := Lib.hid h1
  have HC0 := Lib.hid hc0
  have HC1 := Lib.hid hc1
  clear h0 h1 hc0 hc1
  go_enter Try.func9, Try.ntmps9
  go_wp2_with fail
  have J5 := Lib.hid (blk_new W (.cells #[.int .i64 q0, .int .i64 q1, .int .i64 q2] 41))
  have KW := Lib.hid ((Keeps.refl [] W).alloc (.cells #[.int .i64 q0, .int .i64 q1, .int .i64 q2] 41))
  generalize W.alloc (.cells #[.int .i64 q0, .int .i64 q1, .int .i64 q2] 41) = w0 at J5 KW ⊢
  refine (awake_any _).mono ?_
  rintro e w1 ⟨rfl, B1⟩
  have K1 := Keeps.of_below (F := []) B1
  have j5 := Lib.hid (K1.blk J5.out (by simp))
  have kw := Lib.hid (KW.out.trans K1)
  have hC0 := Kd.C_below H0.out (kw.out.below (by simp) (Nat.le_refl _))
  clear J5 KW B1 K1
  have J5 := cell_blk j5.out 0
  go_wp2_with fail
  refine (set_any A0 c0 l0 q0 _ hC0 HC0.out).mono ?_
  rintro e w2 ⟨A2, c2, rfl, hc2, hC2, B2⟩
  have K1 := Keeps.of_below (F := []) B2
  have j5' := Lib.hid (K1.blk j5.out (by simp))
  have kw' := Lib.hid (kw.out.trans K1)
  have hC1 := Kd.C_below H1.out (kw'.out.below (by simp) (Nat.le_refl _))
  have hn := setT_length l0 q0
  obtain ⟨s, hs⟩ : ∃ s, s = setT l0 q0 := ⟨_, rfl⟩
  rw [← hs] at hc2 hC2 hn ⊢
  have hmay : mayB s = true := by rw [hs]; exact setT_may l0 q0
  have HMAY := Lib.hid hmay
  have HS := Lib.hid hs
  have HC2 := Lib.hid hC2
  have HCL2 := Lib.hid hc2
  clear J5 j5 kw B2 K1 hC0 hC2 hs hmay hc2
  go_wp2_with fail
  refine (few_any A1 c1 l1 _ hC1 HC1.out).mono ?_
  rintro e w3 ⟨A3, c3, rfl, hc3, hC3, B3⟩
  have K1 := Keeps.of_below (F := []) B3
  have j5 := Lib.hid (K1.blk j5'.out (by simp))
  have kw := Lib.hid (kw'.out.trans K1)
  have hC2 := Kd.C_below HC2.out B3
  have hr := fewR_length l1
  have hcut := fewR_cuts l1
  obtain ⟨raw, hraw⟩ : ∃ raw, raw = fewR l1 := ⟨_, rfl⟩
  rw [← hraw] at hc3 hC3 hr hcut ⊢
  have HRAW := Lib.hid hraw
  have HC2 := Lib.hid hC2
  have HCUT := Lib.hid hcut
  clear j5' kw' B3 K1 hC1 hC2 hcut hraw
  go_wp2_with fail
  refine (refdec_anyg HS.out A2 c2 A3 c3 raw _ HC2.out HCL2.out hC3 hc3 HCUT.out).mono ?_
  rintro e w4 ⟨A4, c4, rfl, hc4, hC4, B4⟩
  have K1 := Keeps.of_below (F := []) B4
  have j5' := Lib.hid (K1.blk j5.out (by simp))
  have kw' := Lib.hid (kw.out.trans K1)
  have hC2 := Kd.C_below HC2.out B4
  have hall : (decodeL s raw).length = raw.length := by rw [decodeL_tl HMAY.out (by omega), tl_length]
  have hdc := decode_cuts HMAY.out raw hr
  have HC2 := Lib.hid hC2
  obtain ⟨all, ha⟩ : ∃ all, all = decodeL s raw := ⟨_, rfl⟩
  rw [← ha] at hc4 hC4 hall hdc ⊢
  rw [hall] at hc4 hC4 ⊢
  have HC4 := Lib.hid hC4
  have HCL4 := Lib.hid hc4
  have HALL := Lib.hid hall
  have HDC := Lib.hid hdc
  clear hC3 hc3 j5 kw B4 K1 hC2 hC4 hc4 hall hdc ha
  go_wp2_with fail
  have hq := back_anyg HS.out A2 c2 A4 c4 all _ HC2.out HCL2.out (by rw [HALL.out]; exact HC4.out) (by rw [HALL.out]; exact HCL4.out)
  rw [HALL.out] at hq
  refine hq.mono ?_
  clear hq
  rintro e w5 ⟨rfl, B5⟩
  have K1 := Keeps.of_below (F := []) B5
  have j5 := K1.blk j5'.out (by simp)
  have kw := Lib.hid (kw'.out.trans K1)
  have HC2a := Lib.hid (Kd.C_below HC2.out B5)
  have HC4a := Lib.hid (Kd.C_below HC4.out B5)
  have j0 := cell_blk j5 0
  have j1 := cell_blk j5 1
  have j2 := cell_blk j5 2
  have J5a := Lib.hid j5
  clear HC2 HC4 j5' kw' K1 B5 j5
  go_wp2_with fail
  have ht := turned_any A4 c4 all q0 q1 (q2.tmod 20) w5 (by rw [HALL.out]; exact HC4a.out) (by rw [HALL.out]; exact HCL4.out) (by rw [HALL.out]; omega) HDC.out
  rw [HALL.out, turnL_length, HALL.out] at ht
  refine ht.mono ?_
  clear ht
  rintro e w6 ⟨A6, c6, rfl, hc6, hC6, B6⟩
  have hxl : (turnL all q0 q1 (q2.tmod 20)).length = raw.length := by rw [turnL_length, HALL.out]
  generalize turnL all q0 q1 (q2.tmod 20) = x at hxl hC6
  have HXL := Lib.hid hxl
  have HC6 := Lib.hid hC6
  have HCL6 := Lib.hid hc6
  have K1 := Keeps.of_below (F := []) B6
  have j5 := K1.blk J5a.out (by simp)
  have kw6 := Lib.hid (kw.out.trans K1)
  have HC2b := Lib.hid (Kd.C_below HC2a.out B6)
  have HC4b := Lib.hid (Kd.C_below HC4a.out B6)
  have J5b := Lib.hid j5
  clear HC2a HC4a J5a kw K1 B6 j5 j0 j1 j2 hxl hC6 hc6
  go_wp2_with fail
  have hq := back_anyg HS.out A2 c2 A6 c6 x _ HC2b.out HCL2.out (by rw [HXL.out]; exact HC6.out) (by rw [HXL.out]; exact HCL6.out)
  rw [HXL.out] at hq
  refine hq.mono ?_
  clear hq
  rintro e w7 ⟨rfl, B7⟩
  have K1 := Keeps.of_below (F := []) B7
  have j5 := K1.blk J5b.out (by simp)
  have kw7 := Lib.hid (kw6.out.trans K1)
  have HC2c := Lib.hid (Kd.C_below HC2b.out B7)
  have HC4c := Lib.hid (Kd.C_below HC4b.out B7)
  have j0 := cell_blk j5 0
  have j1 := cell_blk j5 1
  have j2 := cell_blk j5 2
  clear HC2b HC4b J5b kw6 K1 B7 j5 HC6 HCL6 HXL
  go_wp2_with fail
  have ht := turned_any A4 c4 all q0 q1 q2 w7 (by rw [HALL.out]; exact HC4c.out) (by rw [HALL.out]; exact HCL4.out) (by rw [HALL.out]; omega) HDC.out
  rw [HALL.out, turnL_length, HALL.out] at ht
  refine ht.mono ?_
  clear ht
  rintro e w8 ⟨A8, c8, rfl, hc8, hC8, B8⟩
  have hxl : (turnL all q0 q1 q2).length = raw.length := by rw [turnL_length, HALL.out]
  generalize turnL all q0 q1 q2 = y at hxl hC8
  have HYL := Lib.hid hxl
  have HC8 := Lib.hid hC8
  have HCL8 := Lib.hid hc8
  have kw8 := Lib.hid (kw7.out.trans (Keeps.of_below (F := []) B8))
  have HC2d := Lib.hid (Kd.C_below HC2c.out B8)
  clear HC2c HC4c kw7 B8 j0 j1 j2 hxl hC8 hc8
  go_wp2_with fail
  have hq := back_anyg HS.out A2 c2 A8 c8 y _ HC2d.out HCL2.out (by rw [HYL.out]; exact HC8.out) (by rw [HYL.out]; exact HCL8.out)
  rw [HYL.out] at hq
  refine hq.mono ?_
  clear hq
  rintro e w9 ⟨rfl, B9⟩
  have kw9 := Lib.hid (kw8.out.trans (Keeps.of_below (F := []) B9))
  clear kw8 B9
  go_wp2
  go_ret
  exact ⟨rfl, kw9.out.below (by simp) (Nat.le_refl _)⟩
end Go.Proofs.Ytcdmgalhboijcaa.Sc
