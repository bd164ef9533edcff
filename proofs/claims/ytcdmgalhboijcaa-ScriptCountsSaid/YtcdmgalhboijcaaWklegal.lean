/- ScriptLegal, walked. -/
import Derived.Test.YtcdmgalhboijcaaTurned
import Derived.Test.YtcdmgalhboijcaaReflegal
import Derived.Test.YtcdmgalhboijcaaEnc
import Derived.Deep.RegionHeld3
set_option linter.unusedVariables false
set_option linter.unusedSimpArgs false
namespace Go.Proofs.Ytcdmgalhboijcaa.Sc
open Go.RowKit Go.Proofs.Ytcdmgalhboijcaa.D Go.Proofs.YtcdmgalhboijcaaW.PrintWords Go.Proofs.YtcdmgalhboijcaaW.PrintLast Go.Proofs.Ytcdmgalhboijcaa.Pu

theorem refdec_anyg {s : List Tsk} {l : List S52} {turn : Int} (hs : s = setT l turn) (A0 : Option Addr) (c0 : Nat) (A1 : Option Addr) (c1 : Nat) (raw : List Rw) (w : World)
    (h0 : kTsk.C w A0 s.length s) (hc0 : s.length ≤ c0) (h1 : kRw.C w A1 raw.length raw) (hc1 : raw.length ≤ c1) (hcuts : ∀ r ∈ raw, r.cuts.length ≤ 6) :
    Calls Try.prog 15 #[.slice A0 s.length c0, .slice A1 raw.length c1] w fun e w' => ∃ A' c', e = .returned (.slice A' (decodeL s raw).length c') ∧ (decodeL s raw).length ≤ c' ∧ kJb.C w' A' (decodeL s raw).length (decodeL s raw) ∧ Below w.heap.size w w' := by
  subst hs
  have h := setT_ok l turn
  refine (refDecode_any A0 c0 (setT l turn) A1 c1 raw w h.1 h0 hc0 h1 hc1 (fun r hr => by have := hcuts r hr; omega)).mono ?_
  rintro e w' ⟨v, rfl, hS, hB⟩
  obtain ⟨A', c', rfl, hc', hC'⟩ := Kd.R_reads (Kd.S_R hS)
  exact ⟨A', c', rfl, hc', hC', hB⟩
theorem Legal_anyg {s : List Tsk} {l : List S52} {turn : Int} {g : Bool} (hs : s = setT l turn) (A0 : Option Addr) (c0 : Nat) (A1 : Option Addr) (c1 : Nat) (jobs : List Jb) (w : World)
    (h0 : kTsk.C w A0 s.length s) (hc0 : s.length ≤ c0) (h1 : kJb.C w A1 jobs.length jobs) (hc1 : jobs.length ≤ c1) (hg : legalL s jobs = g) :
    Calls Try.prog 19 #[.slice A0 s.length c0, .slice A1 jobs.length c1] w fun e w' => e = .returned (.bool g) ∧ Below w.heap.size w w' := by
  subst hs hg
  have h := setT_ok l turn
  exact Legal_any A0 c0 (setT l turn) A1 c1 jobs w h.1 h.2 h0 hc0 h1 hc1
theorem Legal_none (A1 : Option Addr) (c1 : Nat) (jobs : List Jb) (w : World) (h1 : kJb.C w A1 jobs.length jobs) (hc1 : jobs.length ≤ c1) :
    Calls Try.prog 19 #[.slice none 0 0, .slice A1 jobs.length c1] w fun e w' => e = .returned (.bool false) ∧ Below w.heap.size w w' :=
  Legal_any none 0 [] A1 c1 jobs w (by simp) (by simp) ⟨rfl, by simp, fun h => by simp at h⟩ (by simp) h1 hc1
theorem refLegal_anyg {s : List Tsk} {l : List S52} {turn : Int} {g : Bool} (hs : s = setT l turn) (A0 : Option Addr) (c0 : Nat) (A1 : Option Addr) (c1 : Nat) (jobs : List Jb) (w : World)
    (h0 : kTsk.C w A0 s.length s) (hc0 : s.length ≤ c0) (h1 : kJb.C w A1 jobs.length jobs) (hc1 : jobs.length ≤ c1) (hg : legalL s jobs = g) :
    Calls Try.prog 20 #[.slice A0 s.length c0, .slice A1 jobs.length c1] w fun e w' => e = .returned (.bool g) ∧ Below w.heap.size w w' := by
  subst hs hg
  have h := setT_ok l turn
  exact refLegal_any A0 c0 (setT l turn) A1 c1 jobs w h.1 h0 hc0 h1 hc1
theorem decode_cuts {l : List Tsk} (hm : mayB l = true) (rs : List Rw) (hn : rs.length ≤ 12) : ∀ j ∈ decodeL l rs, j.cuts.length ≤ 17592186044000 := by
  intro j hj
  have hf := may_fine hm
  rw [decodeL_tl hm (by omega)] at hj
  obtain ⟨i, hi⟩ := List.getElem?_of_mem hj
  have h := legalFrom_tl hf.1 hf.2.2 rs [] (soon_nil l) (by simp; omega)
  have : ∀ (js out : List Jb), legalFrom l out js = true → ∀ j ∈ js, j.cuts.length ≤ 17592186044000 := by
    intro js
    induction js with
    | nil => intro _ _ j hj; cases hj
    | cons x xs ih =>
      intro out h j hj
      simp only [legalFrom, Bool.and_eq_true] at h
      rcases List.mem_cons.1 hj with rfl | hj
      · have hb := jobOk_true h.1
        have hF := hf.2.2 _ (tsk_mem hb.t0 hb.t1).1
        have h1 := hF.c1
        have h2 := hb.w1
        have h0 := hb.w0
        have h3 := cutsOk_len hb.cs (by omega)
        omega
      · exact ih _ h.2 j hj
  exact this _ _ h j hj

set_option maxRecDepth 100000 in
set_option maxHeartbeats 8000000 in
theorem legal_walk (A0 : Option Addr) (c0 : Nat) (l0 : List S52) (A1 : Option Addr) (c1 : Nat) (l1 : List S36) (q0 q1 q2 : Int) (W : World) (hw2 : (Lit.int .i64 q2).wf = true)
    (h0 : Kd.C k52 W A0 l0.length l0) (hc0 : l0.length ≤ c0) (h1 : Kd.C k36 W A1 l1.length l1) (hc1 : l1.length ≤ c1) :
    Calls Try.prog 6 #[.slice A0 l0.length c0, .slice A1 l1.length c1, .agg #[.int .i64 q0, .int .i64 q1, .int .i64 q2]] W fun e w' => e = .returned (.bool true) ∧ Below W.heap.size W w' := by
  have hu41 := Try.underlying41
  have H0 := Lib.hid h0
  have H1 := Lib.hid h1
  have HC0 := Lib.hid hc0
  have HC1 := Lib.hid hc1
  clear h0 h1 hc0 hc1
  go_enter Try.func6, Try.ntmps6
  go_wp2_with fail
  have J5 := Lib.hid (blk_new W (.cells #[.int .i64 q0, .int .i64 q1, .int .i64 q2] 41))
  have KW := Lib.hid ((Keeps.refl [] W).alloc (.cells #[.int .i64 q0, .int .i64 q1, .int .i64 q2] 41))
  generalize W.alloc (.cells #[.int .i64 q0, .int .i64 q1, .int .i64 q2] 41) = w0 at J5 KW ⊢
  refine (awake_any _).mono ?_
  rintro e w1 ⟨rfl, B1⟩
  have K1 := Keeps.of_below (F := []) B1
  have j5 := Lib.hid (K1.blk J5.out (by simp))
  have kw := Lib.hid (KW.out.trans K1)
  have hC0 := Kd.C_below H0.out (kw.out.below (by simp) (Nat.le_refl _))
  clear J5 KW B1 K1
  have J5 := cell_blk j5.out 0
  go_wp2_with fail
  refine (set_any A0 c0 l0 q0 _ hC0 HC0.out).mono ?_
  rintro e w2 ⟨A2, c2, rfl, hc2, hC2, B2⟩
  have K1 := Keeps.of_below (F := []) B2
  have j5' := Lib.hid (K1.blk j5.out (by simp))
  have kw' := Lib.hid (kw.out.trans K1)
  have hC1 := Kd.C_below H1.out (kw'.out.below (by simp) (Nat.le_refl _))
  have hn := setT_length l0 q0
  obtain ⟨s, hs⟩ : ∃ s, s = setT l0 q0 := ⟨_, rfl⟩
  rw [← hs] at hc2 hC2 hn ⊢
  have hmay : mayB s = true := by rw [hs]; exact setT_may l0 q0
  have HMAY := Lib.hid hmay
  have HS := Lib.hid hs
  have HC2 := Lib.hid hC2
  have HCL2 := Lib.hid hc2
  clear J5 j5 kw B2 K1 hC0 hC2 hs hmay hc2
  go_wp2_with fail
  refine (few_any A1 c1 l1 _ hC1 HC1.out).mono ?_
  rintro e w3 ⟨A3, c3, rfl, hc3, hC3, B3⟩
  have K1 := Keeps.of_below (F := []) B3
  have j5 := Lib.hid (K1.blk j5'.out (by simp))
  have kw := Lib.hid (kw'.out.trans K1)
  have hC2 := Kd.C_below HC2.out B3
  have hr := fewR_length l1
  have hcut := fewR_cuts l1
  obtain ⟨raw, hraw⟩ : ∃ raw, raw = fewR l1 := ⟨_, rfl⟩
  rw [← hraw] at hc3 hC3 hr hcut ⊢
  have HRAW := Lib.hid hraw
  have HC2 := Lib.hid hC2
  have HCUT := Lib.hid hcut
  clear j5' kw' B3 K1 hC1 hC2 hcut hraw
  go_wp2_with fail
  refine (dec_anyg HS.out A2 c2 A3 c3 raw _ HC2.out HCL2.out hC3 hc3 HCUT.out).mono ?_
  rintro e w4 ⟨A4, c4, rfl, hc4, hC4, B4⟩
  have K1 := Keeps.of_below (F := []) B4
  have j5' := Lib.hid (K1.blk j5.out (by simp))
  have kw' := Lib.hid (kw.out.trans K1)
  have hC2 := Kd.C_below HC2.out B4
  have hC1 := Kd.C_below H1.out (kw'.out.below (by simp) (Nat.le_refl _))
  have hall : (decodeL s raw).length = raw.length := by rw [decodeL_tl HMAY.out (by omega), tl_length]
  have hleg := legal_decode HMAY.out raw (by omega)
  have hdc := decode_cuts HMAY.out raw hr
  have HC2 := Lib.hid hC2
  obtain ⟨all, ha⟩ : ∃ all, all = decodeL s raw := ⟨_, rfl⟩
  rw [← ha] at hc4 hC4 hall hleg hdc ⊢
  rw [hall] at hc4 hC4 ⊢
  have HC4 := Lib.hid hC4
  have HCL4 := Lib.hid hc4
  have HALL := Lib.hid hall
  have HLEG := Lib.hid hleg
  have HDC := Lib.hid hdc
  have HA := Lib.hid ha
  have HC1x := Lib.hid hC1
  have j0 := cell_blk j5'.out 0
  have j1 := cell_blk j5'.out 1
  have j2 := cell_blk j5'.out 2
  clear hC3 hc3 j5 kw B4 K1 hC2 hC4 hc4 hall hleg hdc ha hC1
  go_wp2_with fail
  go_region_held3 (fun w' => w'.cell? ⟨W.heap.size, 0, none⟩ = some (.int .i64 q0) ∧ w'.cell? ⟨W.heap.size, 1, none⟩ = some (.int .i64 q1) ∧ w'.cell? ⟨W.heap.size, 2, none⟩ = some (.int .i64 q2))
    (first | exact ⟨m0, m1, m2⟩ | exact ⟨n0, n1, n2⟩ | exact ⟨o0, o1, o2⟩ | go_keep)
    (first
      | (go_at_call 11
         refine (few_any A1 c1 l1 _ (Kd.C_drew HC1x.out) HC1.out).mono ?_
         rw [← HRAW.out]
         rintro e w5 ⟨A5, c5, rfl, hc5, hC5, B5⟩
         have K5 := Keeps.of_below (F := []) B5
         have hC2 := Kd.C_below (Kd.C_drew HC2.out) B5
         have hC4 := Kd.C_below (Kd.C_drew HC4.out) B5
         have j6 := K5.blk (show w4.drew.heap[W.heap.size]? = _ from j5'.out) (by simp)
         have kw6 := kw'.out.drew.trans K5
         have m0 : w5.cell? ⟨W.heap.size, 0, none⟩ = some (.int .i64 q0) := cell_blk j6 0
         have m1 : w5.cell? ⟨W.heap.size, 1, none⟩ = some (.int .i64 q1) := cell_blk j6 1
         have m2 : w5.cell? ⟨W.heap.size, 2, none⟩ = some (.int .i64 q2) := cell_blk j6 2
         have HC5 := Lib.hid hC5
         have HCL5 := Lib.hid hc5
         have HC2a := Lib.hid hC2
         have HC4a := Lib.hid hC4
         have J6 := Lib.hid j6
         have KW6 := Lib.hid kw6
         clear hc5 hC5 hC2 hC4 j6 kw6 K5 B5)
      | (go_at_call 15
         refine (refdec_anyg HS.out A2 c2 A5 c5 raw _ HC2a.out HCL2.out HC5.out HCL5.out HCUT.out).mono ?_
         rw [← HA.out, HALL.out]
         rintro e w6 ⟨A6, c6, rfl, hc6, hC6, B6⟩
         have K6 := Keeps.of_below (F := []) B6
         have hC2 := Kd.C_below HC2a.out B6
         have hC4 := Kd.C_below HC4a.out B6
         have j7 := K6.blk J6.out (by simp)
         have kw7 := KW6.out.trans K6
         have n0 : w6.cell? ⟨W.heap.size, 0, none⟩ = some (.int .i64 q0) := cell_blk j7 0
         have n1 : w6.cell? ⟨W.heap.size, 1, none⟩ = some (.int .i64 q1) := cell_blk j7 1
         have n2 : w6.cell? ⟨W.heap.size, 2, none⟩ = some (.int .i64 q2) := cell_blk j7 2
         have HC6 := Lib.hid hC6
         have HCL6 := Lib.hid hc6
         have HC2b := Lib.hid hC2
         have HC4b := Lib.hid hC4
         have J7 := Lib.hid j7
         have KW7 := Lib.hid kw7
         clear hc6 hC6 hC2 hC4 j7 kw7 K6 B6)
      | (go_at_call 18
         have ht := turned_any A6 c6 all q0 q1 (q2.tmod 20) w6 (by rw [HALL.out]; exact HC6.out) (by rw [HALL.out]; exact HCL6.out) (by rw [HALL.out]; omega) HDC.out
         rw [HALL.out, turnL_length, HALL.out] at ht
         refine ht.mono ?_
         clear ht
         rintro e w7 ⟨A7, c7, rfl, hc7, hC7, B7⟩
         have K7 := Keeps.of_below (F := []) B7
         have hC2 := Kd.C_below HC2b.out B7
         have hC4 := Kd.C_below HC4b.out B7
         have j8 := K7.blk J7.out (by simp)
         have kw8 := KW7.out.trans K7
         have o0 : w7.cell? ⟨W.heap.size, 0, none⟩ = some (.int .i64 q0) := cell_blk j8 0
         have o1 : w7.cell? ⟨W.heap.size, 1, none⟩ = some (.int .i64 q1) := cell_blk j8 1
         have o2 : w7.cell? ⟨W.heap.size, 2, none⟩ = some (.int .i64 q2) := cell_blk j8 2
         have HC7 := Lib.hid hC7
         have HCL7 := Lib.hid hc7
         have HC2c := Lib.hid hC2
         have HC4c := Lib.hid hC4
         have KW8 := Lib.hid kw8
         clear hc7 hC7 hC2 hC4 j8 kw8 K7 B7))
  go_wp2_with fail
  obtain ⟨g, hg⟩ : ∃ g, legalL s (turnL all q0 q1 (q2.tmod 20)) = g := ⟨_, rfl⟩
  have hxl : (turnL all q0 q1 (q2.tmod 20)).length = raw.length := by rw [turnL_length, HALL.out]
  generalize turnL all q0 q1 (q2.tmod 20) = x at hg hxl HC7
  have HG := Lib.hid hg
  have HXL := Lib.hid hxl
  clear hg hxl m0 m1 m2 n0 n1 n2 o0 o1 o2 j0 j1 j2 J6 J7 KW6 KW7 HC2a HC2b HC4a HC4b HC5 HC6 HCL5 HCL6
  have HC7c := HC7
  clear HC7
  have hq := Legal_anyg HS.out A2 c2 A4 c4 all _ HC2c.out HCL2.out (by rw [HALL.out]; exact HC4c.out) (by rw [HALL.out]; exact HCL4.out) HLEG.out
  rw [HALL.out] at hq
  refine hq.mono ?_
  clear hq
  rintro e w8 ⟨rfl, B8⟩
  have HC2d := Lib.hid (Kd.C_below HC2c.out B8)
  have HC4d := Lib.hid (Kd.C_below HC4c.out B8)
  have HC7d := Lib.hid (Kd.C_below HC7c.out B8)
  have KWd := Lib.hid (KW8.out.trans (Keeps.of_below (F := []) B8))
  clear B8 HC2c HC4c HC7c KW8
  go_wp2_with fail
  have hq := Legal_anyg HS.out A2 c2 A7 c7 x _ HC2d.out HCL2.out (by rw [HXL.out]; exact HC7d.out) (by rw [HXL.out]; exact HCL7.out) HG.out
  rw [HXL.out] at hq
  refine hq.mono ?_
  clear hq
  rintro e w9 ⟨rfl, B9⟩
  have HC2e := Lib.hid (Kd.C_below HC2d.out B9)
  have HC4e := Lib.hid (Kd.C_below HC4d.out B9)
  have HC7e := Lib.hid (Kd.C_below HC7d.out B9)
  have KWe := Lib.hid (KWd.out.trans (Keeps.of_below (F := []) B9))
  clear B9 HC2d HC4d HC7d KWd
  go_wp2_with fail
  have hq := refLegal_anyg HS.out A2 c2 A7 c7 x _ HC2e.out HCL2.out (by rw [HXL.out]; exact HC7e.out) (by rw [HXL.out]; exact HCL7.out) HG.out
  rw [HXL.out] at hq
  refine hq.mono ?_
  clear hq
  rintro e w10 ⟨rfl, B10⟩
  have HC2f := Lib.hid (Kd.C_below HC2e.out B10)
  have HC4f := Lib.hid (Kd.C_below HC4e.out B10)
  have HC7f := Lib.hid (Kd.C_below HC7e.out B10)
  have KWf := Lib.hid (KWe.out.trans (Keeps.of_below (F := []) B10))
  clear B10 HC2e HC4e HC7e KWe
  go_wp2_with fail
  have hq := Legal_anyg HS.out A2 c2 none 0 [] _ HC2f.out HCL2.out ⟨rfl, by simp, fun h => by simp at h⟩ (by simp) (legal_nil HMAY.out)
  refine hq.mono ?_
  clear hq
  rintro e w11 ⟨rfl, B11⟩
  have HC2g := Lib.hid (Kd.C_below HC2f.out B11)
  have HC4g := Lib.hid (Kd.C_below HC4f.out B11)
  have HC7g := Lib.hid (Kd.C_below HC7f.out B11)
  have KWg := Lib.hid (KWf.out.trans (Keeps.of_below (F := []) B11))
  clear B11 HC2f HC4f HC7f KWf
  go_wp2_with fail
  have hq := Legal_none none 0 ([] : List Jb) w11 ⟨rfl, by simp, fun h => by simp at h⟩ (by simp)
  refine hq.mono ?_
  clear hq
  rintro e w12 ⟨rfl, B12⟩
  have HC2h := Lib.hid (Kd.C_below HC2g.out B12)
  have HC4h := Lib.hid (Kd.C_below HC4g.out B12)
  have HC7h := Lib.hid (Kd.C_below HC7g.out B12)
  have KWh := Lib.hid (KWg.out.trans (Keeps.of_below (F := []) B12))
  clear B12 HC2g HC4g HC7g KWg
  go_wp2_with fail
  have hq := Legal_none A4 c4 all _ (by rw [HALL.out]; exact HC4h.out) (by rw [HALL.out]; exact HCL4.out)
  rw [HALL.out] at hq
  refine hq.mono ?_
  clear hq
  rintro e w13 ⟨rfl, B13⟩
  have HC2i := Lib.hid (Kd.C_below HC2h.out B13)
  have HC4i := Lib.hid (Kd.C_below HC4h.out B13)
  have HC7i := Lib.hid (Kd.C_below HC7h.out B13)
  have KWi := Lib.hid (KWh.out.trans (Keeps.of_below (F := []) B13))
  clear B13 HC2h HC4h HC7h KWh
  go_wp2
  go_ret
  exact ⟨by simp, KWi.out.below (by simp) (Nat.le_refl _)⟩
end Go.Proofs.Ytcdmgalhboijcaa.Sc
