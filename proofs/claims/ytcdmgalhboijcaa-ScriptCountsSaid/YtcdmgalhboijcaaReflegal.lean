/- The document's Legal, walked: it tells what the program's does. -/
import Derived.Test.YtcdmgalhboijcaaRefdec
import Derived.Test.YtcdmgalhboijcaaPlegal
import Derived.Deep.QuietTactic
import Derived.BigQuiet
set_option linter.unusedVariables false
set_option linter.unusedSimpArgs false
namespace Go.Proofs.Ytcdmgalhboijcaa.Sc
open Go.RowKit Go.Shelf Go.Maps Go.Proofs.YtcdmgalhboijcaaW.PrintWords Go.Proofs.YtcdmgalhboijcaaW.PrintMore
open Go.Proofs.Ytcdmgalhboijcaa.Pu Go.Proofs.Ytcdmgalhboijcaa.D

theorem last_q (A : Option Addr) (c n m : Nat) (out : List Jb) (t v : Int) (w : World) (hn : out.length = n) (hC : kJb.C w A n out) (hc : n ≤ c) (hl : n ≤ 4096) (hv : lastV out t = v) :
    Calls Try.prog 30 #[.slice A n c, .int .i64 t] (w.drewN m) fun e w' => e = .returned (.int .i64 v) ∧ ∃ q, w' = (w.drewN m).drewN q := by
  subst hn hv
  have h := cadencyref08_last.calls 4098 A c (out.map ofJ) t _ (w.drewN m) (by rw [List.length_map]; exact c_ofJ (Kd.C_drewN hC m)) (by rw [List.length_map]; exact hc) (last_some (out.map ofJ) t (by rw [List.length_map]; exact hl) 4098 (Nat.le_refl _))
  rw [List.length_map] at h
  exact h.mono fun e w' ⟨h1, h2⟩ => ⟨by simpa only [lastV, List.length_map] using h1, h2.out⟩
theorem jobOk_false {l : List Tsk} {pre : List Jb} {j : Jb} (hs : 0 ≤ soon l pre j.task) (h : j.arrive < 0 ∨ 17592186044416 < j.arrive ∨ j.arrive < soon l pre j.task ∨ j.release < j.arrive ∨ j.arrive + (tsk l j.task).j < j.release ∨ j.work < 1 ∨ (tsk l j.task).c < j.work) : jobOk l pre j = false := by
  cases hj : jobOk l pre j
  · rfl
  · have hb := jobOk_true hj
    obtain ⟨t0, t1, a0, a1, r0, r1, w0, w1, cs⟩ := hb
    omega
theorem jobOk_cuts {l : List Tsk} {pre : List Jb} {j : Jb} (ht : taskOk l j = true) (h1 : soon l pre j.task ≤ j.arrive) (h2 : j.arrive ≤ 17592186044416) (h3 : j.arrive ≤ j.release) (h4 : j.release ≤ j.arrive + (tsk l j.task).j) (h5 : 1 ≤ j.work) (h6 : j.work ≤ (tsk l j.task).c) : jobOk l pre j = cutsOk (tsk l j.task).q j.cuts j.work := by
  unfold jobOk
  rw [ht, withinB_mk h1 h2, withinB_mk h3 h4, withinB_mk h5 h6]
  simp
theorem lt_of_get' {α : Type} {xs : List α} {i : Nat} {x : α} (h : xs[i]? = some x) : i < xs.length := by
  rcases Nat.lt_or_ge i xs.length with h' | h'
  · exact h'
  · rw [List.getElem?_eq_none h'] at h; cases h
theorem ways7 (a b c d e f g : Bool) : (a = true) ∨ (a = false ∧ b = true) ∨ (a = false ∧ b = false ∧ c = true) ∨ (a = false ∧ b = false ∧ c = false ∧ d = true) ∨ (a = false ∧ b = false ∧ c = false ∧ d = false ∧ e = true) ∨ (a = false ∧ b = false ∧ c = false ∧ d = false ∧ e = false ∧ f = true) ∨ (a = false ∧ b = false ∧ c = false ∧ d = false ∧ e = false ∧ f = false ∧ g = true) ∨ (a = false ∧ b = false ∧ c = false ∧ d = false ∧ e = false ∧ f = false ∧ g = false) := by
  cases a <;> cases b <;> cases c <;> cases d <;> cases e <;> cases f <;> cases g <;> simp
theorem ways3 (a b c : Bool) : (a = true) ∨ (a = false ∧ b = true) ∨ (a = false ∧ b = false ∧ c = true) ∨ (a = false ∧ b = false ∧ c = false) := by
  cases a <;> cases b <;> cases c <;> simp

set_option maxRecDepth 100000 in
set_option maxHeartbeats 8000000 in
theorem refLegal_any (A0 : Option Addr) (c0 : Nat) (l : List Tsk) (A1 : Option Addr) (c1 : Nat) (jobs : List Jb) (w : World) (hsz : ∀ x ∈ l, x.nm.size ≤ maxLen)
    (h0 : kTsk.C w A0 l.length l) (hc0 : l.length ≤ c0) (h1 : kJb.C w A1 jobs.length jobs) (hc1 : jobs.length ≤ c1) :
    Calls Try.prog 20 #[.slice A0 l.length c0, .slice A1 jobs.length c1] w fun e w' => e = .returned (.bool (legalL l jobs)) ∧ Below w.heap.size w w' := by
  have H0 := Lib.hid h0
  have H1 := Lib.hid h1
  have HSZ := Lib.hid hsz
  have hm1 : jobs.length ≤ 9223372036854775807 := h1.2.1
  have hfd60 : ∀ (x y : Int) (W : World), (Instr.field 60 (.agg #[.int .i64 x, .int .i64 y]) 1).run Try.prog W = .ok (.int .i64 y) W := fun _ _ _ => by kernel_rfl
  clear h0 h1 hsz
  go_enter Try.func20, Try.ntmps20
  go_wp2_with fail
  refine (refCheckAll_any A0 c0 l _ H0.out hc0 HSZ.out).mono ?_
  rintro e w1 ⟨rfl, hB1⟩
  cases hmay : mayB l
  · have hd : legalL l jobs = false := by unfold legalL; simp [hmay]
    have hz : ((checkAllL l).2 != 0) = true := by unfold mayB at hmay; simpa using hmay
    have HD := Lib.hid hd
    have HB := Lib.hid hB1
    clear hd hB1
    go_wp2
    go_ret
    exact ⟨by rw [HD.out]; rfl, HB.out⟩
  · have hz : ((checkAllL l).2 != 0) = false := by unfold mayB at hmay; simpa using hmay
    by_cases hmany : 4096 < jobs.length
    · have hd : legalL l jobs = false := by unfold legalL; simp; omega
      have HD := Lib.hid hd
      have HB := Lib.hid hB1
      have h4 : (4096 : Int) < (jobs.length : Int) := by omega
      clear hd hB1
      go_wp2
      go_ret
      exact ⟨by rw [HD.out]; rfl, HB.out⟩
    · have hd : legalL l jobs = legalFrom l [] jobs := by unfold legalL; simp [hmay]; omega
      have HD := Lib.hid hd
      have hf := may_fine hmay
      obtain ⟨hl1, hl2, hfine⟩ := hf
      have HFINE := Lib.hid hfine
      have h4 : decide ((4096 : Int) < (jobs.length : Int)) = false := decide_eq_false (by omega)
      have h4' : decide (4096 < jobs.length) = false := decide_eq_false (by omega)
      have hn4 : jobs.length ≤ 4096 := by omega
      have HB1 := Lib.hid hB1
      clear hd hmay hfine HSZ hmany hB1
      go_wp2_with fail
      clear hz hfd60
      go_loopg [5] (jobs.length) (fun gh iv wr => ∃ (i : Nat) (pre : List Jb), jobs.length - i ≤ gh ∧ iv = .int .i64 i ∧ i ≤ jobs.length ∧ pre = jobs.take i ∧ legalFrom l [] jobs = legalFrom l pre (jobs.drop i) ∧ SoonB l pre ∧ Below w.heap.size w wr)
      case atStart => exact ⟨0, [], by omega, rfl, by omega, by simp, by simp, soonB_nil l, HB1.out⟩
      case round =>
        clear HB1
        obtain ⟨wq, hwq⟩ : ∃ wq, wq = wr := ⟨_, rfl⟩
        subst hwq
        obtain ⟨i, pre, hgh, rfl, hin, hpre, hall, hsoon, hB⟩ := hrel
        have hpl : pre.length = i := by rw [hpre]; simp; omega
        have hT := Kd.C_below H0.out hB
        have hW := Kd.C_below H1.out hB
        have HALL := Lib.hid hall
        have HSO := Lib.hid hsoon
        have HB := Lib.hid hB
        have HT := Lib.hid hT
        have HW := Lib.hid hW
        have HPRE := Lib.hid hpre
        have HPL := Lib.hid hpl
        clear hall hsoon hB hT hW hpre hpl
        by_cases hlt : i < jobs.length
        · obtain ⟨j, hj⟩ : ∃ j, jobs[i]? = some j := ⟨jobs[i]'(by omega), by simp⟩
          rcases c_addr HW.out (by decide) with he | ⟨b1, o1, ha1⟩
          · rw [he] at hj; simp at hj
          subst ha1
          obtain ⟨cs, hK, hcell⟩ := c_cells HW.out i j hj
          obtain ⟨A4, c4, rfl, hl4, hC4⟩ := kJb_open hK
          have r0 : wq.cell? ⟨b1, o1 + i * 5, none⟩ = some (.int .i64 j.task) := hcell 0 _ rfl
          have r1 : wq.cell? ⟨b1, o1 + i * 5 + 1, none⟩ = some (.int .i64 j.arrive) := hcell 1 _ rfl
          have r2 : wq.cell? ⟨b1, o1 + i * 5 + 2, none⟩ = some (.int .i64 j.release) := hcell 2 _ rfl
          have r3 : wq.cell? ⟨b1, o1 + i * 5 + 3, none⟩ = some (.int .i64 j.work) := hcell 3 _ rfl
          have r4 : wq.cell? ⟨b1, o1 + i * 5 + 4, none⟩ = some (.slice A4 j.cuts.length c4) := hcell 4 _ rfl
          have HC4 := Lib.hid hC4
          have hmc : j.cuts.length ≤ 9223372036854775807 := hC4.2.1
          have HJ := Lib.hid hj
          have hlt' : (i : Int) < (jobs.length : Int) := by omega
          have e1 : jobs.drop i = j :: jobs.drop (i + 1) := by
            rw [List.drop_eq_getElem_cons hlt]
            rw [List.getElem?_eq_getElem hlt] at hj
            injection hj with hj
            rw [hj]
          have hall2 := HALL.out
          rw [e1, legalFrom] at hall2
          have HALL2 := Lib.hid hall2
          clear hcell hK hC4 hj e1 hall2 HALL
          obtain ⟨go, hgo⟩ : ∃ g, taskOk l j = g := ⟨_, rfl⟩
          cases go
          · have hno : jobOk l pre j = false := by unfold jobOk; rw [hgo]; rfl
            have HNO := Lib.hid (show legalL l jobs = false by rw [HD.out, HALL2.out, hno]; rfl)
            unfold taskOk at hgo
            have HGO := Lib.hid hgo
            clear hno hgo
            by_cases hneg : j.task < 0
            · clear HGO
              go_wp2
              go_ret
              exact ⟨by rw [HNO.out]; rfl, HB.out.alloc HB.out.size _⟩
            · have hge : decide ((l.length : Int) ≤ j.task) = true := by have := HGO.out; simp at this; simp; omega
              go_wp2
              go_ret
              exact ⟨by rw [HNO.out]; rfl, HB.out.alloc HB.out.size _⟩
          · have htk := taskOk_true hgo
            have HGO := Lib.hid hgo
            obtain ⟨k, hke⟩ : ∃ k : Nat, j.task = (k : Int) := Int.eq_ofNat_of_zero_le htk.1
            have hkl : k < l.length := by omega
            have htm := tsk_mem htk.1 htk.2
            obtain ⟨t, hte⟩ : ∃ t, tsk l j.task = t := ⟨_, rfl⟩
            rw [hte] at htm
            rcases c_addr HT.out (by decide) with he | ⟨b0, o0, ha0⟩
            · rw [he] at hl1; simp at hl1
            subst ha0
            obtain ⟨cs, hK, hcell0⟩ := c_cells HT.out k t (by have := htm.2; rwa [hke] at this)
            rw [kTsk_open hK] at hcell0
            have t0 : wq.cell? ⟨b0, o0 + k * 7, none⟩ = some (.string t.nm) := hcell0 0 _ rfl
            have t1 : wq.cell? ⟨b0, o0 + k * 7 + 1, none⟩ = some (.int .i64 t.c) := hcell0 1 _ rfl
            have t2 : wq.cell? ⟨b0, o0 + k * 7 + 2, none⟩ = some (.int .i64 t.t) := hcell0 2 _ rfl
            have t3 : wq.cell? ⟨b0, o0 + k * 7 + 3, none⟩ = some (.int .i64 t.d) := hcell0 3 _ rfl
            have t4 : wq.cell? ⟨b0, o0 + k * 7 + 4, none⟩ = some (.int .i64 t.j) := hcell0 4 _ rfl
            have t5 : wq.cell? ⟨b0, o0 + k * 7 + 5, none⟩ = some (.int .i64 t.q) := hcell0 5 _ rfl
            have t6 : wq.cell? ⟨b0, o0 + k * 7 + 6, none⟩ = some (.int .i64 t.p) := hcell0 6 _ rfl
            have HF := Lib.hid (HFINE.out t htm.1)
            have HTE := Lib.hid hte
            have hb0l : b0 < wq.heap.size := World.block_lt_of_cell? _ _ t0
            have hb1l : b1 < wq.heap.size := World.block_lt_of_cell? _ _ r0
            have hkl' : (k : Int) < (l.length : Int) := by omega
            have hknn : ¬ ((k : Int) < 0) := by omega
            have HKE := Lib.hid hke
            rw [hke] at r0
            obtain ⟨sn, hsn⟩ : ∃ sn, soon l pre j.task = sn := ⟨_, rfl⟩
            have hsb := HSO.out j.task
            have hla := soon_lastV l j.task pre
            rw [hsn] at hsb hla
            rw [hte] at hla
            obtain ⟨hs0, hs1⟩ := hsb
            have HLA := Lib.hid hla
            have HSN := Lib.hid hsn
            have hic : (i : Int) ≤ (c1 : Int) := by omega
            clear htk htm hte hcell0 hK hgo hke hsn hla
            go_wp2_with fail
            have J10 := Lib.hid (blk_alloc (blk_new wq (.cells #[.int .i64 k, .int .i64 j.arrive, .int .i64 j.release, .int .i64 j.work, .slice A4 j.cuts.length c4] 39)) (.cells #[.string t.nm, .int .i64 t.c, .int .i64 t.t, .int .i64 t.d, .int .i64 t.j, .int .i64 t.q, .int .i64 t.p] 46))
            have J11 := Lib.hid (blk_new1 wq (.cells #[.int .i64 k, .int .i64 j.arrive, .int .i64 j.release, .int .i64 j.work, .slice A4 j.cuts.length c4] 39) (.cells #[.string t.nm, .int .i64 t.c, .int .i64 t.t, .int .i64 t.d, .int .i64 t.j, .int .i64 t.q, .int .i64 t.p] 46))
            have KW := Lib.hid (((Keeps.refl [] wq).alloc (.cells #[.int .i64 k, .int .i64 j.arrive, .int .i64 j.release, .int .i64 j.work, .slice A4 j.cuts.length c4] 39)).alloc (.cells #[.string t.nm, .int .i64 t.c, .int .i64 t.t, .int .i64 t.d, .int .i64 t.j, .int .i64 t.q, .int .i64 t.p] 46))
            clear r0 r1 r2 r3 r4 t0 t1 t2 t3 t4 t5 t6
            generalize ((wq.alloc (.cells #[.int .i64 k, .int .i64 j.arrive, .int .i64 j.release, .int .i64 j.work, .slice A4 j.cuts.length c4] 39)).alloc (.cells #[.string t.nm, .int .i64 t.c, .int .i64 t.t, .int .i64 t.d, .int .i64 t.j, .int .i64 t.q, .int .i64 t.p] 46)) = W1 at J10 J11 KW ⊢
            obtain ⟨lv, hlv⟩ : ∃ v, lastV pre j.task = v := ⟨_, rfl⟩
            have HLV := Lib.hid (show lastV pre (k : Int) = lv from by rw [← HKE.out]; exact hlv)
            have HLA2 := HLA.out
            rw [hlv] at HLA2
            have HLA3 := Lib.hid HLA2
            have hCp := Kd.C_below (Kd.C_take HW.out hin) (KW.out.below (by simp) (Nat.le_refl _))
            rw [← HPRE.out, HPL.out] at hCp
            have HCP := Lib.hid hCp
            have j0 := cell_blk J10.out 0
            clear hlv HLA HLA2 hCp
            have hi0 : (0 : Int) ≤ (i : Int) := by omega
            have hi1 : (i : Int) ≤ (jobs.length : Int) := by omega
            go_quiet ((go_at_call 30; exact Calls.quiet_of (last_q _ c1 i _ pre _ lv _ HPL.out HCP.out (by omega) (by omega) HLV.out)))
            have k2 : Keeps [] W1 (W1.drewN nq) := (Keeps.refl _ _).drewN nq
            have J10b := Lib.hid (k2.blk J10.out (by simp))
            have J11b := Lib.hid (k2.blk J11.out (by simp))
            have KW2 := Lib.hid (KW.out.trans k2)
            clear j0 J10 J11 KW HCP k2
            generalize W1.drewN nq = W2 at J10b J11b KW2 ⊢
            go_wp2_with fail
            have fj0 := HF.out.j0
            have fj1 := HF.out.j1
            have fc0 := HF.out.c0
            have fc1 := HF.out.c1
            have fq0 := HF.out.q0
            have fq1 := HF.out.q1
            have ft0 := HF.out.t0
            have ft1 := HF.out.t1
            have hBq := below_keeps HB.out KW2.out (by simp) HB.out.size
            have HBQ := Lib.hid hBq
            clear hBq
            have j1 := cell_blk J10b.out 1
            have j2 := cell_blk J10b.out 2
            have j3 := cell_blk J10b.out 3
            have t1 := cell_blk J11b.out 1
            have t2 := cell_blk J11b.out 2
            have t4 := cell_blk J11b.out 4
            have hnoj : (j.arrive < 0 ∨ 17592186044416 < j.arrive ∨ j.arrive < sn ∨ j.release < j.arrive ∨ j.arrive + t.j < j.release ∨ j.work < 1 ∨ t.c < j.work) → legalL l jobs = false := fun h => by
              rw [HD.out, HALL2.out, jobOk_false (by rw [HSN.out]; exact hs0) (by rw [HSN.out, HTE.out]; exact h)]
              rfl
            have HNOJ := Lib.hid hnoj
            clear hnoj
            rcases ways7 (decide (j.arrive < 0)) (decide (17592186044416 < j.arrive)) (decide (j.arrive < sn)) (decide (j.release < j.arrive)) (decide (j.arrive + t.j < j.release)) (decide (j.work < 1)) (decide (t.c < j.work)) with d1 | ⟨d1, d2⟩ | ⟨d1, d2, d3⟩ | ⟨d1, d2, d3, d4⟩ | ⟨d1, d2, d3, d4, d5⟩ | ⟨d1, d2, d3, d4, d5, d6⟩ | ⟨d1, d2, d3, d4, d5, d6, d7⟩ | ⟨d1, d2, d3, d4, d5, d6, d7⟩
            · -- way 1
              have HNO := Lib.hid (HNOJ.out (by simp only [decide_eq_true_eq, decide_eq_false_iff_not] at *; omega))
              go_quiet (fail)
              go_wp2
              go_ret
              exact ⟨by rw [HNO.out]; rfl, pw_below_drewN HBQ.out _⟩
            · -- way 2
              have HNO := Lib.hid (HNOJ.out (by simp only [decide_eq_true_eq, decide_eq_false_iff_not] at *; omega))
              go_quiet (fail)
              go_wp2
              go_ret
              exact ⟨by rw [HNO.out]; rfl, pw_below_drewN HBQ.out _⟩
            · -- way 3
              have HNO := Lib.hid (HNOJ.out (by simp only [decide_eq_true_eq, decide_eq_false_iff_not] at *; omega))
              have ub2 : j.arrive ≤ 17592186044416 := by simp only [decide_eq_false_iff_not] at d2; omega
              have ub1 : 0 ≤ j.arrive := by simp only [decide_eq_false_iff_not] at d1; omega
              have HLAq := HLA3.out
              rcases HLAq with ⟨hl, hse⟩ | ⟨p, y, hl, hy, hse⟩
              · exfalso; simp only [decide_eq_true_eq, decide_eq_false_iff_not] at *; omega
              · subst hl
                have hpl : p < i := by have h := lt_of_get' hy; have := HPL.out; omega
                have hyj : jobs[p]? = some y := by rw [HPRE.out, List.getElem?_take] at hy; simpa [hpl] using hy
                obtain ⟨cs5, hK5, hcell5⟩ := c_cells (Kd.C_below HW.out (KW2.out.below (by simp) (Nat.le_refl _))) p y hyj
                obtain ⟨A5, c5, rfl, _, _⟩ := kJb_open hK5
                have y1 : W2.cell? ⟨b1, o1 + p * 5 + 1, none⟩ = some (.int .i64 y.arrive) := hcell5 1 _ rfl
                have hp1 : (p : Int) < (jobs.length : Int) := by omega
                have hws : IntKind.i64.wrap (y.arrive + t.t) = sn := by rw [← hse]; exact IntWalk.i64_in _ (by omega)
                have hwt : y.arrive + t.t = sn := hse.symm
                clear hK5 hcell5 hyj hpl hse hy HLA3
                go_quiet (fail)
                go_wp2
                go_ret
                exact ⟨by rw [HNO.out]; rfl, pw_below_drewN HBQ.out _⟩
            · -- way 4
              have HNO := Lib.hid (HNOJ.out (by simp only [decide_eq_true_eq, decide_eq_false_iff_not] at *; omega))
              have ub2 : j.arrive ≤ 17592186044416 := by simp only [decide_eq_false_iff_not] at d2; omega
              have ub1 : 0 ≤ j.arrive := by simp only [decide_eq_false_iff_not] at d1; omega
              have HLAq := HLA3.out
              rcases HLAq with ⟨hl, hse⟩ | ⟨p, y, hl, hy, hse⟩
              · subst hl
                clear hse HLA3
                go_quiet (fail)
                go_wp2
                go_ret
                exact ⟨by rw [HNO.out]; rfl, pw_below_drewN HBQ.out _⟩
              · subst hl
                have hpl : p < i := by have h := lt_of_get' hy; have := HPL.out; omega
                have hyj : jobs[p]? = some y := by rw [HPRE.out, List.getElem?_take] at hy; simpa [hpl] using hy
                obtain ⟨cs5, hK5, hcell5⟩ := c_cells (Kd.C_below HW.out (KW2.out.below (by simp) (Nat.le_refl _))) p y hyj
                obtain ⟨A5, c5, rfl, _, _⟩ := kJb_open hK5
                have y1 : W2.cell? ⟨b1, o1 + p * 5 + 1, none⟩ = some (.int .i64 y.arrive) := hcell5 1 _ rfl
                have hp1 : (p : Int) < (jobs.length : Int) := by omega
                have hws : IntKind.i64.wrap (y.arrive + t.t) = sn := by rw [← hse]; exact IntWalk.i64_in _ (by omega)
                have hwt : y.arrive + t.t = sn := hse.symm
                clear hK5 hcell5 hyj hpl hse hy HLA3
                go_quiet (fail)
                go_wp2
                go_ret
                exact ⟨by rw [HNO.out]; rfl, pw_below_drewN HBQ.out _⟩
            · -- way 5
              have HNO := Lib.hid (HNOJ.out (by simp only [decide_eq_true_eq, decide_eq_false_iff_not] at *; omega))
              have ub2 : j.arrive ≤ 17592186044416 := by simp only [decide_eq_false_iff_not] at d2; omega
              have ub1 : 0 ≤ j.arrive := by simp only [decide_eq_false_iff_not] at d1; omega
              have HLAq := HLA3.out
              rcases HLAq with ⟨hl, hse⟩ | ⟨p, y, hl, hy, hse⟩
              · subst hl
                clear hse HLA3
                have hwj : IntKind.i64.wrap (j.arrive + t.j) = j.arrive + t.j := IntWalk.i64_in _ (by omega)
                go_quiet (fail)
                go_wp2
                go_ret
                exact ⟨by rw [HNO.out]; rfl, pw_below_drewN HBQ.out _⟩
              · subst hl
                have hpl : p < i := by have h := lt_of_get' hy; have := HPL.out; omega
                have hyj : jobs[p]? = some y := by rw [HPRE.out, List.getElem?_take] at hy; simpa [hpl] using hy
                obtain ⟨cs5, hK5, hcell5⟩ := c_cells (Kd.C_below HW.out (KW2.out.below (by simp) (Nat.le_refl _))) p y hyj
                obtain ⟨A5, c5, rfl, _, _⟩ := kJb_open hK5
                have y1 : W2.cell? ⟨b1, o1 + p * 5 + 1, none⟩ = some (.int .i64 y.arrive) := hcell5 1 _ rfl
                have hp1 : (p : Int) < (jobs.length : Int) := by omega
                have hws : IntKind.i64.wrap (y.arrive + t.t) = sn := by rw [← hse]; exact IntWalk.i64_in _ (by omega)
                have hwt : y.arrive + t.t = sn := hse.symm
                clear hK5 hcell5 hyj hpl hse hy HLA3
                have hwj : IntKind.i64.wrap (j.arrive + t.j) = j.arrive + t.j := IntWalk.i64_in _ (by omega)
                go_quiet (fail)
                go_wp2
                go_ret
                exact ⟨by rw [HNO.out]; rfl, pw_below_drewN HBQ.out _⟩
            · -- way 6
              have HNO := Lib.hid (HNOJ.out (by simp only [decide_eq_true_eq, decide_eq_false_iff_not] at *; omega))
              have ub2 : j.arrive ≤ 17592186044416 := by simp only [decide_eq_false_iff_not] at d2; omega
              have ub1 : 0 ≤ j.arrive := by simp only [decide_eq_false_iff_not] at d1; omega
              have HLAq := HLA3.out
              rcases HLAq with ⟨hl, hse⟩ | ⟨p, y, hl, hy, hse⟩
              · subst hl
                clear hse HLA3
                have hwj : IntKind.i64.wrap (j.arrive + t.j) = j.arrive + t.j := IntWalk.i64_in _ (by omega)
                go_quiet (fail)
                go_wp2
                go_ret
                exact ⟨by rw [HNO.out]; rfl, pw_below_drewN HBQ.out _⟩
              · subst hl
                have hpl : p < i := by have h := lt_of_get' hy; have := HPL.out; omega
                have hyj : jobs[p]? = some y := by rw [HPRE.out, List.getElem?_take] at hy; simpa [hpl] using hy
                obtain ⟨cs5, hK5, hcell5⟩ := c_cells (Kd.C_below HW.out (KW2.out.below (by simp) (Nat.le_refl _))) p y hyj
                obtain ⟨A5, c5, rfl, _, _⟩ := kJb_open hK5
                have y1 : W2.cell? ⟨b1, o1 + p * 5 + 1, none⟩ = some (.int .i64 y.arrive) := hcell5 1 _ rfl
                have hp1 : (p : Int) < (jobs.length : Int) := by omega
                have hws : IntKind.i64.wrap (y.arrive + t.t) = sn := by rw [← hse]; exact IntWalk.i64_in _ (by omega)
                have hwt : y.arrive + t.t = sn := hse.symm
                clear hK5 hcell5 hyj hpl hse hy HLA3
                have hwj : IntKind.i64.wrap (j.arrive + t.j) = j.arrive + t.j := IntWalk.i64_in _ (by omega)
                go_quiet (fail)
                go_wp2
                go_ret
                exact ⟨by rw [HNO.out]; rfl, pw_below_drewN HBQ.out _⟩
            · -- way 7
              have HNO := Lib.hid (HNOJ.out (by simp only [decide_eq_true_eq, decide_eq_false_iff_not] at *; omega))
              have ub2 : j.arrive ≤ 17592186044416 := by simp only [decide_eq_false_iff_not] at d2; omega
              have ub1 : 0 ≤ j.arrive := by simp only [decide_eq_false_iff_not] at d1; omega
              have HLAq := HLA3.out
              rcases HLAq with ⟨hl, hse⟩ | ⟨p, y, hl, hy, hse⟩
              · subst hl
                clear hse HLA3
                have hwj : IntKind.i64.wrap (j.arrive + t.j) = j.arrive + t.j := IntWalk.i64_in _ (by omega)
                go_quiet (fail)
                go_wp2
                go_ret
                exact ⟨by rw [HNO.out]; rfl, pw_below_drewN HBQ.out _⟩
              · subst hl
                have hpl : p < i := by have h := lt_of_get' hy; have := HPL.out; omega
                have hyj : jobs[p]? = some y := by rw [HPRE.out, List.getElem?_take] at hy; simpa [hpl] using hy
                obtain ⟨cs5, hK5, hcell5⟩ := c_cells (Kd.C_below HW.out (KW2.out.below (by simp) (Nat.le_refl _))) p y hyj
                obtain ⟨A5, c5, rfl, _, _⟩ := kJb_open hK5
                have y1 : W2.cell? ⟨b1, o1 + p * 5 + 1, none⟩ = some (.int .i64 y.arrive) := hcell5 1 _ rfl
                have hp1 : (p : Int) < (jobs.length : Int) := by omega
                have hws : IntKind.i64.wrap (y.arrive + t.t) = sn := by rw [← hse]; exact IntWalk.i64_in _ (by omega)
                have hwt : y.arrive + t.t = sn := hse.symm
                clear hK5 hcell5 hyj hpl hse hy HLA3
                have hwj : IntKind.i64.wrap (j.arrive + t.j) = j.arrive + t.j := IntWalk.i64_in _ (by omega)
                go_quiet (fail)
                go_wp2
                go_ret
                exact ⟨by rw [HNO.out]; rfl, pw_below_drewN HBQ.out _⟩
            · -- way 8
              have ub2 : j.arrive ≤ 17592186044416 := by simp only [decide_eq_false_iff_not] at d2; omega
              have ub1 : 0 ≤ j.arrive := by simp only [decide_eq_false_iff_not] at d1; omega
              have HLAq := HLA3.out
              rcases HLAq with ⟨hl, hse⟩ | ⟨p, y, hl, hy, hse⟩
              · subst hl
                clear hse HLA3
                have hwj : IntKind.i64.wrap (j.arrive + t.j) = j.arrive + t.j := IntWalk.i64_in _ (by omega)
                go_quiet (fail)
                simp only [decide_eq_false_iff_not] at d3 d4 d5 d6 d7
                have hjc : jobOk l pre j = cutsOk t.q j.cuts j.work := by
                  have h := jobOk_cuts HGO.out (by rw [HSN.out]; omega) (by omega) (by omega) (by rw [HTE.out]; omega) (by omega) (by rw [HTE.out]; omega)
                  rwa [HTE.out] at h
                have HJC := Lib.hid hjc
                have k3 : Keeps [] W2 (W2.drewN nq) := (Keeps.refl _ _).drewN nq
                have J10c := Lib.hid (k3.blk J10b.out (by simp))
                have J11c := Lib.hid (k3.blk J11b.out (by simp))
                have KW3 := Lib.hid (KW2.out.trans k3)
                have hw1 : j.work ≤ t.c := by omega
                have hw0 : 1 ≤ j.work := by omega
                have HC41 := Lib.hid (Kd.C_below HC4.out (KW3.out.below (by simp) (Nat.le_refl _)))
                clear j1 j2 j3 t1 t2 t4 J10b J11b KW2 hwj d1 d2
                generalize W2.drewN nq = W3 at J10c J11c KW3 HC41 ⊢
                have j3 := cell_blk J10c.out 3
                go_wp2_with fail
                clear j3
                go_loopg [10, 9] (j.cuts.length) (fun gh av lv wr2 => ∃ (a : Nat) (left : Int), j.cuts.length - a ≤ gh ∧ av = .int .i64 a ∧ lv = .int .i64 left ∧ a ≤ j.cuts.length ∧ 0 ≤ left ∧ left ≤ t.c ∧ cutsOk t.q j.cuts j.work = cutsOk t.q (j.cuts.drop a) left ∧ Keeps [] W3 wr2)
                case atStart => exact ⟨0, j.work, by omega, rfl, rfl, by omega, by omega, by omega, by simp, Keeps.refl _ _⟩
                case round =>
                  obtain ⟨a, left, hgh2, rfl, rfl, hal, hlf0, hlf1, hcu, K2⟩ := hrel
                  have J10d := Lib.hid (K2.blk J10c.out (by simp))
                  have J11d := Lib.hid (K2.blk J11c.out (by simp))
                  have HC42 := Lib.hid (Kd.C_below HC41.out (K2.below (by simp) (Nat.le_refl _)))
                  have KW4 := Lib.hid (KW3.out.trans K2)
                  have HB6 := Lib.hid (below_keeps HB.out KW4.out (by simp) HB.out.size)
                  have HCU := Lib.hid hcu
                  have K3 := Lib.hid K2
                  clear hcu K2 HC41 J10c J11c KW3
                  have j4 := cell_blk J10d.out 4
                  by_cases hac : a < j.cuts.length
                  · obtain ⟨c, hc⟩ : ∃ c, j.cuts[a]? = some c := ⟨j.cuts[a], by simp [hac]⟩
                    obtain ⟨ad, had, hcell⟩ := at_int HC42.out a c hc
                    subst had
                    have hac' : (a : Int) < (j.cuts.length : Int) := by omega
                    have e1 : j.cuts.drop a = c :: j.cuts.drop (a + 1) := by
                      rw [List.drop_eq_getElem_cons hac]
                      rw [List.getElem?_eq_getElem hac] at hc
                      injection hc with hc
                      rw [hc]
                    have hcu := HCU.out
                    rw [e1, cutsOk] at hcu
                    have HCU2 := Lib.hid hcu
                    have t5 := cell_blk J11d.out 5
                    have hnoc : (c < 1 ∨ t.q < c ∨ left < c) → legalL l jobs = false := fun h => by
                      have hw : withinB c 1 (min t.q left) = false := by
                        cases hw : withinB c 1 (min t.q left)
                        · rfl
                        · have := withinB_true hw; omega
                      rw [HD.out, HALL2.out, HJC.out, HCU2.out, hw]
                      rfl
                    have HNOC := Lib.hid hnoc
                    clear hcu e1 hnoc HCU hc
                    rcases ways3 (decide (c < 1)) (decide (t.q < c)) (decide (left < c)) with d8 | ⟨d8, d9⟩ | ⟨d8, d9, da⟩ | ⟨d8, d9, da⟩
                    · have HNO := Lib.hid (HNOC.out (by simp only [decide_eq_true_eq, decide_eq_false_iff_not] at *; omega))
                      go_wp2_with fail
                      go_quiet (fail)
                      go_wp2
                      go_ret
                      exact ⟨by rw [HNO.out]; rfl, pw_below_drewN HB6.out _⟩
                    · have HNO := Lib.hid (HNOC.out (by simp only [decide_eq_true_eq, decide_eq_false_iff_not] at *; omega))
                      go_wp2_with fail
                      go_quiet (fail)
                      go_wp2
                      go_ret
                      exact ⟨by rw [HNO.out]; rfl, pw_below_drewN HB6.out _⟩
                    · have HNO := Lib.hid (HNOC.out (by simp only [decide_eq_true_eq, decide_eq_false_iff_not] at *; omega))
                      go_wp2_with fail
                      go_quiet (fail)
                      go_wp2
                      go_ret
                      exact ⟨by rw [HNO.out]; rfl, pw_below_drewN HB6.out _⟩
                    · have hd8 : ¬ c < 1 := by simpa using d8
                      have hd9 : ¬ t.q < c := by simpa using d9
                      have hda : ¬ left < c := by simpa using da
                      have hwt : withinB c 1 (min t.q left) = true := withinB_mk (by omega) (by omega)
                      have HWT := Lib.hid hwt
                      clear hwt
                      go_wp2_with fail
                      go_quiet (fail)
                      have k5 : Keeps [] wr (wr.drewN nq) := (Keeps.refl _ _).drewN nq
                      have j4' := cell_blk (k5.blk J10d.out (by simp)) 4
                      have K5 := Lib.hid (K3.out.trans k5)
                      have hcell' : (wr.drewN nq).cell? (ad.add a) = some (.int .i64 c) := hcell
                      clear k5 j4 t5 hcell
                      go_wp2_with fail
                      go_roundg (j.cuts.length - (a + 1))
                      case rel => exact ⟨a + 1, left - c, Nat.le_refl _, by go_num, rfl, by omega, by omega, by omega, by rw [HCU2.out, HWT.out, Bool.true_and], K5.out⟩
                      case measure => omega
                  · obtain rfl : a = j.cuts.length := by omega
                    have hac2 : decide (j.cuts.length < j.cuts.length) = false := decide_eq_false hac
                    have hac3 : decide ((j.cuts.length : Int) < (j.cuts.length : Int)) = false := decide_eq_false (by omega)
                    have hjob : jobOk l pre j = true := by
                      rw [HJC.out, HCU.out, List.drop_eq_nil_of_le (by omega)]
                      rfl
                    have HJOB := Lib.hid hjob
                    have HSB := Lib.hid (soonB_step HFINE.out HSO.out HJOB.out)
                    clear hjob hac HCU
                    go_wp2_with fail
                    go_roundg (jobs.length - (i + 1))
                    case rel =>
                      refine ⟨i + 1, pre ++ [j], Nat.le_refl _, by go_num, by omega, ?_, by rw [HALL2.out, HJOB.out, Bool.true_and], HSB.out, HB6.out⟩
                      rw [List.take_add_one, HJ.out, HPRE.out]
                      rfl
                    case measure => omega
              · subst hl
                have hpl : p < i := by have h := lt_of_get' hy; have := HPL.out; omega
                have hyj : jobs[p]? = some y := by rw [HPRE.out, List.getElem?_take] at hy; simpa [hpl] using hy
                obtain ⟨cs5, hK5, hcell5⟩ := c_cells (Kd.C_below HW.out (KW2.out.below (by simp) (Nat.le_refl _))) p y hyj
                obtain ⟨A5, c5, rfl, _, _⟩ := kJb_open hK5
                have y1 : W2.cell? ⟨b1, o1 + p * 5 + 1, none⟩ = some (.int .i64 y.arrive) := hcell5 1 _ rfl
                have hp1 : (p : Int) < (jobs.length : Int) := by omega
                have hws : IntKind.i64.wrap (y.arrive + t.t) = sn := by rw [← hse]; exact IntWalk.i64_in _ (by omega)
                have hwt : y.arrive + t.t = sn := hse.symm
                clear hK5 hcell5 hyj hpl hse hy HLA3
                have hwj : IntKind.i64.wrap (j.arrive + t.j) = j.arrive + t.j := IntWalk.i64_in _ (by omega)
                go_quiet (fail)
                simp only [decide_eq_false_iff_not] at d3 d4 d5 d6 d7
                have hjc : jobOk l pre j = cutsOk t.q j.cuts j.work := by
                  have h := jobOk_cuts HGO.out (by rw [HSN.out]; omega) (by omega) (by omega) (by rw [HTE.out]; omega) (by omega) (by rw [HTE.out]; omega)
                  rwa [HTE.out] at h
                have HJC := Lib.hid hjc
                have k3 : Keeps [] W2 (W2.drewN nq) := (Keeps.refl _ _).drewN nq
                have J10c := Lib.hid (k3.blk J10b.out (by simp))
                have J11c := Lib.hid (k3.blk J11b.out (by simp))
                have KW3 := Lib.hid (KW2.out.trans k3)
                have hw1 : j.work ≤ t.c := by omega
                have hw0 : 1 ≤ j.work := by omega
                have HC41 := Lib.hid (Kd.C_below HC4.out (KW3.out.below (by simp) (Nat.le_refl _)))
                clear j1 j2 j3 t1 t2 t4 J10b J11b KW2 hwj d1 d2 y1 hws
                generalize W2.drewN nq = W3 at J10c J11c KW3 HC41 ⊢
                have j3 := cell_blk J10c.out 3
                go_wp2_with fail
                clear j3
                go_loopg [10, 9] (j.cuts.length) (fun gh av lv wr2 => ∃ (a : Nat) (left : Int), j.cuts.length - a ≤ gh ∧ av = .int .i64 a ∧ lv = .int .i64 left ∧ a ≤ j.cuts.length ∧ 0 ≤ left ∧ left ≤ t.c ∧ cutsOk t.q j.cuts j.work = cutsOk t.q (j.cuts.drop a) left ∧ Keeps [] W3 wr2)
                case atStart => exact ⟨0, j.work, by omega, rfl, rfl, by omega, by omega, by omega, by simp, Keeps.refl _ _⟩
                case round =>
                  obtain ⟨a, left, hgh2, rfl, rfl, hal, hlf0, hlf1, hcu, K2⟩ := hrel
                  have J10d := Lib.hid (K2.blk J10c.out (by simp))
                  have J11d := Lib.hid (K2.blk J11c.out (by simp))
                  have HC42 := Lib.hid (Kd.C_below HC41.out (K2.below (by simp) (Nat.le_refl _)))
                  have KW4 := Lib.hid (KW3.out.trans K2)
                  have HB6 := Lib.hid (below_keeps HB.out KW4.out (by simp) HB.out.size)
                  have HCU := Lib.hid hcu
                  have K3 := Lib.hid K2
                  clear hcu K2 HC41 J10c J11c KW3
                  have j4 := cell_blk J10d.out 4
                  by_cases hac : a < j.cuts.length
                  · obtain ⟨c, hc⟩ : ∃ c, j.cuts[a]? = some c := ⟨j.cuts[a], by simp [hac]⟩
                    obtain ⟨ad, had, hcell⟩ := at_int HC42.out a c hc
                    subst had
                    have hac' : (a : Int) < (j.cuts.length : Int) := by omega
                    have e1 : j.cuts.drop a = c :: j.cuts.drop (a + 1) := by
                      rw [List.drop_eq_getElem_cons hac]
                      rw [List.getElem?_eq_getElem hac] at hc
                      injection hc with hc
                      rw [hc]
                    have hcu := HCU.out
                    rw [e1, cutsOk] at hcu
                    have HCU2 := Lib.hid hcu
                    have t5 := cell_blk J11d.out 5
                    have hnoc : (c < 1 ∨ t.q < c ∨ left < c) → legalL l jobs = false := fun h => by
                      have hw : withinB c 1 (min t.q left) = false := by
                        cases hw : withinB c 1 (min t.q left)
                        · rfl
                        · have := withinB_true hw; omega
                      rw [HD.out, HALL2.out, HJC.out, HCU2.out, hw]
                      rfl
                    have HNOC := Lib.hid hnoc
                    clear hcu e1 hnoc HCU hc
                    rcases ways3 (decide (c < 1)) (decide (t.q < c)) (decide (left < c)) with d8 | ⟨d8, d9⟩ | ⟨d8, d9, da⟩ | ⟨d8, d9, da⟩
                    · have HNO := Lib.hid (HNOC.out (by simp only [decide_eq_true_eq, decide_eq_false_iff_not] at *; omega))
                      go_wp2_with fail
                      go_quiet (fail)
                      go_wp2
                      go_ret
                      exact ⟨by rw [HNO.out]; rfl, pw_below_drewN HB6.out _⟩
                    · have HNO := Lib.hid (HNOC.out (by simp only [decide_eq_true_eq, decide_eq_false_iff_not] at *; omega))
                      go_wp2_with fail
                      go_quiet (fail)
                      go_wp2
                      go_ret
                      exact ⟨by rw [HNO.out]; rfl, pw_below_drewN HB6.out _⟩
                    · have HNO := Lib.hid (HNOC.out (by simp only [decide_eq_true_eq, decide_eq_false_iff_not] at *; omega))
                      go_wp2_with fail
                      go_quiet (fail)
                      go_wp2
                      go_ret
                      exact ⟨by rw [HNO.out]; rfl, pw_below_drewN HB6.out _⟩
                    · have hd8 : ¬ c < 1 := by simpa using d8
                      have hd9 : ¬ t.q < c := by simpa using d9
                      have hda : ¬ left < c := by simpa using da
                      have hwt : withinB c 1 (min t.q left) = true := withinB_mk (by omega) (by omega)
                      have HWT := Lib.hid hwt
                      clear hwt
                      go_wp2_with fail
                      go_quiet (fail)
                      have k5 : Keeps [] wr (wr.drewN nq) := (Keeps.refl _ _).drewN nq
                      have j4' := cell_blk (k5.blk J10d.out (by simp)) 4
                      have K5 := Lib.hid (K3.out.trans k5)
                      have hcell' : (wr.drewN nq).cell? (ad.add a) = some (.int .i64 c) := hcell
                      clear k5 j4 t5 hcell
                      go_wp2_with fail
                      go_roundg (j.cuts.length - (a + 1))
                      case rel => exact ⟨a + 1, left - c, Nat.le_refl _, by go_num, rfl, by omega, by omega, by omega, by rw [HCU2.out, HWT.out, Bool.true_and], K5.out⟩
                      case measure => omega
                  · obtain rfl : a = j.cuts.length := by omega
                    have hac2 : decide (j.cuts.length < j.cuts.length) = false := decide_eq_false hac
                    have hac3 : decide ((j.cuts.length : Int) < (j.cuts.length : Int)) = false := decide_eq_false (by omega)
                    have hjob : jobOk l pre j = true := by
                      rw [HJC.out, HCU.out, List.drop_eq_nil_of_le (by omega)]
                      rfl
                    have HJOB := Lib.hid hjob
                    have HSB := Lib.hid (soonB_step HFINE.out HSO.out HJOB.out)
                    clear hjob hac HCU
                    go_wp2_with fail
                    go_roundg (jobs.length - (i + 1))
                    case rel =>
                      refine ⟨i + 1, pre ++ [j], Nat.le_refl _, by go_num, by omega, ?_, by rw [HALL2.out, HJOB.out, Bool.true_and], HSB.out, HB6.out⟩
                      rw [List.take_add_one, HJ.out, HPRE.out]
                      rfl
                    case measure => omega
        · obtain rfl : i = jobs.length := by omega
          have hend : decide ((jobs.length : Int) < (jobs.length : Int)) = false := decide_eq_false (by omega)
          have hend2 : decide (jobs.length < jobs.length) = false := decide_eq_false (by omega)
          have hd2 : legalL l jobs = true := by rw [HD.out, HALL.out, List.drop_eq_nil_of_le (Nat.le_refl _), legalFrom]
          have HD2 := Lib.hid hd2
          clear hd2 hlt
          go_wp2
          go_ret
          exact ⟨by rw [HD2.out]; rfl, HB.out⟩
end Go.Proofs.Ytcdmgalhboijcaa.Sc
