/- What script's legal tells, in plain Lean. -/
import Derived.Test.YtcdmgalhboijcaaDecode
set_option linter.unusedVariables false
set_option linter.unusedSimpArgs false
namespace Go.Proofs.Ytcdmgalhboijcaa.Sc
open Go.RowKit Go.Shelf Go.Maps

def withinB (n lo hi : Int) : Bool := decide (lo ≤ n) && decide (n ≤ hi)
theorem withinB_true {n lo hi : Int} (h : withinB n lo hi = true) : lo ≤ n ∧ n ≤ hi := by
  unfold withinB at h
  simpa using h
def cutsOk (q : Int) : List Int → Int → Bool
  | [], _ => true
  | c :: cs, left => withinB c 1 (min q left) && cutsOk q cs (left - c)
def taskOk (l : List Tsk) (j : Jb) : Bool := decide (0 ≤ j.task) && decide (j.task < l.length)
def jobOk (l : List Tsk) (pre : List Jb) (j : Jb) : Bool :=
  taskOk l j && (withinB j.arrive (soon l pre j.task) 17592186044416 && (withinB j.release j.arrive (j.arrive + (tsk l j.task).j) && (withinB j.work 1 (tsk l j.task).c && cutsOk (tsk l j.task).q j.cuts j.work)))
def legalFrom (l : List Tsk) : List Jb → List Jb → Bool
  | _, [] => true
  | pre, j :: js => jobOk l pre j && legalFrom l (pre ++ [j]) js
def legalL (l : List Tsk) (jobs : List Jb) : Bool := mayB l && (decide (jobs.length ≤ 4096) && legalFrom l [] jobs)

/-- What is told of legal jobs: bounds. -/
def SoonB (l : List Tsk) (out : List Jb) : Prop := ∀ k, 0 ≤ soon l out k ∧ soon l out k ≤ 17594333528063
theorem soonB_nil (l : List Tsk) : SoonB l [] := fun k => by simp [soon]
theorem taskOk_true {l : List Tsk} {j : Jb} (h : taskOk l j = true) : 0 ≤ j.task ∧ j.task < l.length := by
  unfold taskOk at h
  simpa using h
theorem soonB_step {l : List Tsk} (hf : ∀ x ∈ l, Fine x) {out : List Jb} (h : SoonB l out) {j : Jb} (hj : jobOk l out j = true) : SoonB l (out ++ [j]) := by
  intro k
  rw [soon_snoc]
  unfold jobOk at hj
  simp only [Bool.and_eq_true] at hj
  obtain ⟨h1, h2, _⟩ := hj
  have ht := taskOk_true h1
  have hw := withinB_true h2
  have hs := h j.task
  have hF := hf _ (tsk_mem ht.1 ht.2).1
  have ht0 := hF.t0
  have ht1 := hF.t1
  split
  · omega
  · exact h k
end Go.Proofs.Ytcdmgalhboijcaa.Sc
/- script's legal, walked: what see makes of each job is told by an invariant. -/
set_option linter.unusedVariables false
set_option linter.unusedSimpArgs false
namespace Go.Proofs.Ytcdmgalhboijcaa.Sc
open Go.RowKit Go.Shelf Go.Maps Go.Proofs.YtcdmgalhboijcaaW.PrintWords Go.Proofs.YtcdmgalhboijcaaW.PrintMore

theorem within3_any {n lo hi : Int} {g : Bool} (w : World) (h : withinB n lo hi = g) : Calls Try.prog 39 #[.int .i64 n, .int .i64 lo, .int .i64 hi] w fun e w' => e = .returned (.bool g) ∧ w = w' := by
  rw [← h]
  clear h
  go_enter Try.func39, Try.ntmps39
  go_wp2
  all_goals
    go_ret
    exact ⟨by unfold withinB; (first | (simp [*]; done) | (simp [*]; omega)), rfl⟩
theorem within3_still {n lo hi : Int} {g : Bool} (w : World) (h : withinB n lo hi = g) : Calls Try.prog 39 #[.int .i64 n, .int .i64 lo, .int .i64 hi] w fun e w' => e = .returned (.bool g) ∧ w' = w :=
  (within3_any w h).mono fun _ _ ⟨a, b⟩ => ⟨a, b.symm⟩

/-- What a function that is told each job keeps to. -/
structure Sees (l : List Tsk) (jobs : List Jb) (w0 : World) (F : Nat) (caps : Array Value) (Inv : Nat → List Jb → World → Prop) : Prop where
  keep : ∀ m pre w1 w2, Inv m pre w1 → Keeps [m] w1 w2 → m < w1.heap.size → Inv m pre w2
  step : ∀ (m : Nat) (pre : List Jb) (j : Jb) (wr w1 : World) (A4 : Option Addr) (c4 : Nat), Inv m pre wr → (∀ x ∈ l, Fine x) → Keeps [] wr w1 → Below w0.heap.size w0 wr → w0.heap.size ≤ m → m < wr.heap.size →
    j ∈ jobs → pre.length < 4096 → jobOk l pre j = true → SoonB l pre → (Kd.int .i64).C w1 A4 j.cuts.length j.cuts → j.cuts.length ≤ c4 →
    Calls Try.prog F (#[.agg #[.int .i64 j.task, .int .i64 j.arrive, .int .i64 j.release, .int .i64 j.work, .slice A4 j.cuts.length c4], .int .i64 (j.arrive - soon l pre j.task)] ++ caps) w1
      (fun e w2 => e = .returned (.tuple #[]) ∧ Inv m (pre ++ [j]) w2 ∧ Below w0.heap.size w0 w2 ∧ w1.heap.size ≤ w2.heap.size ∧ w2.os = w1.os ∧ w2.tape = w1.tape ∧ w2.output = w1.output ∧ ∀ b, (b = m ∨ (wr.heap.size ≤ b ∧ b < w1.heap.size)) → w2.heap[b]? = w1.heap[b]?)

set_option maxRecDepth 100000 in
set_option maxHeartbeats 8000000 in
theorem legal_any (A0 : Option Addr) (c0 : Nat) (l : List Tsk) (A1 : Option Addr) (c1 : Nat) (jobs : List Jb) (w0 w : World) (F : Nat) (caps : Array Value) (Inv : Nat → List Jb → World → Prop)
    (eg : ∀ args w, (callFunc F args).run Try.prog w = .ok (.enter F args) w) (hsz : ∀ x ∈ l, x.nm.size ≤ maxLen) (hwf : ∀ x ∈ l, (Lit.int .i64 x.p).wf = true) (hb0 : Below w0.heap.size w0 w)
    (h0 : kTsk.C w0 A0 l.length l) (hc0 : l.length ≤ c0) (h1 : kJb.C w0 A1 jobs.length jobs) (hc1 : jobs.length ≤ c1)
    (hs : Sees l jobs w0 F caps Inv) (hstart : ∀ m w1, Keeps [] w w1 → w.heap.size ≤ m → m < w1.heap.size → Inv m [] w1) :
    Calls Try.prog 31 #[.slice A0 l.length c0, .slice A1 jobs.length c1, .func (.func F) #[] caps] w fun e w' => e = .returned (.bool (legalL l jobs)) ∧ Below w0.heap.size w0 w' ∧ (legalL l jobs = true → ∃ m, Inv m jobs w') := by
  have hmm := @run_makeMap Try.prog
  have H0 := Lib.hid h0
  have H1 := Lib.hid h1
  have HS := Lib.hid hs
  have EG := Lib.hid eg
  have HST := Lib.hid hstart
  have HSZ := Lib.hid hsz
  have HWF := Lib.hid hwf
  have HB0 := Lib.hid hb0
  have hm1 : jobs.length ≤ 9223372036854775807 := h1.2.1
  clear h0 h1 hs eg hstart hsz hwf hb0
  go_enter Try.func31, Try.ntmps31
  go_wp2_with fail
  refine (may_any A0 c0 l _ HSZ.out HWF.out (row_tsk (Kd.C_below H0.out HB0.out))).mono ?_
  rintro e w1 ⟨rfl, K1⟩
  have hB1 := below_keeps HB0.out K1 (by simp) HB0.out.size
  cases hmay : mayB l
  · have hd : legalL l jobs = false := by unfold legalL; simp [hmay]
    have HD := Lib.hid hd
    have HB := Lib.hid hB1
    clear hd hmm K1 hB1
    go_wp2
    go_ret
    exact ⟨by rw [HD.out]; rfl, HB.out, fun h => by rw [HD.out] at h; cases h⟩
  · by_cases hmany : 4096 < jobs.length
    · have hd : legalL l jobs = false := by unfold legalL; simp; omega
      have HD := Lib.hid hd
      have HB := Lib.hid hB1
      have h4 : (4096 : Int) < (jobs.length : Int) := by omega
      clear hd hmm K1 hB1
      go_wp2
      go_ret
      exact ⟨by rw [HD.out]; rfl, HB.out, fun h => by rw [HD.out] at h; cases h⟩
    · have hd : legalL l jobs = legalFrom l [] jobs := by unfold legalL; simp [hmay]; omega
      have HD := Lib.hid hd
      have hf := may_fine hmay
      obtain ⟨hl1, hl2, hfine⟩ := hf
      have HFINE := Lib.hid hfine
      have h4 : decide ((4096 : Int) < (jobs.length : Int)) = false := decide_eq_false (by omega)
      have h4' : decide (4096 < jobs.length) = false := decide_eq_false (by omega)
      have hn4 : jobs.length ≤ 4096 := by omega
      have HST1 : Hid (∀ m w2, Keeps [] w1 w2 → w1.heap.size ≤ m → m < w2.heap.size → Inv m [] w2) := Lib.hid (fun m w2 k h1 h2 => HST.out m w2 (K1.trans k) (Nat.le_trans K1.size h1) h2)
      clear hd K1 hmay hfine HSZ HWF hmany HST
      go_wp2_with fail
      have hm0 : IsMapI (w1.alloc (.map #[] 0)) 3 2 w1.heap.size 0 (fun _ => 0) := IsMapI.made w1 3 2
      have hB2 : Below w0.heap.size w0 (w1.alloc (.map #[] 0)) := hB1.alloc hB1.size _
      have hlt1 : w1.heap.size < (w1.alloc (.map #[] 0)).heap.size := hm0.lt
      have hws := hB1.size
      have hI0 := HST1.out w1.heap.size (w1.alloc (.map #[] 0)) ((Keeps.refl [] _).alloc _) (Nat.le_refl _) hlt1
      clear hB1 hmm HST1
      generalize (w1.alloc (.map #[] 0)) = w2 at hm0 hB2 hlt1 hI0 ⊢
      go_loopg [26] (jobs.length) (fun gh iv wr => ∃ (i : Nat) (pre : List Jb), jobs.length - i ≤ gh ∧ iv = .int .i64 i ∧ i ≤ jobs.length ∧ pre = jobs.take i ∧ legalFrom l [] jobs = legalFrom l pre (jobs.drop i) ∧ SoonB l pre ∧ IsMapI wr 3 2 w1.heap.size i (soonF l pre) ∧ Inv w1.heap.size pre wr ∧ Below w0.heap.size w0 wr)
      case atStart =>
        refine ⟨0, [], by omega, rfl, by omega, by simp, by simp, soonB_nil l, ?_, hI0, hB2⟩
        have e : soonF l [] = fun _ => 0 := by funext k; unfold soonF; split <;> simp [soon]
        rw [e]; exact hm0
      case round =>
        clear hm0 hB2 hI0 hlt1
        obtain ⟨wq, hwq⟩ : ∃ wq, wq = wr := ⟨_, rfl⟩
        subst hwq
        obtain ⟨i, pre, hgh, rfl, hin, hpre, hall, hsoon, hmap, hinv, hB⟩ := hrel
        have hpl : pre.length = i := by rw [hpre]; simp; omega
        have hT := Kd.C_below H0.out hB
        have hW := Kd.C_below H1.out hB
        have HALL := Lib.hid hall
        have HSO := Lib.hid hsoon
        have HM := Lib.hid hmap
        have HI := Lib.hid hinv
        have HB := Lib.hid hB
        have HT := Lib.hid hT
        have HW := Lib.hid hW
        have HPRE := Lib.hid hpre
        have HPL := Lib.hid hpl
        clear hall hsoon hmap hinv hB hT hW hpre hpl
        by_cases hlt : i < jobs.length
        · obtain ⟨j, hj⟩ : ∃ j, jobs[i]? = some j := ⟨jobs[i]'(by omega), by simp⟩
          rcases c_addr HW.out (by decide) with he | ⟨b1, o1, ha1⟩
          · rw [he] at hj; simp at hj
          subst ha1
          obtain ⟨cs, hK, hcell⟩ := c_cells HW.out i j hj
          obtain ⟨A4, c4, rfl, hl4, hC4⟩ := kJb_open hK
          have r0 : wq.cell? ⟨b1, o1 + i * 5, none⟩ = some (.int .i64 j.task) := hcell 0 _ rfl
          have r1 : wq.cell? ⟨b1, o1 + i * 5 + 1, none⟩ = some (.int .i64 j.arrive) := hcell 1 _ rfl
          have r2 : wq.cell? ⟨b1, o1 + i * 5 + 2, none⟩ = some (.int .i64 j.release) := hcell 2 _ rfl
          have r3 : wq.cell? ⟨b1, o1 + i * 5 + 3, none⟩ = some (.int .i64 j.work) := hcell 3 _ rfl
          have r4 : wq.cell? ⟨b1, o1 + i * 5 + 4, none⟩ = some (.slice A4 j.cuts.length c4) := hcell 4 _ rfl
          have HC4 := Lib.hid hC4
          have hmc : j.cuts.length ≤ 9223372036854775807 := hC4.2.1
          have HJ := Lib.hid hj
          have hlt' : (i : Int) < (jobs.length : Int) := by omega
          have HB1L := Lib.hid (World.block_lt_of_cell? _ _ r0)
          have e1 : jobs.drop i = j :: jobs.drop (i + 1) := by
            rw [List.drop_eq_getElem_cons hlt]
            rw [List.getElem?_eq_getElem hlt] at hj
            injection hj with hj
            rw [hj]
          have hall2 := HALL.out
          rw [e1, legalFrom] at hall2
          have HALL2 := Lib.hid hall2
          clear hcell hK hC4 hj e1 hall2 HALL
          obtain ⟨go, hgo⟩ : ∃ g, taskOk l j = g := ⟨_, rfl⟩
          cases go
          · have hno : jobOk l pre j = false := by unfold jobOk; rw [hgo]; rfl
            have HNO := Lib.hid (show legalL l jobs = false by rw [HD.out, HALL2.out, hno]; rfl)
            unfold taskOk at hgo
            have HGO := Lib.hid hgo
            clear hno hgo
            by_cases hneg : j.task < 0
            · clear HGO
              go_wp2
              go_ret
              exact ⟨by rw [HNO.out]; rfl, HB.out.alloc HB.out.size _, fun h => by rw [HNO.out] at h; cases h⟩
            · have hge : decide ((l.length : Int) ≤ j.task) = true := by have := HGO.out; simp at this; simp; omega
              go_wp2
              go_ret
              exact ⟨by rw [HNO.out]; rfl, HB.out.alloc HB.out.size _, fun h => by rw [HNO.out] at h; cases h⟩
          · have htk := taskOk_true hgo
            have HGO := Lib.hid hgo
            obtain ⟨k, hke⟩ : ∃ k : Nat, j.task = (k : Int) := Int.eq_ofNat_of_zero_le htk.1
            have hkl : k < l.length := by omega
            have htm := tsk_mem htk.1 htk.2
            obtain ⟨t, hte⟩ : ∃ t, tsk l j.task = t := ⟨_, rfl⟩
            rw [hte] at htm
            rcases c_addr HT.out (by decide) with he | ⟨b0, o0, ha0⟩
            · rw [he] at hl1; simp at hl1
            subst ha0
            obtain ⟨cs, hK, hcell0⟩ := c_cells HT.out k t (by have := htm.2; rwa [hke] at this)
            rw [kTsk_open hK] at hcell0
            have t0 : wq.cell? ⟨b0, o0 + k * 7, none⟩ = some (.string t.nm) := hcell0 0 _ rfl
            have t1 : wq.cell? ⟨b0, o0 + k * 7 + 1, none⟩ = some (.int .i64 t.c) := hcell0 1 _ rfl
            have t2 : wq.cell? ⟨b0, o0 + k * 7 + 2, none⟩ = some (.int .i64 t.t) := hcell0 2 _ rfl
            have t3 : wq.cell? ⟨b0, o0 + k * 7 + 3, none⟩ = some (.int .i64 t.d) := hcell0 3 _ rfl
            have t4 : wq.cell? ⟨b0, o0 + k * 7 + 4, none⟩ = some (.int .i64 t.j) := hcell0 4 _ rfl
            have t5 : wq.cell? ⟨b0, o0 + k * 7 + 5, none⟩ = some (.int .i64 t.q) := hcell0 5 _ rfl
            have t6 : wq.cell? ⟨b0, o0 + k * 7 + 6, none⟩ = some (.int .i64 t.p) := hcell0 6 _ rfl
            have HF := Lib.hid (HFINE.out t htm.1)
            have HTE := Lib.hid hte
            have hb0l : b0 < wq.heap.size := World.block_lt_of_cell? _ _ t0
            have hb1l : b1 < wq.heap.size := HB1L.out
            have hkl' : (k : Int) < (l.length : Int) := by omega
            have HKE := Lib.hid hke
            rw [hke] at r0
            clear htk htm hte hcell0 hK hgo hke
            obtain ⟨sn, hsn⟩ : ∃ sn, soon l pre j.task = sn := ⟨_, rfl⟩
            have hsb := HSO.out j.task
            rw [hsn] at hsb
            obtain ⟨hs0, hs1⟩ := hsb
            have fj0 := HF.out.j0
            have fj1 := HF.out.j1
            have fc0 := HF.out.c0
            have fc1 := HF.out.c1
            have fq0 := HF.out.q0
            have fq1 := HF.out.q1
            have ft0 := HF.out.t0
            have ft1 := HF.out.t1
            have hok := HALL2.out
            unfold jobOk at hok
            rw [HGO.out, hsn, HTE.out, Bool.true_and] at hok
            have HSN := Lib.hid hsn
            obtain ⟨wa, hwa⟩ : ∃ g, withinB j.arrive sn 17592186044416 = g := ⟨_, rfl⟩
            obtain ⟨wb, hwb⟩ : ∃ g, withinB j.release j.arrive (j.arrive + t.j) = g := ⟨_, rfl⟩
            obtain ⟨wc, hwc⟩ : ∃ g, withinB j.work 1 t.c = g := ⟨_, rfl⟩
            rw [hwa, hwb, hwc] at hok
            have HWA := Lib.hid hwa
            have HWB := Lib.hid hwb
            have HWC := Lib.hid hwc
            have HOK := Lib.hid hok
            have hmlt := HM.out.lt
            clear hsn hwa hwb hwc hok
            go_wp2_with fail
            have J10 := Lib.hid (blk_alloc (blk_new wq (.cells #[.int .i64 k, .int .i64 j.arrive, .int .i64 j.release, .int .i64 j.work, .slice A4 j.cuts.length c4] 39)) (.cells #[.string t.nm, .int .i64 t.c, .int .i64 t.t, .int .i64 t.d, .int .i64 t.j, .int .i64 t.q, .int .i64 t.p] 46))
            have J11 := Lib.hid (blk_new1 wq (.cells #[.int .i64 k, .int .i64 j.arrive, .int .i64 j.release, .int .i64 j.work, .slice A4 j.cuts.length c4] 39) (.cells #[.string t.nm, .int .i64 t.c, .int .i64 t.t, .int .i64 t.d, .int .i64 t.j, .int .i64 t.q, .int .i64 t.p] 46))
            have KW := Lib.hid (((Keeps.refl [] wq).alloc (.cells #[.int .i64 k, .int .i64 j.arrive, .int .i64 j.release, .int .i64 j.work, .slice A4 j.cuts.length c4] 39)).alloc (.cells #[.string t.nm, .int .i64 t.c, .int .i64 t.t, .int .i64 t.d, .int .i64 t.j, .int .i64 t.q, .int .i64 t.p] 46))
            have hsz1 : ((wq.alloc (.cells #[.int .i64 k, .int .i64 j.arrive, .int .i64 j.release, .int .i64 j.work, .slice A4 j.cuts.length c4] 39)).alloc (.cells #[.string t.nm, .int .i64 t.c, .int .i64 t.t, .int .i64 t.d, .int .i64 t.j, .int .i64 t.q, .int .i64 t.p] 46)).heap.size = wq.heap.size + 2 := by simp
            have HSZ1 := Lib.hid hsz1
            clear r0 r1 r2 r3 r4 t0 t1 t2 t3 t4 t5 t6 hsz1
            generalize ((wq.alloc (.cells #[.int .i64 k, .int .i64 j.arrive, .int .i64 j.release, .int .i64 j.work, .slice A4 j.cuts.length c4] 39)).alloc (.cells #[.string t.nm, .int .i64 t.c, .int .i64 t.t, .int .i64 t.d, .int .i64 t.j, .int .i64 t.q, .int .i64 t.p] 46)) = W1 at J10 J11 KW HSZ1 ⊢
            have hB5 := below_keeps HB.out KW.out (by simp) HB.out.size
            have HB5 := Lib.hid hB5
            have hM1 := HM.out.keeps KW.out (by simp)
            have hC41 := Kd.C_below HC4.out (KW.out.below (by simp) (Nat.le_refl _))
            have hrun := runI law3 Try.underlying2 zero2 Try.underlying55 hM1 (keyOf_int_mk (a := (k : Int)) Try.underlying3 (WalkArith.wf_i64 (by omega))) trivial (show soonF l pre (.int .i64 (k : Int)) = sn from by rw [← HKE.out]; exact HSN.out)
            have HM1 := Lib.hid hM1
            have HC41 := Lib.hid hC41
            have j0 := cell_blk J10.out 0
            have j1 := cell_blk J10.out 1
            have j2 := cell_blk J10.out 2
            have j3 := cell_blk J10.out 3
            have j4 := cell_blk J10.out 4
            have t1 := cell_blk J11.out 1
            have t2 := cell_blk J11.out 2
            have t4 := cell_blk J11.out 4
            have t5 := cell_blk J11.out 5
            clear hB5 hM1 hC41
            rw [hrun]
            clear hrun
            cases wa
            · have HNO := Lib.hid (show legalL l jobs = false by rw [HD.out, HOK.out]; rfl)
              go_wp2_with (with_reducible (first | (go_at_call 39; refine (within3_any _ HWA.out).mono ?_; rintro e w' ⟨rfl, rfl⟩)))
              go_ret
              exact ⟨by rw [HNO.out]; rfl, HB5.out, fun h => by rw [HNO.out] at h; cases h⟩
            · have hwa := withinB_true HWA.out
              obtain ⟨ha0, ha1⟩ := hwa
              cases wb
              · have HNO := Lib.hid (show legalL l jobs = false by rw [HD.out, HOK.out]; rfl)
                go_wp2_with (first | (go_at_call 39; (with_reducible refine (within3_any _ HWA.out).mono ?_); rintro e w' ⟨rfl, rfl⟩) | (go_at_call 39; (with_reducible refine (within3_any _ HWB.out).mono ?_); rintro e w' ⟨rfl, rfl⟩))
                go_ret
                exact ⟨by rw [HNO.out]; rfl, HB5.out, fun h => by rw [HNO.out] at h; cases h⟩
              · cases wc
                · have HNO := Lib.hid (show legalL l jobs = false by rw [HD.out, HOK.out]; rfl)
                  go_wp2_with (first | (go_at_call 39; (with_reducible refine (within3_any _ HWA.out).mono ?_); rintro e w' ⟨rfl, rfl⟩) | (go_at_call 39; (with_reducible refine (within3_any _ HWB.out).mono ?_); rintro e w' ⟨rfl, rfl⟩) | (go_at_call 39; (with_reducible refine (within3_any _ HWC.out).mono ?_); rintro e w' ⟨rfl, rfl⟩))
                  go_ret
                  exact ⟨by rw [HNO.out]; rfl, HB5.out, fun h => by rw [HNO.out] at h; cases h⟩
                · have hwb := withinB_true HWB.out
                  have hwc := withinB_true HWC.out
                  obtain ⟨hb0, hb1⟩ := hwb
                  obtain ⟨hw0, hw1⟩ := hwc
                  go_wp2_with (first | (go_at_call 39; (with_reducible refine (within3_any _ HWA.out).mono ?_); rintro e w' ⟨rfl, rfl⟩) | (go_at_call 39; (with_reducible refine (within3_any _ HWB.out).mono ?_); rintro e w' ⟨rfl, rfl⟩) | (go_at_call 39; (with_reducible refine (within3_any _ HWC.out).mono ?_); rintro e w' ⟨rfl, rfl⟩))
                  clear j0 j1 j2 j3 j4 t1 t2 t4 t5
                  go_loopg [82, 12] (j.cuts.length) (fun gh iv lv wr => ∃ (a : Nat) (left : Int), j.cuts.length - a ≤ gh ∧ iv = .int .i64 a ∧ lv = .int .i64 left ∧ a ≤ j.cuts.length ∧ 0 ≤ left ∧ left ≤ t.c ∧ cutsOk t.q j.cuts j.work = cutsOk t.q (j.cuts.drop a) left ∧ Keeps [] W1 wr)
                  case atStart => exact ⟨0, j.work, by omega, rfl, rfl, by omega, by omega, by omega, by simp, Keeps.refl _ _⟩
                  case round =>
                    obtain ⟨a, left, hgh2, rfl, rfl, hal, hlf0, hlf1, hcu, K2⟩ := hrel
                    have J10b := Lib.hid (K2.blk J10.out (by simp))
                    have J11b := Lib.hid (K2.blk J11.out (by simp))
                    have HC42 := Lib.hid (Kd.C_below HC41.out (K2.below (by simp) (Nat.le_refl _)))
                    have HB6 := Lib.hid (below_keeps HB5.out K2 (by simp) HB5.out.size)
                    have KW2 := Lib.hid (KW.out.trans K2)
                    have HM2 := Lib.hid (HM1.out.keeps K2 (by simp))
                    have HSZ2 := Lib.hid (show wq.heap.size + 2 ≤ wr.heap.size from by have := K2.size; have := HSZ1.out; omega)
                    have HCU := Lib.hid hcu
                    have K3 := Lib.hid K2
                    clear hcu K2 HC41 HB5 J10 J11 KW HM1 HSZ1
                    by_cases hac : a < j.cuts.length
                    · obtain ⟨c, hc⟩ : ∃ c, j.cuts[a]? = some c := ⟨j.cuts[a], by simp [hac]⟩
                      obtain ⟨ad, had, hcell⟩ := at_int HC42.out a c hc
                      subst had
                      have hac' : (a : Int) < (j.cuts.length : Int) := by omega
                      have e1 : j.cuts.drop a = c :: j.cuts.drop (a + 1) := by
                        rw [List.drop_eq_getElem_cons hac]
                        rw [List.getElem?_eq_getElem hac] at hc
                        injection hc with hc
                        rw [hc]
                      obtain ⟨wd, hwd⟩ : ∃ g, withinB c 1 (min t.q left) = g := ⟨_, rfl⟩
                      have hcu := HCU.out
                      rw [e1, cutsOk, hwd] at hcu
                      have HCU2 := Lib.hid hcu
                      have HWD := Lib.hid hwd
                      have hmin := fun W => min2_run t.q left #[2, 2] 2 W
                      have t5 := cell_blk J11b.out 5
                      clear hcu e1 hwd HCU
                      cases wd
                      · have HNO := Lib.hid (show legalL l jobs = false by rw [HD.out, HOK.out, HCU2.out]; rfl)
                        go_wp2_with (first | (go_at_call 39; (with_reducible refine (within3_any _ HWD.out).mono ?_); rintro e w' ⟨rfl, rfl⟩))
                        go_ret
                        exact ⟨by rw [HNO.out]; rfl, HB6.out, fun h => by rw [HNO.out] at h; cases h⟩
                      · have hwd := withinB_true HWD.out
                        obtain ⟨hd0, hd1⟩ := hwd
                        have hd2 : c ≤ left := by omega
                        go_wp2_with (first | (go_at_call 39; (with_reducible refine (within3_any _ HWD.out).mono ?_); rintro e w' ⟨rfl, rfl⟩))
                        go_roundg (j.cuts.length - (a + 1))
                        case rel => exact ⟨a + 1, left - c, Nat.le_refl _, by go_num, rfl, by omega, by omega, by omega, by rw [HCU2.out, Bool.true_and], K3.out⟩
                        case measure => omega
                    · have hac2 : decide (a < j.cuts.length) = false := decide_eq_false hac
                      have hac3 : decide ((a : Int) < (j.cuts.length : Int)) = false := decide_eq_false (by omega)
                      have hjob : jobOk l pre j = true := by
                        unfold jobOk
                        rw [HGO.out, HSN.out, HTE.out, HWA.out, HWB.out, HWC.out, HCU.out, List.drop_eq_nil_of_le (by omega)]
                        rfl
                      have HJOB := Lib.hid hjob
                      have hrun := runI law3 Try.underlying2 zero2 Try.underlying55 HM2.out (keyOf_int_mk (a := (k : Int)) Try.underlying3 (WalkArith.wf_i64 (by omega))) trivial (show soonF l pre (.int .i64 (k : Int)) = sn from by rw [← HKE.out]; exact HSN.out)
                      have j0 := cell_blk J10b.out 0
                      have j1 := cell_blk J10b.out 1
                      have j2 := cell_blk J10b.out 2
                      have j3 := cell_blk J10b.out 3
                      have j4 := cell_blk J10b.out 4
                      have t2 := cell_blk J11b.out 2
                      clear hjob hac HCU
                      go_wp2_with fail
                      rw [EG.out, Oper.upon_enter]
                      clear hrun j0 j1 j2 j3 j4 t2
                      have hst := HS.out.step w1.heap.size pre j wq wr A4 c4 HI.out HFINE.out KW2.out HB.out hws hmlt (List.mem_of_getElem? HJ.out) (by have := HPL.out; omega) HJOB.out HSO.out HC42.out hl4
                      rw [HKE.out] at hst
                      have hsn' : soon l pre (k : Int) = sn := by rw [← HKE.out]; exact HSN.out
                      rw [hsn'] at hst
                      clear hsn'
                      refine hst.mono ?_
                      clear hst
                      rintro e W3 ⟨rfl, hI3, hB3, hsz3, hos, htp, hou, hbk⟩
                      have hms : w1.heap.size < wr.heap.size := Nat.lt_of_lt_of_le hmlt KW2.out.size
                      have HM3 := Lib.hid (HM2.out.blk (hbk w1.heap.size (.inl rfl)))
                      have h10 := (hbk wq.heap.size (.inr ⟨Nat.le_refl _, by have := HSZ2.out; omega⟩)).trans J10b.out
                      have h11 := (hbk (wq.heap.size + 1) (.inr ⟨by omega, by have := HSZ2.out; omega⟩)).trans J11b.out
                      have HI3 := Lib.hid hI3
                      have HB3 := Lib.hid hB3
                      have HSZ3 := Lib.hid hsz3
                      clear hI3 hB3 hsz3 hos htp hou hbk
                      have j0 := cell_blk h10 0
                      have j1 := cell_blk h10 1
                      have t2 := cell_blk h11 2
                      clear h10 h11
                      have HSB := Lib.hid (soonB_step HFINE.out HSO.out HJOB.out)
                      have HN : Hid (soonF l (pre ++ [j]) (.int .i64 (k : Int)) = j.arrive + t.t) := Lib.hid (by
                        show soon l (pre ++ [j]) (k : Int) = _
                        rw [soon_snoc, if_pos HKE.out, HTE.out])
                      have HO : Hid (∀ kl, kl ≠ .int .i64 (k : Int) → soonF l (pre ++ [j]) kl = soonF l pre kl) := Lib.hid (fun kl hkl => by
                        unfold soonF
                        split
                        · rename_i k2
                          rw [soon_snoc, if_neg]
                          intro e
                          exact hkl (by rw [← e, HKE.out])
                        · rfl)
                      go_wp2_with (at_mapUpdate; refine putI law3 Try.underlying2 _ rfl _ _ _ 55 rfl Try.underlying55 w1.heap.size i (soonF l pre) rfl HM3.out (by unfold maxLen; omega) _ (j.arrive + t.t) (.int .i64 (k : Int)) rfl rfl (keyOf_int_mk (a := (k : Int)) Try.underlying3 (WalkArith.wf_i64 (by omega))) trivial (WalkArith.wf_i64 (by omega)) (soonF l (pre ++ [j])) HN.out HO.out ?_; intro W8 hm8 K8)
                      have hI8 := HS.out.keep _ _ _ _ HI3.out K8 HM3.out.lt
                      have hB8 := below_keeps HB3.out K8 (by simpa using hws) HB3.out.size
                      go_roundg (jobs.length - (i + 1))
                      case rel =>
                        refine ⟨i + 1, pre ++ [j], Nat.le_refl _, by go_num, by omega, ?_, by rw [HALL2.out, HJOB.out, Bool.true_and], HSB.out, hm8, hI8, hB8⟩
                        rw [List.take_add_one, HJ.out, HPRE.out]
                        rfl
                      case measure => omega
        · obtain rfl : i = jobs.length := by omega
          have hend : decide ((jobs.length : Int) < (jobs.length : Int)) = false := decide_eq_false (by omega)
          have hend2 : decide (jobs.length < jobs.length) = false := decide_eq_false (by omega)
          have hd2 : legalL l jobs = true := by rw [HD.out, HALL.out, List.drop_eq_nil_of_le (Nat.le_refl _), legalFrom]
          have hp : pre = jobs := by rw [HPRE.out, List.take_length]
          have HD2 := Lib.hid hd2
          have HP := Lib.hid hp
          clear hd2 hp hlt
          go_wp2
          go_ret
          refine ⟨by rw [HD2.out]; rfl, HB.out, fun _ => ⟨w1.heap.size, ?_⟩⟩
          have h := HI.out
          rwa [HP.out] at h
end Go.Proofs.Ytcdmgalhboijcaa.Sc
