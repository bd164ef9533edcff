/- What script's Encode tells, in plain Lean; its function that is told each job, walked. -/
import Derived.Test.YtcdmgalhboijcaaLeg
import Derived.Handy
set_option linter.unusedVariables false
set_option linter.unusedSimpArgs false
namespace Go.Proofs.Ytcdmgalhboijcaa.Sc
open Go.RowKit Go.Shelf Go.Maps Go.Proofs.YtcdmgalhboijcaaW.PrintWords Go.Proofs.YtcdmgalhboijcaaW.PrintMore

def gapOf (l : List Tsk) (pre : List Jb) (j : Jb) : Int := j.arrive - soon l pre j.task
def encR (l : List Tsk) (pre : List Jb) (j : Jb) : Rw := ⟨j.task, gapOf l pre j, j.release - j.arrive, j.work - 1, j.cuts.map (· - 1)⟩
def encFrom (l : List Tsk) : List Jb → List Jb → List Rw
  | _, [] => []
  | pre, j :: js => encR l pre j :: encFrom l (pre ++ [j]) js
def encs (l : List Tsk) (jobs : List Jb) : List Rw := encFrom l [] jobs
def okFrom (l : List Tsk) : List Jb → List Jb → Bool
  | _, [] => true
  | pre, j :: js => decide (gapOf l pre j < 1048576) && okFrom l (pre ++ [j]) js
def okAll (l : List Tsk) (jobs : List Jb) : Bool := okFrom l [] jobs
theorem encFrom_snoc (l : List Tsk) (j : Jb) : ∀ (xs pre : List Jb), encFrom l pre (xs ++ [j]) = encFrom l pre xs ++ [encR l (pre ++ xs) j]
  | [], pre => by simp [encFrom]
  | x :: xs, pre => by
    simp only [List.cons_append, encFrom]
    rw [encFrom_snoc l j xs]
    simp
theorem okFrom_snoc (l : List Tsk) (j : Jb) : ∀ (xs pre : List Jb), okFrom l pre (xs ++ [j]) = (okFrom l pre xs && decide (gapOf l (pre ++ xs) j < 1048576))
  | [], pre => by simp [okFrom]
  | x :: xs, pre => by
    simp only [List.cons_append, okFrom]
    rw [okFrom_snoc l j xs]
    simp [Bool.and_assoc]
theorem encs_snoc (l : List Tsk) (pre : List Jb) (j : Jb) : encs l (pre ++ [j]) = encs l pre ++ [encR l pre j] := encFrom_snoc l j pre []
theorem okAll_snoc (l : List Tsk) (pre : List Jb) (j : Jb) : okAll l (pre ++ [j]) = (okAll l pre && decide (gapOf l pre j < 1048576)) := okFrom_snoc l j pre []
theorem encFrom_length (l : List Tsk) : ∀ (xs pre : List Jb), (encFrom l pre xs).length = xs.length
  | [], _ => rfl
  | x :: xs, pre => by simp [encFrom, encFrom_length l xs]
theorem cutsOk_mem {q : Int} : ∀ {cs : List Int} {left : Int}, cutsOk q cs left = true → ∀ c ∈ cs, 1 ≤ c ∧ c ≤ q
  | [], _, _, c, h => by cases h
  | x :: xs, left, h, c, hc => by
    simp only [cutsOk, Bool.and_eq_true] at h
    have hw := withinB_true h.1
    rcases List.mem_cons.1 hc with rfl | hc
    · omega
    · exact cutsOk_mem h.2 c hc
theorem cutsOk_len {q : Int} : ∀ {cs : List Int} {left : Int}, cutsOk q cs left = true → 0 ≤ left → (cs.length : Int) ≤ left
  | [], left, _, h => by simpa using h
  | x :: xs, left, h, h0 => by
    simp only [cutsOk, Bool.and_eq_true] at h
    have hw := withinB_true h.1
    have := cutsOk_len h.2 (by omega)
    simp only [List.length_cons]
    omega
structure JobB (l : List Tsk) (pre : List Jb) (j : Jb) : Prop where
  t0 : 0 ≤ j.task
  t1 : j.task < l.length
  a0 : soon l pre j.task ≤ j.arrive
  a1 : j.arrive ≤ 17592186044416
  r0 : j.arrive ≤ j.release
  r1 : j.release ≤ j.arrive + (tsk l j.task).j
  w0 : 1 ≤ j.work
  w1 : j.work ≤ (tsk l j.task).c
  cs : cutsOk (tsk l j.task).q j.cuts j.work = true
theorem jobOk_true {l : List Tsk} {pre : List Jb} {j : Jb} (h : jobOk l pre j = true) : JobB l pre j := by
  unfold jobOk at h
  simp only [Bool.and_eq_true] at h
  obtain ⟨h1, h2, h3, h4, h5⟩ := h
  have a := taskOk_true h1
  have b := withinB_true h2
  have c := withinB_true h3
  have d := withinB_true h4
  exact ⟨a.1, a.2, b.1, b.2, c.1, c.2, d.1, d.2, h5⟩

theorem info36e : (Try.prog.info? 36).map (fun i => (i.zero, i.size, i.bytes)) = some (some (.agg #[.int .i64 0, .int .i64 0, .int .i64 0, .int .i64 0, .slice none 0 0]), 5, 56) := by kernel_rfl
theorem info3e : (Try.prog.info? 3).map (fun i => (i.zero, i.size, i.bytes)) = some (some (.int .i64 0), 1, 8) := by kernel_rfl
theorem kRw_mkM (w : World) (base : Nat) (ok : Nat → Prop) (x : Rw) {v4 : Value} (g4 : (Kd.int .i64).R 3 w base ok v4 x.cuts) : kRw.M w base ok x [.int .i64 x.task, .int .i64 x.gap, .int .i64 x.late, .int .i64 x.work, v4] :=
  ⟨[.int .i64 x.task], [.int .i64 x.gap, .int .i64 x.late, .int .i64 x.work, v4], rfl, rfl, ⟨[.int .i64 x.gap], [.int .i64 x.late, .int .i64 x.work, v4], rfl, rfl, ⟨[.int .i64 x.late], [.int .i64 x.work, v4], rfl, rfl, ⟨[.int .i64 x.work], [v4], rfl, rfl, ⟨v4, rfl, g4⟩⟩⟩⟩⟩
end Go.Proofs.Ytcdmgalhboijcaa.Sc
/- Encode's function that is told each job, walked. -/
set_option linter.unusedVariables false
set_option linter.unusedSimpArgs false
namespace Go.Proofs.Ytcdmgalhboijcaa.Sc
open Go.RowKit Go.Shelf Go.Maps Go.Proofs.YtcdmgalhboijcaaW.PrintWords Go.Proofs.YtcdmgalhboijcaaW.PrintMore

/-- What Encode has when so many jobs are told. -/
def EncInv (l : List Tsk) (n0 : Nat) (m : Nat) (pre : List Jb) (W : World) : Prop :=
  ∃ v, Kd.S kRw 36 W n0 (fun q => q ≠ m ∧ q ≠ n0 ∧ q ≠ n0 + 1) v (encs l pre) ∧ W.heap[n0]? = some (.cells #[v] 23 (0, 0)) ∧ W.heap[n0 + 1]? = some (.cells #[.bool (okAll l pre)] 4 (0, 0)) ∧ n0 + 2 ≤ m
theorem encInv_keep (l : List Tsk) (n0 m : Nat) (pre : List Jb) (w1 w2 : World) (h : EncInv l n0 m pre w1) (k : Keeps [m] w1 w2) : EncInv l n0 m pre w2 := by
  obtain ⟨v, h1, h2, h3, h4⟩ := h
  exact ⟨v, Kd.S_step h1 (fun q hq hlt => k.block q hlt (by simpa using hq.1)), k.blk h2 (by simp; omega), k.blk h3 (by simp; omega), h4⟩

set_option maxHeartbeats 4000000 in
theorem enc1_any (l : List Tsk) (hfine : ∀ x ∈ l, Fine x) (w0 : World) (m : Nat) (pre : List Jb) (j : Jb) (wr w1 : World) (A4 : Option Addr) (c4 : Nat) (hinv : EncInv l w0.heap.size m pre wr) (hk : Keeps [] wr w1)
    (hB : Below w0.heap.size w0 wr) (hmr : m < wr.heap.size) (hpl : pre.length < 4096) (hj : jobOk l pre j = true) (hsb : SoonB l pre) (hC : (Kd.int .i64).C w1 A4 j.cuts.length j.cuts) (hc4 : j.cuts.length ≤ c4) :
    Calls Try.prog 40 #[.agg #[.int .i64 j.task, .int .i64 j.arrive, .int .i64 j.release, .int .i64 j.work, .slice A4 j.cuts.length c4], .int .i64 (j.arrive - soon l pre j.task), .pointer (some ⟨w0.heap.size, 0, none⟩), .pointer (some ⟨w0.heap.size + 1, 0, none⟩)] w1
      (fun e w2 => e = .returned (.tuple #[]) ∧ EncInv l w0.heap.size m (pre ++ [j]) w2 ∧ Below w0.heap.size w0 w2 ∧ w1.heap.size ≤ w2.heap.size ∧ w2.os = w1.os ∧ w2.tape = w1.tape ∧ w2.output = w1.output ∧ ∀ b, (b = m ∨ (wr.heap.size ≤ b ∧ b < w1.heap.size)) → w2.heap[b]? = w1.heap[b]?) := by
  have hb := jobOk_true hj
  have hF := hfine _ (tsk_mem hb.t0 hb.t1).1
  have fj0 := hF.j0
  have fj1 := hF.j1
  have fc0 := hF.c0
  have fc1 := hF.c1
  have fq1 := hF.q1
  have s0 := (hsb j.task).1
  have s1 := (hsb j.task).2
  obtain ⟨a0, a1, r0, r1, k0, k1⟩ : soon l pre j.task ≤ j.arrive ∧ j.arrive ≤ 17592186044416 ∧ j.arrive ≤ j.release ∧ j.release ≤ j.arrive + (tsk l j.task).j ∧ 1 ≤ j.work ∧ j.work ≤ (tsk l j.task).c := ⟨hb.a0, hb.a1, hb.r0, hb.r1, hb.w0, hb.w1⟩
  obtain ⟨sn, hsn⟩ : ∃ sn, soon l pre j.task = sn := ⟨_, rfl⟩
  obtain ⟨t, ht⟩ : ∃ t, tsk l j.task = t := ⟨_, rfl⟩
  rw [hsn] at s0 s1 a0 ⊢
  rw [ht] at fj0 fj1 fc0 fc1 fq1 r1 k1
  have hgap : gapOf l pre j = j.arrive - sn := by unfold gapOf; rw [hsn]
  have hcb : ∀ c ∈ j.cuts, 1 ≤ c ∧ c ≤ 2147483647 := fun c hc => by have h := cutsOk_mem hb.cs c hc; rw [ht] at h; omega
  obtain ⟨gp, hgp⟩ : ∃ gp, j.arrive - sn = gp := ⟨_, rfl⟩
  have g0 : 0 ≤ gp := by omega
  have g1 : gp ≤ 17592186044416 := by omega
  rw [hgp] at hgap ⊢
  obtain ⟨v, hS, hO, hOk, hm2⟩ := encInv_keep l _ m pre wr w1 hinv ⟨hk.os, hk.tape, hk.output, hk.size, fun q hq _ => hk.block q hq (by simp)⟩
  have hvb : ∀ q, v.ownBlock = some q → q ≠ m ∧ q ≠ w0.heap.size ∧ q ≠ w0.heap.size + 1 ∧ w0.heap.size ≤ q ∧ q < wr.heap.size := by
    obtain ⟨v', hS', hO', _, _⟩ := hinv
    have e := hk.blk hO' (by simp)
    rw [hO] at e
    simp only [Option.some.injEq, Obj.cells.injEq, Array.mk.injEq, List.cons.injEq, and_true] at e
    subst e
    intro q hq
    have h := (Kd.R_bound (Kd.S_R hS')).1 q hq
    exact ⟨h.1.1, h.1.2.1, h.1.2.2, h.2.1, h.2.2.1⟩
  have hB1 := below_keeps hB hk (by simp) hB.size
  have hmc : j.cuts.length ≤ 2147483647 := by have := cutsOk_len hb.cs (by omega); omega
  have hn1 : w0.heap.size + 2 ≤ w1.heap.size := by have := blk_lt hOk; omega
  have hks := hk.size
  have HN1 := Lib.hid hn1
  have HGAP := Lib.hid hgap
  have HCB := Lib.hid hcb
  have HS := Lib.hid hS
  have HO := Lib.hid hO
  have HOK := Lib.hid hOk
  have HVB := Lib.hid hvb
  have HB1 := Lib.hid hB1
  have HC := Lib.hid hC
  have HKS := Lib.hid hks
  obtain ⟨okb, hokb⟩ : ∃ b, okAll l pre = b := ⟨_, rfl⟩
  rw [hokb] at HOK
  have HOKB := Lib.hid hokb
  have hlen : (encs l pre).length = pre.length := encFrom_length l pre []
  have HLEN := Lib.hid hlen
  clear hb hF hsn ht hgap hcb hgp hS hO hOk hvb hB1 hC hks hokb hlen hinv hk hB hj hsb hfine hn1
  go_enter Try.func40, Try.ntmps40
  go_wp2_with fail
  obtain ⟨W1, hW1⟩ : ∃ W1, W1 = (w1.alloc (.cells #[.int .i64 j.task, .int .i64 j.arrive, .int .i64 j.release, .int .i64 j.work, .slice A4 j.cuts.length c4] 39)).alloc (.cells #[.int .i64 j.task, .int .i64 gp, .int .i64 (j.release - j.arrive), .int .i64 (j.work - 1), .slice none 0 0] 36) := ⟨_, rfl⟩
  have hbW : Below w1.heap.size w1 W1 := by rw [hW1]; exact ((Below.refl _ _).alloc (Nat.le_refl _) _).alloc (by simp) _
  have hrb : W1.heap[w1.heap.size + 1]? = some (.cells #[.int .i64 j.task, .int .i64 gp, .int .i64 (j.release - j.arrive), .int .i64 (j.work - 1), .slice none 0 0] 36 (0, 0)) := by rw [hW1]; exact blk_new1 _ _ _
  rw [← hW1]
  clear hW1
  go_loopg [24] (j.cuts.length) (fun gh iv wr2 => ∃ (a : Nat) (v' : Value), j.cuts.length - a ≤ gh ∧ iv = .int .i64 a ∧ a ≤ j.cuts.length ∧ Kd.R (Kd.int .i64) 3 wr2 w1.heap.size (fun q => q ≠ w1.heap.size ∧ q ≠ w1.heap.size + 1) v' ((j.cuts.take a).map (· - 1)) ∧ wr2.heap[w1.heap.size + 1]? = some (.cells #[.int .i64 j.task, .int .i64 gp, .int .i64 (j.release - j.arrive), .int .i64 (j.work - 1), v'] 36 (0, 0)) ∧ Below w1.heap.size w1 wr2)
  case atStart => exact ⟨0, .slice none 0 0, by omega, rfl, by omega, Kd.R_nil _ _ _ _ _, hrb, hbW⟩
  case round =>
    clear hbW hrb W1
    obtain ⟨wq, hwq⟩ : ∃ wq, wq = wr := ⟨_, rfl⟩
    subst hwq
    obtain ⟨a, v', hgh, rfl, hal, hR, hrb, hBq⟩ := hrel
    have HR := Lib.hid hR
    have HRB := Lib.hid hrb
    have HBQ := Lib.hid hBq
    clear hR hrb hBq
    by_cases hac : a < j.cuts.length
    · obtain ⟨c, hc⟩ : ∃ c, j.cuts[a]? = some c := ⟨j.cuts[a], by simp [hac]⟩
      obtain ⟨ad, had, hcell⟩ := at_int (Kd.C_below HC.out HBQ.out) a c hc
      subst had
      have hac' : (a : Int) < (j.cuts.length : Int) := by omega
      have hcc := HCB.out c (List.mem_of_getElem? hc)
      obtain ⟨hc0, hc1⟩ := hcc
      have e1 : (j.cuts.take (a + 1)).map (· - 1) = (j.cuts.take a).map (· - 1) ++ [c - 1] := by rw [List.take_add_one, hc, List.map_append]; rfl
      have E1 := Lib.hid e1
      have r4 := cell_blk HRB.out 4
      have f4 := free_blk HRB.out 4
      have hla : ((j.cuts.take a).map (· - 1)).length = a := by simp; omega
      have HLA := Lib.hid hla
      clear hc e1 hla
      have hmk : (j.cuts.length : Int) ≤ 9223372036854775807 := by omega
      go_wp2_with (first
        | (at_builtin
           refine Kd.R_append (Kd.int .i64) (w0 := w1) w1.heap.size rfl (.tmp 29) (.tmp 32) 34 3 (.int .i64 0) 8 rfl Try.underlying34 info3e rfl (by decide) (by omega) _ ((j.cuts.take a).map (· - 1)) (c - 1) [.int .i64 (c - 1)] (fun q => q ≠ w1.heap.size ∧ q ≠ w1.heap.size + 1) (fun _ => False) rfl rfl rfl (fun _ hk => hk.elim) ?fresh HR.out HBQ.out HBQ.out.size (by rw [HLA.out]; omega) ?_
           case fresh => intro q hq; have := blk_lt HRB.out; omega
           intro v1 w3 ho hb hg hat
           obtain ⟨A7, c7, rfl⟩ := Kd.R_slice ho
           have hl7 : ((j.cuts.take a).map (· - 1) ++ [c - 1]).length = a + 1 := by rw [List.length_append, HLA.out]; rfl
           rw [hl7] at ho
           have hvb := (Kd.R_bound HR.out).1
           have hrb3 := (hg.block (w1.heap.size + 1) (blk_lt HRB.out) (fun e => (hvb _ e.symm).1.2 rfl)).trans HRB.out
           have HRB3 := Lib.hid hrb3
           have HO3 := Lib.hid ho
           have HB3 := Lib.hid hb
           clear r4 f4 ho hb hg hat hvb
           have r4 := cell_blk hrb3 4
           have f4 := free_blk hrb3 4
           clear hrb3))
      have hk4 : Keeps [w1.heap.size + 1] w3 (w3.setCell ⟨w1.heap.size + 1, 4, none⟩ (.slice A7 (a + 1) c7)) := (Keeps.refl _ _).setCell _ 4 _ (.inl (by simp))
      go_roundg (j.cuts.length - (a + 1))
      case rel =>
        refine ⟨a + 1,   .slice A7 (a + 1) c7, Nat.le_refl _, by go_num, by omega, ?_, ?_, below_keeps HB3.out hk4 (by simp) HB3.out.size⟩
        · rw [E1.out]
          exact Kd.R_step HO3.out (fun q hq hlt => hk4.block q hlt (by simpa using hq.2))
        · simpa using blk_set_same HRB3.out 4 (.slice A7 (a + 1) c7)
      case measure => omega
    · obtain rfl : a = j.cuts.length := by omega
      have hac2 : decide ((j.cuts.length : Int) < (j.cuts.length : Int)) = false := decide_eq_false (by omega)
      have hac3 : decide (j.cuts.length < j.cuts.length) = false := decide_eq_false (by omega)
      have hR := HR.out
      rw [List.take_length] at hR
      obtain ⟨A7, c7, rfl⟩ := Kd.R_slice hR
      have hs2 : Kd.S kRw 36 wq w0.heap.size (fun q => (q ≠ m ∧ q ≠ w0.heap.size ∧ q ≠ w0.heap.size + 1) ∧ ¬ w1.heap.size ≤ q) v (encs l pre) := Kd.S_mono (Kd.S_below (Kd.S_bound HS.out) HBQ.out) (fun q hq => ⟨hq.1, by have := hq.2.2.1; omega⟩)
      have hr2 := Kd.R_lower (Kd.R_mono (ok' := fun q => w1.heap.size ≤ q) (Kd.R_bound hR) (fun q hq => hq.2.1)) (base' := w0.heap.size) (by have := HN1.out; omega)
      have hnn : w0.heap.size + 1 < w1.heap.size := by have := HN1.out; omega
      have hob := (HBQ.out.block w0.heap.size (by omega)).trans HO.out
      have hok := (HBQ.out.block (w0.heap.size + 1) hnn).trans HOK.out
      have hB0 := HB1.out.trans (HBQ.out.mono (by omega))
      have hms := HBQ.out.size
      have HRN := Lib.hid hr2
      have HSN := Lib.hid hs2
      have HOB := Lib.hid hob
      have HOKQ := Lib.hid hok
      have HB0 := Lib.hid hB0
      have o0 := cell_blk hob 0
      have r0' := cell_blk HRB.out 0
      have r1' := cell_blk HRB.out 1
      have r2' := cell_blk HRB.out 2
      have r3' := cell_blk HRB.out 3
      have r4' := cell_blk HRB.out 4
      clear hR hr2 hs2 hob hok hB0 HR hac
      have hlm : (j.cuts.map (· - 1)).length = j.cuts.length := by simp
      rw [hlm] at HRN HRB
      have HJW : Hid (encR l pre j = ⟨j.task, gp, j.release - j.arrive, j.work - 1, j.cuts.map (· - 1)⟩) := Lib.hid (by unfold encR; rw [HGAP.out])
      have hle := HLEN.out
      have hlx : ((encs l pre).length + 1) * 56 ≤ 140737488355328 := by omega
      have HLX := Lib.hid hlx
      clear hlm hle hlx
      cases okb
      all_goals
        go_wp2_with (first
          | (at_builtin
             refine Kd.S_append kRw (w0 := w0) w0.heap.size rfl (.tmp 36) (.tmp 38) 23 36 (.agg #[.int .i64 0, .int .i64 0, .int .i64 0, .int .i64 0, .slice none 0 0]) 56 rfl Try.underlying23 info36e rfl (by decide) (by omega) _ (encs l pre) ⟨j.task, gp, j.release - j.arrive, j.work - 1, j.cuts.map (· - 1)⟩ [.int .i64 j.task, .int .i64 gp, .int .i64 (j.release - j.arrive), .int .i64 (j.work - 1), .slice A7 j.cuts.length c7] (fun q => q ≠ m ∧ q ≠ w0.heap.size ∧ q ≠ w0.heap.size + 1) (fun q => w1.heap.size ≤ q) rfl rfl (kRw_mkM _ _ _ ⟨j.task, gp, j.release - j.arrive, j.work - 1, j.cuts.map (· - 1)⟩ HRN.out) ?okp ?fresh HSN.out HB0.out HB0.out.size HLX.out ?_
             case okp =>
               intro q hq
               have := HKS.out
               refine ⟨by omega, fun e => ?_⟩
               have := (HVB.out q e.symm)
               omega
             case fresh => intro q hq; have := HKS.out; omega
             intro v1 w3 ho hb hg hat
             obtain ⟨A8, c8, rfl⟩ := Kd.R_slice (Kd.S_R ho)
             have hob3 := (hg.block w0.heap.size (by omega) (fun e => (HVB.out _ e.symm).2.1 rfl)).trans HOB.out
             have hok3 := (hg.block (w0.heap.size + 1) (by omega) (fun e => (HVB.out _ e.symm).2.2.1 rfl)).trans HOKQ.out
             have hkeep : ∀ b, (b = m ∨ (wr.heap.size ≤ b ∧ b < w1.heap.size)) → w3.heap[b]? = w1.heap[b]? := fun b hb => by
               have h1 := HKS.out
               exact (hg.block b (by omega) (fun e => by have := HVB.out _ e.symm; omega)).trans (HBQ.out.block b (by omega))
             have hsz3 := hg.size
             have HOB3 := Lib.hid hob3
             have HOK3 := Lib.hid hok3
             have HO3 := Lib.hid ho
             have HB3 := Lib.hid hb
             have HKP := Lib.hid hkeep
             clear o0 r0' r1' r2' r3' r4' ho hb hg hat hkeep
             have o0 := cell_blk hob3 0
             have f0 := free_blk hob3 0
             have p0 := cell_blk hok3 0
             have g0' := free_blk hok3 0
             clear hob3 hok3))
        go_returns
        have hl8 : (encs l pre ++ [(⟨j.task, gp, j.release - j.arrive, j.work - 1, j.cuts.map (· - 1)⟩ : Rw)]).length = (encs l pre).length + 1 := by simp
        have ho8 := HO3.out
        rw [hl8] at ho8
        have he8 : encs l (pre ++ [j]) = encs l pre ++ [(⟨j.task, gp, j.release - j.arrive, j.work - 1, j.cuts.map (· - 1)⟩ : Rw)] := by rw [encs_snoc, HJW.out]
        rw [← he8] at ho8
        have hbb := okAll_snoc l pre j
        rw [HOKB.out, HGAP.out] at hbb
        simp only [Bool.true_and, Bool.false_and] at hbb
        generalize hbv : okAll l (pre ++ [j]) = bb at hbb
        rw [← hbb]
        have K8 : Keeps [w0.heap.size, w0.heap.size + 1] w3 ((w3.setCell ⟨w0.heap.size, 0, none⟩ (.slice A8 ((encs l pre).length + 1) c8)).setCell ⟨w0.heap.size + 1, 0, none⟩ (.bool bb)) := ((Keeps.refl _ _).setCell _ 0 _ (.inl (by simp))).setCell _ 0 _ (.inl (by simp))
        have hB8 := below_keeps HB3.out K8 (by simp) HB3.out.size
        have hs8 := K8.size
        have hB1 := HB1.out
        refine ⟨rfl, ⟨_, Kd.S_step ho8 (fun q hq hlt => K8.block q hlt (by simp; omega)), ?_, ?_, hm2⟩, hB8, by omega, hB8.os.trans hB1.os.symm, hB8.tape.trans hB1.tape.symm, hB8.output.trans hB1.output.symm, fun b hb => ?_⟩
        · have h := blk_set_other (blk_set_same HOB3.out 0 (.slice A8 ((encs l pre).length + 1) c8)) ⟨w0.heap.size + 1, 0, none⟩ (.bool bb) (by simp)
          simpa using h
        · have h := blk_set_same (blk_set_other HOK3.out ⟨w0.heap.size, 0, none⟩ (.slice A8 ((encs l pre).length + 1) c8) (by simp)) 0 (.bool bb)
          rw [hbv]
          simpa using h
        · rw [← HKP.out b hb]
          have := HKS.out
          exact K8.block b (by omega) (by simp; omega)
end Go.Proofs.Ytcdmgalhboijcaa.Sc
/- script's Legal and Encode, walked. -/
set_option linter.unusedVariables false
set_option linter.unusedSimpArgs false
namespace Go.Proofs.Ytcdmgalhboijcaa.Sc
open Go.RowKit Go.Shelf Go.Maps Go.Proofs.YtcdmgalhboijcaaW.PrintWords Go.Proofs.YtcdmgalhboijcaaW.PrintMore

theorem eg32 (args : Array Value) (w : World) : (callFunc 32 args).run Try.prog w = .ok (.enter 32 args) w := by kernel_rfl
theorem eg40 (args : Array Value) (w : World) : (callFunc 40 args).run Try.prog w = .ok (.enter 40 args) w := by kernel_rfl
theorem see0_any (v : Int) (a b c d : Int) (A : Option Addr) (n m : Nat) (w : World) : Calls Try.prog 32 #[.agg #[.int .i64 a, .int .i64 b, .int .i64 c, .int .i64 d, .slice A n m], .int .i64 v] w fun e w' => e = .returned (.tuple #[]) ∧ w' = w.alloc (.cells #[.int .i64 a, .int .i64 b, .int .i64 c, .int .i64 d, .slice A n m] 39) := by
  go_enter Try.func32, Try.ntmps32
  go_wp2
  go_returns
  exact ⟨rfl, rfl⟩
theorem sees0 (l : List Tsk) (jobs : List Jb) (w0 : World) : Sees l jobs w0 32 #[] (fun _ _ _ => True) := by
  refine ⟨fun _ _ _ _ _ _ _ => trivial, ?_⟩
  intro m pre j wr w1 A4 c4 _ _ hk hB hm hmr _ _ _ _ _ _
  rw [Array.append_empty]
  refine (see0_any _ _ _ _ _ _ _ _ _).mono ?_
  rintro e w2 ⟨rfl, rfl⟩
  have hB1 := below_keeps hB hk (by simp) hB.size
  refine ⟨rfl, trivial, hB1.alloc hB1.size _, by simp, rfl, rfl, rfl, fun b hb => ?_⟩
  have h1 := hk.size
  exact (below_alloc (Below.refl w1.heap.size w1) _).block b (by omega)
theorem Legal_any (A0 : Option Addr) (c0 : Nat) (l : List Tsk) (A1 : Option Addr) (c1 : Nat) (jobs : List Jb) (w : World) (hsz : ∀ x ∈ l, x.nm.size ≤ maxLen) (hwf : ∀ x ∈ l, (Lit.int .i64 x.p).wf = true)
    (h0 : kTsk.C w A0 l.length l) (hc0 : l.length ≤ c0) (h1 : kJb.C w A1 jobs.length jobs) (hc1 : jobs.length ≤ c1) :
    Calls Try.prog 19 #[.slice A0 l.length c0, .slice A1 jobs.length c1] w fun e w' => e = .returned (.bool (legalL l jobs)) ∧ Below w.heap.size w w' := by
  have H0 := Lib.hid h0
  have H1 := Lib.hid h1
  have HSZ := Lib.hid hsz
  have HWF := Lib.hid hwf
  clear h0 h1 hsz hwf
  go_enter Try.func19, Try.ntmps19
  go_wp2_with fail
  refine (legal_any A0 c0 l A1 c1 jobs w _ 32 #[] (fun _ _ _ => True) eg32 HSZ.out HWF.out (Below.refl _ _) H0.out hc0 H1.out hc1 (sees0 l jobs w) (fun _ _ _ _ _ => trivial)).mono ?_
  rintro e w' ⟨rfl, hB, -⟩
  go_wp2
  go_ret
  exact ⟨rfl, hB⟩

theorem sees1 (l : List Tsk) (jobs : List Jb) (w0 : World) : Sees l jobs w0 40 #[.pointer (some ⟨w0.heap.size, 0, none⟩), .pointer (some ⟨w0.heap.size + 1, 0, none⟩)] (EncInv l w0.heap.size) := by
  refine ⟨fun m pre w1 w2 h k _ => encInv_keep l _ m pre w1 w2 h k, ?_⟩
  intro m pre j wr w1 A4 c4 hinv hfine hk hB hm hmr _ hpl hj hsb hC hc
  exact enc1_any l hfine w0 m pre j wr w1 A4 c4 hinv hk hB hmr hpl hj hsb hC hc
def encodeL (l : List Tsk) (jobs : List Jb) : List Rw × Bool := if legalL l jobs && okAll l jobs then (encs l jobs, true) else ([], false)
theorem Encode_any (A0 : Option Addr) (c0 : Nat) (l : List Tsk) (A1 : Option Addr) (c1 : Nat) (jobs : List Jb) (w : World) (hsz : ∀ x ∈ l, x.nm.size ≤ maxLen) (hwf : ∀ x ∈ l, (Lit.int .i64 x.p).wf = true)
    (h0 : kTsk.C w A0 l.length l) (hc0 : l.length ≤ c0) (h1 : kJb.C w A1 jobs.length jobs) (hc1 : jobs.length ≤ c1) :
    Calls Try.prog 34 #[.slice A0 l.length c0, .slice A1 jobs.length c1] w fun e w' => ∃ v, e = .returned (.tuple #[v, .bool (encodeL l jobs).2]) ∧ Kd.S kRw 36 w' w.heap.size (fun _ => True) v (encodeL l jobs).1 ∧ Below w.heap.size w w' := by
  have H0 := Lib.hid h0
  have H1 := Lib.hid h1
  have HSZ := Lib.hid hsz
  have HWF := Lib.hid hwf
  clear h0 h1 hsz hwf
  go_enter Try.func34, Try.ntmps34
  go_wp2_with fail
  have hb6 := blk_alloc (blk_new w (.cells #[.slice none 0 0] 23)) (.cells #[.bool true] 4)
  have hb7 := blk_new1 w (.cells #[.slice none 0 0] 23) (.cells #[.bool true] 4)
  have hB0 : Below w.heap.size w ((w.alloc (.cells #[.slice none 0 0] 23)).alloc (.cells #[.bool true] 4)) := ((Below.refl _ _).alloc (Nat.le_refl _) _).alloc (by simp) _
  have hsz2 : ((w.alloc (.cells #[.slice none 0 0] 23)).alloc (.cells #[.bool true] 4)).heap.size = w.heap.size + 2 := by simp
  generalize ((w.alloc (.cells #[.slice none 0 0] 23)).alloc (.cells #[.bool true] 4)) = w2 at hb6 hb7 hB0 hsz2 ⊢
  refine (legal_any A0 c0 l A1 c1 jobs w w2 40 #[.pointer (some ⟨w.heap.size, 0, none⟩), .pointer (some ⟨w.heap.size + 1, 0, none⟩)] (EncInv l w.heap.size) eg40 HSZ.out HWF.out hB0 H0.out hc0 H1.out hc1 (sees1 l jobs w) (fun m w1 k hm _ => ⟨_, Kd.S_nil _ _ _ _ _, k.blk hb6 (by simp), k.blk hb7 (by simp), by omega⟩)).mono ?_
  clear hb6 hb7 hB0 hsz2 w2
  rintro e w3 ⟨rfl, hB3, hI⟩
  cases hle : legalL l jobs
  · have hen : encodeL l jobs = ([], false) := by unfold encodeL; rw [hle]; rfl
    have HEN := Lib.hid hen
    have HB3 := Lib.hid hB3
    clear hen hB3 hI
    go_wp2
    go_ret2
    rw [HEN.out]
    exact ⟨_, rfl, Kd.S_nil _ _ _ _ _, HB3.out⟩
  · obtain ⟨m, v, hS, hO, hOk, hm2⟩ := hI hle
    obtain ⟨A7, c7, rfl⟩ := Kd.R_slice (Kd.S_R hS)
    have HS := Lib.hid hS
    have HB3 := Lib.hid hB3
    obtain ⟨ob, hob⟩ : ∃ b, okAll l jobs = b := ⟨_, rfl⟩
    rw [hob] at hOk
    have o0 := cell_blk hO 0
    have p0 := cell_blk hOk 0
    clear hS hB3 hI hO hOk
    cases ob
    · have hen : encodeL l jobs = ([], false) := by unfold encodeL; rw [hle, hob]; rfl
      have HEN := Lib.hid hen
      clear hen hob
      go_wp2
      go_ret2
      rw [HEN.out]
      exact ⟨_, rfl, Kd.S_nil _ _ _ _ _, HB3.out⟩
    · have hen : encodeL l jobs = (encs l jobs, true) := by unfold encodeL; rw [hle, hob]; rfl
      have HEN := Lib.hid hen
      clear hen hob
      go_wp2
      go_ret2
      rw [HEN.out]
      exact ⟨_, rfl, Kd.S_mono HS.out (fun _ _ => trivial), HB3.out⟩
end Go.Proofs.Ytcdmgalhboijcaa.Sc
