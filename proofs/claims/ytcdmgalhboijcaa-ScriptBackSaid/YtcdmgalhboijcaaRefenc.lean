/- The document's Encode, walked: it tells what the program's does. -/
import Derived.Test.YtcdmgalhboijcaaReflegal
import Derived.Test.YtcdmgalhboijcaaEnc
import Derived.Deep.RegionHeld3
set_option linter.unusedVariables false
set_option linter.unusedSimpArgs false
namespace Go.Proofs.Ytcdmgalhboijcaa.Sc
open Go.RowKit Go.Shelf Go.Maps Go.Proofs.YtcdmgalhboijcaaW.PrintWords Go.Proofs.YtcdmgalhboijcaaW.PrintMore Go.Proofs.YtcdmgalhboijcaaW.PrintLast
open Go.Proofs.Ytcdmgalhboijcaa.Pu Go.Proofs.Ytcdmgalhboijcaa.D

theorem okFrom_mid (l : List Tsk) (j : Jb) (ys : List Jb) : ∀ (xs pre : List Jb), okFrom l pre (xs ++ j :: ys) = (okFrom l pre xs && (decide (gapOf l (pre ++ xs) j < 1048576) && okFrom l (pre ++ xs ++ [j]) ys))
  | [], pre => by simp [okFrom]
  | x :: xs, pre => by
    simp only [List.cons_append, okFrom]
    rw [okFrom_mid l j ys xs]
    simp [Bool.and_assoc]

def encG.T19 : Bool × List (List Nat × List Nat) := (true, [([], []), ([0], [0]), ([], []), ([2], [2]), ([], []), ([3, 4], [3, 4]), ([5], [5]), ([6], [6]), ([7], [7]), ([1, 8], [1, 8]), ([0, 1, 2, 3, 4, 5, 6, 7, 8, 9], []), ([10, 9, 9, 0, 1, 2, 3, 4, 5, 6, 7, 8, 9], [9, 10])])
def encG.B19 : List Nat := [0, 1, 0, 4, 0, 28, 60, 124, 252, 511, 1023, 2047]
theorem encG.tab19 : rtab .any (opsOf Try.f35 19) = encG.T19 := by kernel_rfl
theorem encG.bits19 : waitsOk encG.T19.2 encG.B19 = true := by kernel_rfl

set_option maxRecDepth 100000 in
set_option maxHeartbeats 8000000 in
theorem refEncode_any (A0 : Option Addr) (c0 : Nat) (l : List Tsk) (A1 : Option Addr) (c1 : Nat) (jobs : List Jb) (w : World) (hsz : ∀ x ∈ l, x.nm.size ≤ maxLen)
    (h0 : kTsk.C w A0 l.length l) (hc0 : l.length ≤ c0) (h1 : kJb.C w A1 jobs.length jobs) (hc1 : jobs.length ≤ c1) :
    Calls Try.prog 35 #[.slice A0 l.length c0, .slice A1 jobs.length c1] w fun e w' => ∃ v, e = .returned (.agg #[v, .bool (encodeL l jobs).2]) ∧ Kd.S kRw 36 w' w.heap.size (fun _ => True) v (encodeL l jobs).1 ∧ Below w.heap.size w w' := by
  have H0 := Lib.hid h0
  have H1 := Lib.hid h1
  have HSZ := Lib.hid hsz
  have hm1 : jobs.length ≤ 9223372036854775807 := h1.2.1
  have hu69 := Try.underlying69
  clear h0 h1 hsz
  go_enter Try.func35, Try.ntmps35
  go_wp2_with fail
  have J4 := Lib.hid (blk_new w (.cells #[.slice none 0 0, .bool false] 69))
  have KW := Lib.hid ((Keeps.refl [] w).alloc (.cells #[.slice none 0 0, .bool false] 69))
  generalize (w.alloc (.cells #[.slice none 0 0, .bool false] 69)) = w0 at J4 KW ⊢
  refine (refLegal_any A0 c0 l A1 c1 jobs _ HSZ.out (Kd.C_below H0.out (KW.out.below (by simp) (Nat.le_refl _))) hc0 (Kd.C_below H1.out (KW.out.below (by simp) (Nat.le_refl _))) hc1).mono ?_
  rintro e w1 ⟨rfl, B1⟩
  have K1 := Keeps.of_below (F := []) B1
  have J4a := Lib.hid (K1.blk J4.out (by simp))
  have KWa := Lib.hid (KW.out.trans K1)
  clear J4 KW B1 K1
  cases hle : legalL l jobs
  · have hen : encodeL l jobs = ([], false) := by unfold encodeL; rw [hle]; rfl
    have HEN := Lib.hid hen
    have f0 := free_blk J4a.out 0
    have f1 := free_blk J4a.out 1
    have c40 := cell_blk J4a.out 0
    have c41 := cell_blk J4a.out 1
    clear hen hle
    go_wp2
    have j4 : ((w1.setCell ⟨w.heap.size, 0, none⟩ (.slice none 0 0)).setCell ⟨w.heap.size, 1, none⟩ (.bool false)).heap[w.heap.size]? = some (.cells #[.slice none 0 0, .bool false] 69 (0, 0)) := by simpa using blk_set_same (blk_set_same J4a.out 0 (.slice none 0 0)) 1 (.bool false)
    have kw := (KWa.out.setCell w.heap.size 0 (.slice none 0 0) (.inr (by omega))).setCell w.heap.size 1 (.bool false) (.inr (by omega))
    clear f0 f1 c40 c41
    generalize ((w1.setCell ⟨w.heap.size, 0, none⟩ (.slice none 0 0)).setCell ⟨w.heap.size, 1, none⟩ (.bool false)) = w5 at j4 kw ⊢
    have c40 := cell_blk j4 0
    have c41 := cell_blk j4 1
    refine bodyPost_ret (v := .agg #[.slice none 0 0, .bool false]) (by simp [results, Try.results35, go_sem, c40, c41, hu69]) rfl ⟨.slice none 0 0, by rw [HEN.out], by rw [HEN.out]; exact Kd.S_nil _ _ _ _ _, kw.below (by simp) (Nat.le_refl _)⟩
  · have hlg := hle
    unfold legalL at hlg
    simp only [Bool.and_eq_true, decide_eq_true_eq] at hlg
    obtain ⟨hmay, hn4, hlf⟩ := hlg
    have hf := may_fine hmay
    obtain ⟨hl1, hl2, hfine⟩ := hf
    have HFINE := Lib.hid hfine
    have HLF := Lib.hid hlf
    have HLE := Lib.hid hle
    clear hmay hfine hlf HSZ hle
    go_wp2_with fail
    have J6 := blk_new w1 (.cells #[.slice none 0 0, .bool true] 69)
    have J4b := blk_alloc J4a.out (.cells #[.slice none 0 0, .bool true] 69)
    have KWb := KWa.out.alloc (.cells #[.slice none 0 0, .bool true] 69)
    have hgw : w.heap.size < w1.heap.size := blk_lt J4a.out
    obtain ⟨g, hge⟩ : ∃ g, g = w1.heap.size := ⟨_, rfl⟩
    rw [← hge] at J6 hgw ⊢
    have hB0 : Below w.heap.size w (w1.alloc (.cells #[.slice none 0 0, .bool true] 69)) := KWb.below (by simp) (Nat.le_refl _)
    clear KWb KWa J4a hge
    generalize w1.alloc (.cells #[.slice none 0 0, .bool true] 69) = w2 at J6 J4b hB0 ⊢
    go_loopg [7] (jobs.length) (fun gh iv wr => ∃ (i : Nat) (pre : List Jb) (v : Value), jobs.length - i ≤ gh ∧ iv = .int .i64 i ∧ i ≤ jobs.length ∧ pre = jobs.take i ∧ legalFrom l pre (jobs.drop i) = true ∧ okAll l pre = true ∧ SoonB l pre ∧ Kd.S kRw 36 wr w.heap.size (fun q => q ≠ w.heap.size ∧ q ≠ g) v (encs l pre) ∧ wr.heap[g]? = some (.cells #[v, .bool true] 69 (0, 0)) ∧ wr.heap[w.heap.size]? = some (.cells #[.slice none 0 0, .bool false] 69 (0, 0)) ∧ Below w.heap.size w wr)
    case atStart => exact ⟨0, [], .slice none 0 0, by omega, rfl, by omega, by simp, HLF.out, rfl, soonB_nil l, Kd.S_nil _ _ _ _ _, J6, J4b, hB0⟩
    case round =>
      clear J6 J4b hB0
      obtain ⟨wq, hwq⟩ : ∃ wq, wq = wr := ⟨_, rfl⟩
      subst hwq
      obtain ⟨i, pre, v, hgh, rfl, hin, hpre, hlf, hok, hsoon, hS, hG, h4, hB⟩ := hrel
      have hpl : pre.length = i := by rw [hpre]; simp; omega
      have HLFR := Lib.hid hlf
      have HOKA := Lib.hid hok
      have HSO := Lib.hid hsoon
      have HSS := Lib.hid hS
      have HG := Lib.hid hG
      have H4 := Lib.hid h4
      have HB := Lib.hid hB
      have HT := Lib.hid (Kd.C_below H0.out hB)
      have HW := Lib.hid (Kd.C_below H1.out hB)
      have HPRE := Lib.hid hpre
      have HPL := Lib.hid hpl
      clear hlf hok hsoon hS hG h4 hB hpre hpl
      by_cases hlt : i < jobs.length
      · obtain ⟨j, hj⟩ : ∃ j, jobs[i]? = some j := ⟨jobs[i]'(by omega), by simp⟩
        rcases c_addr HW.out (by decide) with he | ⟨b1, o1, ha1⟩
        · rw [he] at hj; simp at hj
        subst ha1
        obtain ⟨cs, hK, hcell⟩ := c_cells HW.out i j hj
        obtain ⟨A4, c4, rfl, hl4, hC4⟩ := kJb_open hK
        have r0 : wq.cell? ⟨b1, o1 + i * 5, none⟩ = some (.int .i64 j.task) := hcell 0 _ rfl
        have r1 : wq.cell? ⟨b1, o1 + i * 5 + 1, none⟩ = some (.int .i64 j.arrive) := hcell 1 _ rfl
        have r2 : wq.cell? ⟨b1, o1 + i * 5 + 2, none⟩ = some (.int .i64 j.release) := hcell 2 _ rfl
        have r3 : wq.cell? ⟨b1, o1 + i * 5 + 3, none⟩ = some (.int .i64 j.work) := hcell 3 _ rfl
        have r4 : wq.cell? ⟨b1, o1 + i * 5 + 4, none⟩ = some (.slice A4 j.cuts.length c4) := hcell 4 _ rfl
        have HC4 := Lib.hid hC4
        have HJ := Lib.hid hj
        have hlt' : (i : Int) < (jobs.length : Int) := by omega
        have e1 : jobs.drop i = j :: jobs.drop (i + 1) := by
          rw [List.drop_eq_getElem_cons hlt]
          rw [List.getElem?_eq_getElem hlt] at hj
          injection hj with hj
          rw [hj]
        have hlf2 := HLFR.out
        rw [e1, legalFrom, Bool.and_eq_true] at hlf2
        obtain ⟨hjob, hrest⟩ := hlf2
        have hmid : okAll l jobs = (decide (gapOf l pre j < 1048576) && okFrom l (pre ++ [j]) (jobs.drop (i + 1))) := by
          have h := okFrom_mid l j (jobs.drop (i + 1)) pre []
          rw [List.nil_append, ← e1, HPRE.out, List.take_append_drop, ← HPRE.out] at h
          have hq := HOKA.out
          unfold okAll at hq ⊢
          rw [h, hq, Bool.true_and]
        have HMID := Lib.hid hmid
        have HJOB := Lib.hid hjob
        have HREST := Lib.hid hrest
        have hjb := jobOk_true hjob
        obtain ⟨jt0, jt1, ja0, ja1, jr0, jr1, jw0, jw1, jcs⟩ := hjb
        obtain ⟨k, hke⟩ : ∃ k : Nat, j.task = (k : Int) := Int.eq_ofNat_of_zero_le jt0
        have hkl : k < l.length := by omega
        have htm := tsk_mem jt0 jt1
        obtain ⟨t, hte⟩ : ∃ t, tsk l j.task = t := ⟨_, rfl⟩
        rw [hte] at htm jr1 jw1 jcs
        rcases c_addr HT.out (by decide) with he | ⟨b0, o0, ha0⟩
        · rw [he] at hl1; simp at hl1
        subst ha0
        obtain ⟨cs, hK0, hcell0⟩ := c_cells HT.out k t (by have := htm.2; rwa [hke] at this)
        rw [kTsk_open hK0] at hcell0
        have t2 : wq.cell? ⟨b0, o0 + k * 7 + 2, none⟩ = some (.int .i64 t.t) := hcell0 2 _ rfl
        have hF := HFINE.out t htm.1
        have fj0 := hF.j0
        have fj1 := hF.j1
        have fc1 := hF.c1
        have fq1 := hF.q1
        have ft0 := hF.t0
        have ft1 := hF.t1
        have HTE := Lib.hid hte
        have HCS := Lib.hid jcs
        have hkl' : (k : Int) < (l.length : Int) := by omega
        have HKE := Lib.hid hke
        rw [hke] at r0
        obtain ⟨sn, hsn⟩ : ∃ sn, soon l pre j.task = sn := ⟨_, rfl⟩
        have hsb := HSO.out j.task
        have hla := soon_lastV l j.task pre
        rw [hsn] at hsb hla ja0
        rw [hte] at hla
        obtain ⟨hs0, hs1⟩ := hsb
        have HLA := Lib.hid hla
        have HSN := Lib.hid hsn
        have hic : (i : Int) ≤ (c1 : Int) := by omega
        have hmc : j.cuts.length ≤ 2147483647 := by have := cutsOk_len jcs (by omega); omega
        have hcb : ∀ c ∈ j.cuts, 1 ≤ c ∧ c ≤ 2147483647 := fun c hc => by have h := cutsOk_mem jcs c hc; omega
        have HCB := Lib.hid hcb
        have hgl : g < wq.heap.size := blk_lt HG.out
        clear hcell hK hC4 hj e1 hjob hrest hmid jt0 jt1 htm hte hcell0 hK0 hF jcs hke hsn hla hcb HLFR
        go_wp2_with fail
        have J10 := Lib.hid (blk_new wq (.cells #[.int .i64 k, .int .i64 j.arrive, .int .i64 j.release, .int .i64 j.work, .slice A4 j.cuts.length c4] 39))
        have KW := Lib.hid ((Keeps.refl [] wq).alloc (.cells #[.int .i64 k, .int .i64 j.arrive, .int .i64 j.release, .int .i64 j.work, .slice A4 j.cuts.length c4] 39))
        clear r0 r1 r2 r3 r4
        have T2 := Lib.hid t2
        clear t2
        generalize (wq.alloc (.cells #[.int .i64 k, .int .i64 j.arrive, .int .i64 j.release, .int .i64 j.work, .slice A4 j.cuts.length c4] 39)) = W1 at J10 KW ⊢
        obtain ⟨lv, hlv⟩ : ∃ v, lastV pre j.task = v := ⟨_, rfl⟩
        have HLV := Lib.hid (show lastV pre (k : Int) = lv from by rw [← HKE.out]; exact hlv)
        have HLA2 := HLA.out
        rw [hlv] at HLA2
        have HLA3 := Lib.hid HLA2
        have hCp := Kd.C_below (Kd.C_take HW.out hin) (KW.out.below (by simp) (Nat.le_refl _))
        rw [← HPRE.out, HPL.out] at hCp
        have HCP := Lib.hid hCp
        have j0 := cell_blk J10.out 0
        clear hlv HLA HLA2 hCp
        have hi0 : (0 : Int) ≤ (i : Int) := by omega
        have hi1 : (i : Int) ≤ (jobs.length : Int) := by omega
        go_quiet ((go_at_call 30; exact Calls.quiet_of (last_q _ c1 i _ pre _ lv _ HPL.out HCP.out (by omega) (by omega) HLV.out)))
        have k2 : Keeps [] W1 (W1.drewN nq) := (Keeps.refl _ _).drewN nq
        have J10b := Lib.hid (k2.blk J10.out (by simp))
        have KW2 := Lib.hid (KW.out.trans k2)
        clear j0 J10 KW HCP k2
        generalize W1.drewN nq = W2 at J10b KW2 ⊢
        rcases HLA3.out with ⟨hlv, hse⟩ | ⟨p, y, hlv, hy, hse⟩
        · subst hlv
          have J10c := J10b
          have KW3 := KW2
          clear J10b KW2 HLA3 HLV
          generalize W2 = W3 at J10c KW3 ⊢
          have hgap : gapOf l pre j = j.arrive := by unfold gapOf; rw [HSN.out]; omega
          have HGAP := Lib.hid hgap
          have hg0 : 0 ≤ j.arrive := by omega
          have hg1 : j.arrive ≤ 17592186044416 := by omega
          have hBq := below_keeps HB.out KW3.out (by simp) HB.out.size
          have HBQ := Lib.hid hBq
          have HG3 := Lib.hid (KW3.out.blk HG.out (by simp))
          have H43 := Lib.hid (KW3.out.blk H4.out (by simp))
          have hS3 := Kd.S_below (Kd.S_bound HSS.out) (KW3.out.below (by simp) (Nat.le_refl _))
          have HS3 := Lib.hid hS3
          have hq3 := KW3.out.size
          clear hgap hBq hS3
          by_cases hbig : 1048576 ≤ j.arrive
          · have hen : encodeL l jobs = ([], false) := by
              unfold encodeL
              rw [HLE.out, HMID.out, HGAP.out, decide_eq_false (by omega)]
              rfl
            have HEN := Lib.hid hen
            have f0 := free_blk H43.out 0
            have f1 := free_blk H43.out 1
            have c40 := cell_blk H43.out 0
            have c41 := cell_blk H43.out 1
            clear hen
            go_wp2
            have j4 : ((W3.setCell ⟨w.heap.size, 0, none⟩ (.slice none 0 0)).setCell ⟨w.heap.size, 1, none⟩ (.bool false)).heap[w.heap.size]? = some (.cells #[.slice none 0 0, .bool false] 69 (0, 0)) := by simpa using blk_set_same (blk_set_same H43.out 0 (.slice none 0 0)) 1 (.bool false)
            have kw : Keeps [w.heap.size] W3 ((W3.setCell ⟨w.heap.size, 0, none⟩ (.slice none 0 0)).setCell ⟨w.heap.size, 1, none⟩ (.bool false)) := ((Keeps.refl _ _).setCell _ 0 _ (.inl (by simp))).setCell _ 1 _ (.inl (by simp))
            have hB9 := below_keeps HBQ.out kw (by simp) HBQ.out.size
            clear f0 f1 c40 c41 kw
            generalize ((W3.setCell ⟨w.heap.size, 0, none⟩ (.slice none 0 0)).setCell ⟨w.heap.size, 1, none⟩ (.bool false)) = w5 at j4 hB9 ⊢
            have c40 := cell_blk j4 0
            have c41 := cell_blk j4 1
            refine bodyPost_ret (v := .agg #[.slice none 0 0, .bool false]) (by simp [results, Try.results35, go_sem, c40, c41, hu69]) rfl ⟨.slice none 0 0, by rw [HEN.out], by rw [HEN.out]; exact Kd.S_nil _ _ _ _ _, hB9⟩
          · have j0 := cell_blk J10c.out 0
            have j1 := cell_blk J10c.out 1
            have j2 := cell_blk J10c.out 2
            have j3 := cell_blk J10c.out 3
            have hj1 : wq.heap.size < W3.heap.size := blk_lt J10c.out
            have HC43 := Lib.hid (Kd.C_below HC4.out (KW3.out.below (by simp) (Nat.le_refl _)))
            go_wp2_with fail
            have hrb := blk_new W3 (.cells #[.int .i64 k, .int .i64 j.arrive, .int .i64 (j.release - j.arrive), .int .i64 (j.work - 1), .slice none 0 0] 36)
            have hbW : Below W3.heap.size W3 (W3.alloc (.cells #[.int .i64 k, .int .i64 j.arrive, .int .i64 (j.release - j.arrive), .int .i64 (j.work - 1), .slice none 0 0] 36)) := (Below.refl _ _).alloc (Nat.le_refl _) _
            clear j0 j1 j2 j3
            generalize W3.alloc (.cells #[.int .i64 k, .int .i64 j.arrive, .int .i64 (j.release - j.arrive), .int .i64 (j.work - 1), .slice none 0 0] 36) = W4 at hrb hbW ⊢
            go_loopg [12] (j.cuts.length) (fun gh iv wr2 => ∃ (a : Nat) (v' : Value), j.cuts.length - a ≤ gh ∧ iv = .int .i64 a ∧ a ≤ j.cuts.length ∧ Kd.R (Kd.int .i64) 3 wr2 W3.heap.size (fun q => q ≠ W3.heap.size) v' ((j.cuts.take a).map (· - 1)) ∧ wr2.heap[W3.heap.size]? = some (.cells #[.int .i64 k, .int .i64 j.arrive, .int .i64 (j.release - j.arrive), .int .i64 (j.work - 1), v'] 36 (0, 0)) ∧ Below W3.heap.size W3 wr2)
            case atStart => exact ⟨0, .slice none 0 0, by omega, rfl, by omega, Kd.R_nil _ _ _ _ _, hrb, hbW⟩
            case round =>
              clear hrb hbW
              obtain ⟨a, v', hgh3, rfl, hal, hR, hrb, hBq⟩ := hrel
              have J10d := Lib.hid ((Keeps.of_below (F := []) hBq).blk J10c.out (by simp))
              have HR := Lib.hid hR
              have HRB := Lib.hid hrb
              have HBR := Lib.hid hBq
              clear hR hrb hBq
              have j4 := cell_blk J10d.out 4
              by_cases hac : a < j.cuts.length
              · obtain ⟨c, hc⟩ : ∃ c, j.cuts[a]? = some c := ⟨j.cuts[a], by simp [hac]⟩
                have HCr := Lib.hid (Kd.C_below HC43.out HBR.out)
                obtain ⟨ad, had, hcell⟩ := at_int HCr.out a c hc
                subst had
                have hac' : (a : Int) < (j.cuts.length : Int) := by omega
                obtain ⟨hc0, hc1'⟩ := HCB.out c (List.mem_of_getElem? hc)
                have e1 : (j.cuts.take (a + 1)).map (· - 1) = (j.cuts.take a).map (· - 1) ++ [c - 1] := by rw [List.take_add_one, hc, List.map_append]; rfl
                have E1 := Lib.hid e1
                have hla : ((j.cuts.take a).map (· - 1)).length = a := by simp; omega
                have HLA7 := Lib.hid hla
                have hwc : IntKind.i64.wrap (c - 1) = c - 1 := IntWalk.i64_in _ (by omega)
                have hc9 : (0 : Int) ≤ (a : Int) := by omega
                have AL0 : Hid (∀ o, (wr.drew.alloc o).cell? ⟨W3.heap.size, 4, none⟩ = some v') := Lib.hid (fun o => cell_blk (blk_alloc (show wr.drew.heap[W3.heap.size]? = _ from HRB.out) o) 4)
                have AL1 : Hid (∀ o, (wr.drew.alloc o).cell? ⟨wq.heap.size, 4, none⟩ = some (.slice (some ad) j.cuts.length c4)) := Lib.hid (fun o => cell_blk (blk_alloc (show wr.drew.heap[wq.heap.size]? = _ from J10d.out) o) 4)
                have AL2 : Hid (∀ o, (wr.drew.alloc o).cell? (ad.add a) = some (.int .i64 c)) := Lib.hid (fun o => by
                  obtain ⟨ad', had', hcell'⟩ := at_int (Kd.C_alloc (Kd.C_drew HCr.out) o) a c hc
                  injection had' with had'
                  rw [had']; exact hcell')
                have HCI := Lib.hid hc
                have r4x : wr.drew.cell? ⟨W3.heap.size, 4, none⟩ = some v' := cell_blk (show wr.drew.heap[W3.heap.size]? = _ from HRB.out) 4
                have hlw : W3.heap.size < wr.heap.size := blk_lt HRB.out
                clear hc e1 hla
                go_wp2_with fail
                refine start_ (n := 12) (S := fun w' => w'.cell? ⟨W3.heap.size, 4, none⟩ = some v' ∧ w'.cell? ⟨wq.heap.size, 4, none⟩ = some (.slice (some ad) j.cuts.length c4) ∧ w'.cell? (ad.add a) = some (.int .i64 c)) (ds := [11]) #[false, false, false, false, false, false, false, false, false, false, false, false] (by kernel_rfl) rfl rfl ⟨cell_blk (show wr.drew.heap[W3.heap.size]? = _ from HRB.out) 4, cell_blk (show wr.drew.heap[wq.heap.size]? = _ from J10d.out) 4, hcell⟩ (fun hHeld => ?_)
                refine with_tabW encG.tab19 encG.bits19 (fun HT_ HW_ => ?_)
                refine pure_ (i := 0) (N := some 76) (v := ?_) (a' := ?_) #[true, false, false, false, false, false, false, false, false, false, false, false] rfl rfl (any_of HT_.out (by kernel_rfl)) (fun _ _ _ h => h) (Or.inl ⟨by rfl, ?_⟩) ?_ ?_
                rotate_left
                · intro w'
                  go_simp
                  with_reducible rfl
                rotate_left
                · simp only [Act.put, List.setIfInBounds_toArray, List.set_cons_zero, List.set_cons_succ]
                  rfl
                refine pure_ (i := 2) (N := some 78) (v := ?_) (a' := ?_) #[true, false, true, false, false, false, false, false, false, false, false, false] rfl rfl (any_of HT_.out (by kernel_rfl)) (fun _ _ _ h => h) (Or.inl ⟨by rfl, ?_⟩) ?_ ?_
                rotate_left
                · intro w'
                  go_simp
                  with_reducible rfl
                rotate_left
                · simp only [Act.put, List.setIfInBounds_toArray, List.set_cons_zero, List.set_cons_succ]
                  rfl
                refine pure_ (i := 4) (N := some 80) (v := ?_) (a' := ?_) #[true, false, true, false, true, false, false, false, false, false, false, false] rfl rfl (any_of HT_.out (by kernel_rfl)) (fun _ _ _ h => h) (Or.inl ⟨by rfl, ?_⟩) ?_ ?_
                rotate_left
                · intro w'
                  go_simp
                  with_reducible rfl
                rotate_left
                · simp only [Act.put, List.setIfInBounds_toArray, List.set_cons_zero, List.set_cons_succ]
                  rfl
                refine take_ (i := 1) (N := some 77) (v := ?_) (a' := ?_) #[true, true, true, false, true, false, false, false, false, false, false, false] rfl rfl (take_ofW HT_.out HW_.out (by kernel_rfl)) (fun _ _ _ h => h) (Or.inl ⟨by rfl, ?_⟩) hHeld ?_ ?_
                rotate_left
                · rintro w' ⟨s0, s1, s2⟩
                  go_simp
                  with_reducible rfl
                rotate_left
                · simp only [Act.put, List.setIfInBounds_toArray, List.set_cons_zero, List.set_cons_succ]
                  rfl
                refine take_ (i := 3) (N := some 79) (v := ?_) (a' := ?_) #[true, true, true, true, true, false, false, false, false, false, false, false] rfl rfl (take_ofW HT_.out HW_.out (by kernel_rfl)) (fun _ _ _ h => h) (Or.inl ⟨by rfl, ?_⟩) hHeld ?_ ?_
                rotate_left
                · rintro w' ⟨s0, s1, s2⟩
                  go_simp
                  with_reducible rfl
                rotate_left
                · simp only [Act.put, List.setIfInBounds_toArray, List.set_cons_zero, List.set_cons_succ]
                  rfl
                refine pure_ (i := 5) (N := some 81) (v := ?_) (a' := ?_) #[true, true, true, true, true, true, false, false, false, false, false, false] rfl rfl (any_of HT_.out (by kernel_rfl)) (fun _ _ _ h => h) (Or.inl ⟨by rfl, ?_⟩) ?_ ?_
                rotate_left
                · intro w'
                  go_simp
                  with_reducible rfl
                rotate_left
                · simp only [Act.put, List.setIfInBounds_toArray, List.set_cons_zero, List.set_cons_succ]
                  rfl
                refine take_ (i := 6) (N := some 82) (v := ?_) (a' := ?_) #[true, true, true, true, true, true, true, false, false, false, false, false] rfl rfl (take_ofW HT_.out HW_.out (by kernel_rfl)) (fun _ _ _ h => h) (Or.inl ⟨by rfl, ?_⟩) hHeld ?_ ?_
                rotate_left
                · rintro w' ⟨s0, s1, s2⟩
                  go_simp
                  with_reducible rfl
                rotate_left
                · simp only [Act.put, List.setIfInBounds_toArray, List.set_cons_zero, List.set_cons_succ]
                  rfl
                refine pure_ (i := 7) (N := some 83) (v := ?_) (a' := ?_) #[true, true, true, true, true, true, true, true, false, false, false, false] rfl rfl (any_of HT_.out (by kernel_rfl)) (fun _ _ _ h => h) (Or.inl ⟨by rfl, ?_⟩) ?_ ?_
                rotate_left
                · intro w'
                  go_simp
                  with_reducible rfl
                rotate_left
                · simp only [Act.put, List.setIfInBounds_toArray, List.set_cons_zero, List.set_cons_succ]
                  rfl
                refine one_ (i := 8) (N := some 84) #[true, true, true, true, true, true, true, true, true, false, false, false] rfl rfl (one_of HT_.out (by kernel_rfl)) (by decide) (fun K hK => ?_)
                refine value_ (w1 := ?_) (v := ?_) (by rfl) rfl ?_ ?_
                rotate_left 2
                · go_simp
                  constructor
                  · rfl
                  · rfl
                refine hK.out _ _ ⟨AL0.out _, AL1.out _, AL2.out _⟩ (fun hHeld => ?_)
                clear hK K
                refine norm_ (a' := ?_) ?_ ?_
                rotate_left
                · show Act.put _ (some 84) _ = _
                  simp only [Act.put, List.setIfInBounds_toArray, List.set_cons_zero, List.set_cons_succ]
                  rfl
                refine one_ (i := 9) (N := some 85) #[true, true, true, true, true, true, true, true, true, true, false, false] rfl rfl (one_of HT_.out (by kernel_rfl)) (by decide) (fun K hK => ?_)
                refine Kd.R_append_step (Kd.int .i64) (w0 := W3) W3.heap.size (by rfl) (.tmp 77) (.tmp 84) 34 3 (.int .i64 0) 8 rfl Try.underlying34 info3e rfl (by decide) (by omega) _ ((j.cuts.take a).map (· - 1)) (c - 1) [.int .i64 (c - 1)] (fun q => q ≠ W3.heap.size) (fun _ => False) rfl rfl rfl (fun _ hk => hk.elim) (fun q hq => by have := blk_lt HRB.out; show q ≠ W3.heap.size; simp at hq; omega) (Kd.R_drew HR.out) (below_drew1 HBR.out) (by simpa using HBR.out.size) (by rw [HLA7.out]; omega) ?_
                intro v1 w3 ho hb hg hat
                obtain ⟨A7, c7, rfl⟩ := Kd.R_slice ho
                have hl7 : ((j.cuts.take a).map (· - 1) ++ [c - 1]).length = a + 1 := by rw [List.length_append, HLA7.out]; rfl
                rw [hl7] at ho
                have hvb := (Kd.R_bound HR.out).1
                have hrb3 : w3.heap[W3.heap.size]? = _ := (hg.block W3.heap.size (by simpa using blk_lt HRB.out) (fun e => (hvb _ e.symm).1 rfl)).trans (show wr.drew.heap[W3.heap.size]? = _ from HRB.out)
                have k3 := Keeps.of_below (F := []) hb
                have m0 := cell_blk hrb3 4
                have m1 := cell_blk (k3.blk J10c.out (by simp)) 4
                obtain ⟨ad', had', m2'⟩ := at_int (Kd.C_below HC43.out hb) a c HCI.out
                injection had' with had'
                rw [← had'] at m2'
                have m2 := m2'
                have f4 := free_blk hrb3 4
                have HRB3 := Lib.hid hrb3
                have HO3 := Lib.hid ho
                have HB3 := Lib.hid hb
                have SN1 : Hid (∀ x, (w3.setCell ⟨W3.heap.size, 4, none⟩ x).cell? ⟨wq.heap.size, 4, none⟩ = some (.slice (some ad) j.cuts.length c4)) := Lib.hid (fun x => cell_blk (blk_set_other (k3.blk J10c.out (by simp)) ⟨W3.heap.size, 4, none⟩ x (by simp; omega)) 4)
                have SN2 : Hid (∀ x, (w3.setCell ⟨W3.heap.size, 4, none⟩ x).cell? (ad.add a) = some (.int .i64 c)) := Lib.hid (fun x => by
                  obtain ⟨ad', had', hcell'⟩ := at_int (Kd.C_below HC43.out (below_keeps HB3.out ((Keeps.refl [W3.heap.size] w3).setCell W3.heap.size 4 x (.inl (by simp))) (by simp) HB3.out.size)) a c HCI.out
                  injection had' with had'
                  rw [had']; exact hcell')
                have hg7 := hg.size
                clear ho hb hg hat hvb k3
                refine hK.out _ _ ⟨m0, m1, m2⟩ (fun hHeld => ?_)
                clear hK K
                refine norm_ (a' := ?_) ?_ ?_
                rotate_left
                · show Act.put _ (some 85) _ = _
                  simp only [Act.put, List.setIfInBounds_toArray, List.set_cons_zero, List.set_cons_succ]
                  rfl
                refine pure_ (i := 10) (N := some 86) (v := ?_) (a' := ?_) #[true, true, true, true, true, true, true, true, true, true, true, false] rfl rfl (any_of HT_.out (by kernel_rfl)) (fun _ _ _ h => h) (Or.inl ⟨by rfl, ?_⟩) ?_ ?_
                rotate_left
                · intro w'
                  go_simp
                  with_reducible rfl
                rotate_left
                · simp only [Act.put, List.setIfInBounds_toArray, List.set_cons_zero, List.set_cons_succ]
                  rfl
                refine last_ (i := 11) (N := none) #[true, true, true, true, true, true, true, true, true, true, true, true] rfl rfl (one_of HT_.out (by kernel_rfl)) (by decide) (fun K hK => ?_)
                refine skip_ (w1 := ?_) (by rfl) rfl ?_ ?_
                rotate_left
                · go_simp
                  rfl
                refine hK.out _ _ ?_
                clear hK K
                refine done_ (done_of HT_.out (by kernel_rfl)) ?_
                try go_wp2
                have hk4 : Keeps [W3.heap.size] w3 (w3.setCell ⟨W3.heap.size, 4, none⟩ (.slice A7 (a + 1) c7)) := (Keeps.refl _ _).setCell _ 4 _ (.inl (by simp))
                go_roundg (j.cuts.length - (a + 1))
                case rel =>
                  refine ⟨a + 1, .slice A7 (a + 1) c7, Nat.le_refl _, by go_num, by omega, ?_, ?_, below_keeps HB3.out hk4 (by simp) HB3.out.size⟩
                  · rw [E1.out]
                    exact Kd.R_step HO3.out (fun q hq hlt => hk4.block q hlt (by simpa using hq))
                  · simpa using blk_set_same HRB3.out 4 (.slice A7 (a + 1) c7)
                case measure => omega
              · obtain rfl : a = j.cuts.length := by omega
                have hR := HR.out
                rw [List.take_length] at hR
                obtain ⟨A7, c7, rfl⟩ := Kd.R_slice hR
                have hlm : (j.cuts.map (· - 1)).length = j.cuts.length := by simp
                have hac2 : decide ((j.cuts.length : Int) < (j.cuts.length : Int)) = false := decide_eq_false (by omega)
                have hac3 : decide (j.cuts.length < j.cuts.length) = false := decide_eq_false (by omega)
                have hs2 : Kd.S kRw 36 wr w.heap.size (fun q => (q ≠ w.heap.size ∧ q ≠ g) ∧ ¬ W3.heap.size ≤ q) v (encs l pre) := Kd.S_mono (Kd.S_below (Kd.S_bound HS3.out) HBR.out) (fun q hq => ⟨hq.1.1, by have := hq.2.2.1; omega⟩)
                have hws : w.heap.size ≤ W3.heap.size := HBQ.out.size
                have hr2 := Kd.R_lower (Kd.R_mono (ok' := fun q => W3.heap.size ≤ q) (Kd.R_bound hR) (fun q hq => hq.2.1)) (base' := w.heap.size) hws
                have hgw3 : g < W3.heap.size := blk_lt HG3.out
                have h4w3 : w.heap.size < W3.heap.size := blk_lt H43.out
                have hGr := (HBR.out.block g hgw3).trans HG3.out
                have h4r := (HBR.out.block w.heap.size h4w3).trans H43.out
                have hBr := HBQ.out.trans (HBR.out.mono hws)
                have hsr := HBR.out.size
                rw [hlm] at hr2
                have hrbr := HRB.out
                rw [hlm] at hrbr
                have HRN := Lib.hid hr2
                have HSN2 := Lib.hid hs2
                have HGR := Lib.hid hGr
                have H4R := Lib.hid h4r
                have HBr := Lib.hid hBr
                have o0 := cell_blk hGr 0
                have fo0 := free_blk hGr 0
                have r0' := cell_blk hrbr 0
                have r1' := cell_blk hrbr 1
                have r2' := cell_blk hrbr 2
                have r3' := cell_blk hrbr 3
                have r4' := cell_blk hrbr 4
                have hvb := (Kd.R_bound (Kd.S_R HSS.out)).1
                have HVB := Lib.hid hvb
                have hle : (encs l pre).length = i := by rw [show (encs l pre).length = pre.length from encFrom_length l pre [], HPL.out]
                have hlx : ((encs l pre).length + 1) * 56 ≤ 140737488355328 := by omega
                have HLX := Lib.hid hlx
                have HJW : Hid (encR l pre j = ⟨(k : Int), j.arrive, j.release - j.arrive, j.work - 1, j.cuts.map (· - 1)⟩) := Lib.hid (by unfold encR; rw [HGAP.out, HKE.out])
                have hqg : wq.heap.size ≤ W3.heap.size := hq3
                clear hR hlm hs2 hr2 hGr h4r hBr hrbr hvb hle hlx HR HBR HRB hac
                go_wp2_with (first
                  | (at_builtin
                     refine Kd.S_append kRw (w0 := w) w.heap.size rfl (.tmp 88) (.tmp 90) 23 36 (.agg #[.int .i64 0, .int .i64 0, .int .i64 0, .int .i64 0, .slice none 0 0]) 56 rfl Try.underlying23 info36e rfl (by decide) (by omega) _ (encs l pre) ⟨(k : Int), j.arrive, j.release - j.arrive, j.work - 1, j.cuts.map (· - 1)⟩ [.int .i64 (k : Int), .int .i64 j.arrive, .int .i64 (j.release - j.arrive), .int .i64 (j.work - 1), .slice A7 j.cuts.length c7] (fun q => q ≠ w.heap.size ∧ q ≠ g) (fun q => W3.heap.size ≤ q) rfl rfl (kRw_mkM _ _ _ ⟨(k : Int), j.arrive, j.release - j.arrive, j.work - 1, j.cuts.map (· - 1)⟩ HRN.out) ?okp ?fresh HSN2.out HBr.out HBr.out.size HLX.out ?_
                     case okp =>
                       intro q hq
                       refine ⟨by omega, fun e => ?_⟩
                       have := (HVB.out q e.symm).2.2.1
                       omega
                     case fresh => intro q hq; show q ≠ w.heap.size ∧ q ≠ g; omega
                     intro v1 w3 ho hb hg hat
                     obtain ⟨A8, c8, rfl⟩ := Kd.R_slice (Kd.S_R ho)
                     have hg3 := (hg.block g (by omega) (fun e => (HVB.out _ e.symm).1.2 rfl)).trans HGR.out
                     have h43 := (hg.block w.heap.size (by omega) (fun e => (HVB.out _ e.symm).1.1 rfl)).trans H4R.out
                     have HG9 := Lib.hid hg3
                     have H49 := Lib.hid h43
                     have HO9 := Lib.hid ho
                     have HB9 := Lib.hid hb
                     clear o0 fo0 r0' r1' r2' r3' r4' ho hb hg hat
                     have o0 := cell_blk hg3 0
                     have fo0 := free_blk hg3 0
                     clear hg3 h43))
                have hl8 : (encs l pre ++ [(⟨(k : Int), j.arrive, j.release - j.arrive, j.work - 1, j.cuts.map (· - 1)⟩ : Rw)]).length = (encs l pre).length + 1 := by simp
                have ho8 := HO9.out
                rw [hl8] at ho8
                have he8 : encs l (pre ++ [j]) = encs l pre ++ [(⟨(k : Int), j.arrive, j.release - j.arrive, j.work - 1, j.cuts.map (· - 1)⟩ : Rw)] := by rw [encs_snoc, HJW.out]
                rw [← he8] at ho8
                have K8 : Keeps [g] w3 (w3.setCell ⟨g, 0, none⟩ (.slice A8 ((encs l pre).length + 1) c8)) := (Keeps.refl _ _).setCell _ 0 _ (.inl (by simp))
                go_roundg (jobs.length - (i + 1))
                case rel =>
                  refine ⟨i + 1, pre ++ [j], .slice A8 ((encs l pre).length + 1) c8, Nat.le_refl _, by go_num, by omega, ?_, HREST.out, ?_, soonB_step HFINE.out HSO.out HJOB.out, Kd.S_step ho8 (fun q hq hlt => K8.block q hlt (by simpa using hq.2)), ?_, K8.blk H49.out (by simp; omega), below_keeps HB9.out K8 (by simp; omega) HB9.out.size⟩
                  · rw [List.take_add_one, HJ.out, HPRE.out]
                    rfl
                  · rw [okAll_snoc, HOKA.out, HGAP.out, decide_eq_true (by omega)]
                    rfl
                  · simpa using blk_set_same HG9.out 0 (.slice A8 ((encs l pre).length + 1) c8)
                case measure => omega
        · subst hlv
          have hpl : p < i := by have h := lt_of_get' hy; have := HPL.out; omega
          have hyj : jobs[p]? = some y := by rw [HPRE.out, List.getElem?_take] at hy; simpa [hpl] using hy
          obtain ⟨cs5, hK5, hcell5⟩ := c_cells (Kd.C_below HW.out (KW2.out.below (by simp) (Nat.le_refl _))) p y hyj
          obtain ⟨A5, c5, rfl, _, _⟩ := kJb_open hK5
          have y1 : W2.cell? ⟨b1, o1 + p * 5 + 1, none⟩ = some (.int .i64 y.arrive) := hcell5 1 _ rfl
          have hp1 : (p : Int) < (jobs.length : Int) := by omega
          have t2 : W2.cell? ⟨b0, o0 + k * 7 + 2, none⟩ = some (.int .i64 t.t) := keeps_cell KW2.out T2.out
          have j0 := cell_blk J10b.out 0
          have hw1 : IntKind.i64.wrap (j.arrive - y.arrive) = j.arrive - y.arrive := IntWalk.i64_in _ (by omega)
          have hw2 : IntKind.i64.wrap (j.arrive - y.arrive - t.t) = j.arrive - y.arrive - t.t := IntWalk.i64_in _ (by omega)
          clear hK5 hcell5 hyj hpl hy HLA3 HLV
          go_wp2_with fail
          go_quiet (fail)
          have k3 : Keeps [] W2 (W2.drewN nq) := (Keeps.refl _ _).drewN nq
          have J10c := Lib.hid (k3.blk J10b.out (by simp))
          have KW3 := Lib.hid (KW2.out.trans k3)
          clear j0 t2 y1 J10b KW2 k3
          generalize W2.drewN nq = W3 at J10c KW3 ⊢
          try rw [hw1, hw2]
          clear hw1 hw2
          obtain ⟨gp, hgp⟩ : ∃ gp, gp = j.arrive - y.arrive - t.t := ⟨_, rfl⟩
          rw [← hgp]
          have hgap : gapOf l pre j = gp := by unfold gapOf; rw [HSN.out]; omega
          have HGAP := Lib.hid hgap
          have hg0 : 0 ≤ gp := by omega
          have hg1 : gp ≤ 17592186044416 := by omega
          have HGP := Lib.hid hgp
          clear hgp
          have hBq := below_keeps HB.out KW3.out (by simp) HB.out.size
          have HBQ := Lib.hid hBq
          have HG3 := Lib.hid (KW3.out.blk HG.out (by simp))
          have H43 := Lib.hid (KW3.out.blk H4.out (by simp))
          have hS3 := Kd.S_below (Kd.S_bound HSS.out) (KW3.out.below (by simp) (Nat.le_refl _))
          have HS3 := Lib.hid hS3
          have hq3 := KW3.out.size
          clear hgap hBq hS3
          by_cases hbig : 1048576 ≤ gp
          · have hen : encodeL l jobs = ([], false) := by
              unfold encodeL
              rw [HLE.out, HMID.out, HGAP.out, decide_eq_false (by omega)]
              rfl
            have HEN := Lib.hid hen
            have f0 := free_blk H43.out 0
            have f1 := free_blk H43.out 1
            have c40 := cell_blk H43.out 0
            have c41 := cell_blk H43.out 1
            clear hen
            go_wp2
            have j4 : ((W3.setCell ⟨w.heap.size, 0, none⟩ (.slice none 0 0)).setCell ⟨w.heap.size, 1, none⟩ (.bool false)).heap[w.heap.size]? = some (.cells #[.slice none 0 0, .bool false] 69 (0, 0)) := by simpa using blk_set_same (blk_set_same H43.out 0 (.slice none 0 0)) 1 (.bool false)
            have kw : Keeps [w.heap.size] W3 ((W3.setCell ⟨w.heap.size, 0, none⟩ (.slice none 0 0)).setCell ⟨w.heap.size, 1, none⟩ (.bool false)) := ((Keeps.refl _ _).setCell _ 0 _ (.inl (by simp))).setCell _ 1 _ (.inl (by simp))
            have hB9 := below_keeps HBQ.out kw (by simp) HBQ.out.size
            clear f0 f1 c40 c41 kw
            generalize ((W3.setCell ⟨w.heap.size, 0, none⟩ (.slice none 0 0)).setCell ⟨w.heap.size, 1, none⟩ (.bool false)) = w5 at j4 hB9 ⊢
            have c40 := cell_blk j4 0
            have c41 := cell_blk j4 1
            refine bodyPost_ret (v := .agg #[.slice none 0 0, .bool false]) (by simp [results, Try.results35, go_sem, c40, c41, hu69]) rfl ⟨.slice none 0 0, by rw [HEN.out], by rw [HEN.out]; exact Kd.S_nil _ _ _ _ _, hB9⟩
          · have j0 := cell_blk J10c.out 0
            have j1 := cell_blk J10c.out 1
            have j2 := cell_blk J10c.out 2
            have j3 := cell_blk J10c.out 3
            have hj1 : wq.heap.size < W3.heap.size := blk_lt J10c.out
            have HC43 := Lib.hid (Kd.C_below HC4.out (KW3.out.below (by simp) (Nat.le_refl _)))
            go_wp2_with fail
            have hrb := blk_new W3 (.cells #[.int .i64 k, .int .i64 gp, .int .i64 (j.release - j.arrive), .int .i64 (j.work - 1), .slice none 0 0] 36)
            have hbW : Below W3.heap.size W3 (W3.alloc (.cells #[.int .i64 k, .int .i64 gp, .int .i64 (j.release - j.arrive), .int .i64 (j.work - 1), .slice none 0 0] 36)) := (Below.refl _ _).alloc (Nat.le_refl _) _
            clear j0 j1 j2 j3
            generalize W3.alloc (.cells #[.int .i64 k, .int .i64 gp, .int .i64 (j.release - j.arrive), .int .i64 (j.work - 1), .slice none 0 0] 36) = W4 at hrb hbW ⊢
            go_loopg [12] (j.cuts.length) (fun gh iv wr2 => ∃ (a : Nat) (v' : Value), j.cuts.length - a ≤ gh ∧ iv = .int .i64 a ∧ a ≤ j.cuts.length ∧ Kd.R (Kd.int .i64) 3 wr2 W3.heap.size (fun q => q ≠ W3.heap.size) v' ((j.cuts.take a).map (· - 1)) ∧ wr2.heap[W3.heap.size]? = some (.cells #[.int .i64 k, .int .i64 gp, .int .i64 (j.release - j.arrive), .int .i64 (j.work - 1), v'] 36 (0, 0)) ∧ Below W3.heap.size W3 wr2)
            case atStart => exact ⟨0, .slice none 0 0, by omega, rfl, by omega, Kd.R_nil _ _ _ _ _, hrb, hbW⟩
            case round =>
              clear hrb hbW
              obtain ⟨a, v', hgh3, rfl, hal, hR, hrb, hBq⟩ := hrel
              have J10d := Lib.hid ((Keeps.of_below (F := []) hBq).blk J10c.out (by simp))
              have HR := Lib.hid hR
              have HRB := Lib.hid hrb
              have HBR := Lib.hid hBq
              clear hR hrb hBq
              have j4 := cell_blk J10d.out 4
              by_cases hac : a < j.cuts.length
              · obtain ⟨c, hc⟩ : ∃ c, j.cuts[a]? = some c := ⟨j.cuts[a], by simp [hac]⟩
                have HCr := Lib.hid (Kd.C_below HC43.out HBR.out)
                obtain ⟨ad, had, hcell⟩ := at_int HCr.out a c hc
                subst had
                have hac' : (a : Int) < (j.cuts.length : Int) := by omega
                obtain ⟨hc0, hc1'⟩ := HCB.out c (List.mem_of_getElem? hc)
                have e1 : (j.cuts.take (a + 1)).map (· - 1) = (j.cuts.take a).map (· - 1) ++ [c - 1] := by rw [List.take_add_one, hc, List.map_append]; rfl
                have E1 := Lib.hid e1
                have hla : ((j.cuts.take a).map (· - 1)).length = a := by simp; omega
                have HLA7 := Lib.hid hla
                have hwc : IntKind.i64.wrap (c - 1) = c - 1 := IntWalk.i64_in _ (by omega)
                have hc9 : (0 : Int) ≤ (a : Int) := by omega
                have AL0 : Hid (∀ o, (wr.drew.alloc o).cell? ⟨W3.heap.size, 4, none⟩ = some v') := Lib.hid (fun o => cell_blk (blk_alloc (show wr.drew.heap[W3.heap.size]? = _ from HRB.out) o) 4)
                have AL1 : Hid (∀ o, (wr.drew.alloc o).cell? ⟨wq.heap.size, 4, none⟩ = some (.slice (some ad) j.cuts.length c4)) := Lib.hid (fun o => cell_blk (blk_alloc (show wr.drew.heap[wq.heap.size]? = _ from J10d.out) o) 4)
                have AL2 : Hid (∀ o, (wr.drew.alloc o).cell? (ad.add a) = some (.int .i64 c)) := Lib.hid (fun o => by
                  obtain ⟨ad', had', hcell'⟩ := at_int (Kd.C_alloc (Kd.C_drew HCr.out) o) a c hc
                  injection had' with had'
                  rw [had']; exact hcell')
                have HCI := Lib.hid hc
                have r4x : wr.drew.cell? ⟨W3.heap.size, 4, none⟩ = some v' := cell_blk (show wr.drew.heap[W3.heap.size]? = _ from HRB.out) 4
                have hlw : W3.heap.size < wr.heap.size := blk_lt HRB.out
                clear hc e1 hla
                go_wp2_with fail
                refine start_ (n := 12) (S := fun w' => w'.cell? ⟨W3.heap.size, 4, none⟩ = some v' ∧ w'.cell? ⟨wq.heap.size, 4, none⟩ = some (.slice (some ad) j.cuts.length c4) ∧ w'.cell? (ad.add a) = some (.int .i64 c)) (ds := [11]) #[false, false, false, false, false, false, false, false, false, false, false, false] (by kernel_rfl) rfl rfl ⟨cell_blk (show wr.drew.heap[W3.heap.size]? = _ from HRB.out) 4, cell_blk (show wr.drew.heap[wq.heap.size]? = _ from J10d.out) 4, hcell⟩ (fun hHeld => ?_)
                refine with_tabW encG.tab19 encG.bits19 (fun HT_ HW_ => ?_)
                refine pure_ (i := 0) (N := some 76) (v := ?_) (a' := ?_) #[true, false, false, false, false, false, false, false, false, false, false, false] rfl rfl (any_of HT_.out (by kernel_rfl)) (fun _ _ _ h => h) (Or.inl ⟨by rfl, ?_⟩) ?_ ?_
                rotate_left
                · intro w'
                  go_simp
                  with_reducible rfl
                rotate_left
                · simp only [Act.put, List.setIfInBounds_toArray, List.set_cons_zero, List.set_cons_succ]
                  rfl
                refine pure_ (i := 2) (N := some 78) (v := ?_) (a' := ?_) #[true, false, true, false, false, false, false, false, false, false, false, false] rfl rfl (any_of HT_.out (by kernel_rfl)) (fun _ _ _ h => h) (Or.inl ⟨by rfl, ?_⟩) ?_ ?_
                rotate_left
                · intro w'
                  go_simp
                  with_reducible rfl
                rotate_left
                · simp only [Act.put, List.setIfInBounds_toArray, List.set_cons_zero, List.set_cons_succ]
                  rfl
                refine pure_ (i := 4) (N := some 80) (v := ?_) (a' := ?_) #[true, false, true, false, true, false, false, false, false, false, false, false] rfl rfl (any_of HT_.out (by kernel_rfl)) (fun _ _ _ h => h) (Or.inl ⟨by rfl, ?_⟩) ?_ ?_
                rotate_left
                · intro w'
                  go_simp
                  with_reducible rfl
                rotate_left
                · simp only [Act.put, List.setIfInBounds_toArray, List.set_cons_zero, List.set_cons_succ]
                  rfl
                refine take_ (i := 1) (N := some 77) (v := ?_) (a' := ?_) #[true, true, true, false, true, false, false, false, false, false, false, false] rfl rfl (take_ofW HT_.out HW_.out (by kernel_rfl)) (fun _ _ _ h => h) (Or.inl ⟨by rfl, ?_⟩) hHeld ?_ ?_
                rotate_left
                · rintro w' ⟨s0, s1, s2⟩
                  go_simp
                  with_reducible rfl
                rotate_left
                · simp only [Act.put, List.setIfInBounds_toArray, List.set_cons_zero, List.set_cons_succ]
                  rfl
                refine take_ (i := 3) (N := some 79) (v := ?_) (a' := ?_) #[true, true, true, true, true, false, false, false, false, false, false, false] rfl rfl (take_ofW HT_.out HW_.out (by kernel_rfl)) (fun _ _ _ h => h) (Or.inl ⟨by rfl, ?_⟩) hHeld ?_ ?_
                rotate_left
                · rintro w' ⟨s0, s1, s2⟩
                  go_simp
                  with_reducible rfl
                rotate_left
                · simp only [Act.put, List.setIfInBounds_toArray, List.set_cons_zero, List.set_cons_succ]
                  rfl
                refine pure_ (i := 5) (N := some 81) (v := ?_) (a' := ?_) #[true, true, true, true, true, true, false, false, false, false, false, false] rfl rfl (any_of HT_.out (by kernel_rfl)) (fun _ _ _ h => h) (Or.inl ⟨by rfl, ?_⟩) ?_ ?_
                rotate_left
                · intro w'
                  go_simp
                  with_reducible rfl
                rotate_left
                · simp only [Act.put, List.setIfInBounds_toArray, List.set_cons_zero, List.set_cons_succ]
                  rfl
                refine take_ (i := 6) (N := some 82) (v := ?_) (a' := ?_) #[true, true, true, true, true, true, true, false, false, false, false, false] rfl rfl (take_ofW HT_.out HW_.out (by kernel_rfl)) (fun _ _ _ h => h) (Or.inl ⟨by rfl, ?_⟩) hHeld ?_ ?_
                rotate_left
                · rintro w' ⟨s0, s1, s2⟩
                  go_simp
                  with_reducible rfl
                rotate_left
                · simp only [Act.put, List.setIfInBounds_toArray, List.set_cons_zero, List.set_cons_succ]
                  rfl
                refine pure_ (i := 7) (N := some 83) (v := ?_) (a' := ?_) #[true, true, true, true, true, true, true, true, false, false, false, false] rfl rfl (any_of HT_.out (by kernel_rfl)) (fun _ _ _ h => h) (Or.inl ⟨by rfl, ?_⟩) ?_ ?_
                rotate_left
                · intro w'
                  go_simp
                  with_reducible rfl
                rotate_left
                · simp only [Act.put, List.setIfInBounds_toArray, List.set_cons_zero, List.set_cons_succ]
                  rfl
                refine one_ (i := 8) (N := some 84) #[true, true, true, true, true, true, true, true, true, false, false, false] rfl rfl (one_of HT_.out (by kernel_rfl)) (by decide) (fun K hK => ?_)
                refine value_ (w1 := ?_) (v := ?_) (by rfl) rfl ?_ ?_
                rotate_left 2
                · go_simp
                  constructor
                  · rfl
                  · rfl
                refine hK.out _ _ ⟨AL0.out _, AL1.out _, AL2.out _⟩ (fun hHeld => ?_)
                clear hK K
                refine norm_ (a' := ?_) ?_ ?_
                rotate_left
                · show Act.put _ (some 84) _ = _
                  simp only [Act.put, List.setIfInBounds_toArray, List.set_cons_zero, List.set_cons_succ]
                  rfl
                refine one_ (i := 9) (N := some 85) #[true, true, true, true, true, true, true, true, true, true, false, false] rfl rfl (one_of HT_.out (by kernel_rfl)) (by decide) (fun K hK => ?_)
                refine Kd.R_append_step (Kd.int .i64) (w0 := W3) W3.heap.size (by rfl) (.tmp 77) (.tmp 84) 34 3 (.int .i64 0) 8 rfl Try.underlying34 info3e rfl (by decide) (by omega) _ ((j.cuts.take a).map (· - 1)) (c - 1) [.int .i64 (c - 1)] (fun q => q ≠ W3.heap.size) (fun _ => False) rfl rfl rfl (fun _ hk => hk.elim) (fun q hq => by have := blk_lt HRB.out; show q ≠ W3.heap.size; simp at hq; omega) (Kd.R_drew HR.out) (below_drew1 HBR.out) (by simpa using HBR.out.size) (by rw [HLA7.out]; omega) ?_
                intro v1 w3 ho hb hg hat
                obtain ⟨A7, c7, rfl⟩ := Kd.R_slice ho
                have hl7 : ((j.cuts.take a).map (· - 1) ++ [c - 1]).length = a + 1 := by rw [List.length_append, HLA7.out]; rfl
                rw [hl7] at ho
                have hvb := (Kd.R_bound HR.out).1
                have hrb3 : w3.heap[W3.heap.size]? = _ := (hg.block W3.heap.size (by simpa using blk_lt HRB.out) (fun e => (hvb _ e.symm).1 rfl)).trans (show wr.drew.heap[W3.heap.size]? = _ from HRB.out)
                have k3 := Keeps.of_below (F := []) hb
                have m0 := cell_blk hrb3 4
                have m1 := cell_blk (k3.blk J10c.out (by simp)) 4
                obtain ⟨ad', had', m2'⟩ := at_int (Kd.C_below HC43.out hb) a c HCI.out
                injection had' with had'
                rw [← had'] at m2'
                have m2 := m2'
                have f4 := free_blk hrb3 4
                have HRB3 := Lib.hid hrb3
                have HO3 := Lib.hid ho
                have HB3 := Lib.hid hb
                have SN1 : Hid (∀ x, (w3.setCell ⟨W3.heap.size, 4, none⟩ x).cell? ⟨wq.heap.size, 4, none⟩ = some (.slice (some ad) j.cuts.length c4)) := Lib.hid (fun x => cell_blk (blk_set_other (k3.blk J10c.out (by simp)) ⟨W3.heap.size, 4, none⟩ x (by simp; omega)) 4)
                have SN2 : Hid (∀ x, (w3.setCell ⟨W3.heap.size, 4, none⟩ x).cell? (ad.add a) = some (.int .i64 c)) := Lib.hid (fun x => by
                  obtain ⟨ad', had', hcell'⟩ := at_int (Kd.C_below HC43.out (below_keeps HB3.out ((Keeps.refl [W3.heap.size] w3).setCell W3.heap.size 4 x (.inl (by simp))) (by simp) HB3.out.size)) a c HCI.out
                  injection had' with had'
                  rw [had']; exact hcell')
                have hg7 := hg.size
                clear ho hb hg hat hvb k3
                refine hK.out _ _ ⟨m0, m1, m2⟩ (fun hHeld => ?_)
                clear hK K
                refine norm_ (a' := ?_) ?_ ?_
                rotate_left
                · show Act.put _ (some 85) _ = _
                  simp only [Act.put, List.setIfInBounds_toArray, List.set_cons_zero, List.set_cons_succ]
                  rfl
                refine pure_ (i := 10) (N := some 86) (v := ?_) (a' := ?_) #[true, true, true, true, true, true, true, true, true, true, true, false] rfl rfl (any_of HT_.out (by kernel_rfl)) (fun _ _ _ h => h) (Or.inl ⟨by rfl, ?_⟩) ?_ ?_
                rotate_left
                · intro w'
                  go_simp
                  with_reducible rfl
                rotate_left
                · simp only [Act.put, List.setIfInBounds_toArray, List.set_cons_zero, List.set_cons_succ]
                  rfl
                refine last_ (i := 11) (N := none) #[true, true, true, true, true, true, true, true, true, true, true, true] rfl rfl (one_of HT_.out (by kernel_rfl)) (by decide) (fun K hK => ?_)
                refine skip_ (w1 := ?_) (by rfl) rfl ?_ ?_
                rotate_left
                · go_simp
                  rfl
                refine hK.out _ _ ?_
                clear hK K
                refine done_ (done_of HT_.out (by kernel_rfl)) ?_
                try go_wp2
                have hk4 : Keeps [W3.heap.size] w3 (w3.setCell ⟨W3.heap.size, 4, none⟩ (.slice A7 (a + 1) c7)) := (Keeps.refl _ _).setCell _ 4 _ (.inl (by simp))
                go_roundg (j.cuts.length - (a + 1))
                case rel =>
                  refine ⟨a + 1, .slice A7 (a + 1) c7, Nat.le_refl _, by go_num, by omega, ?_, ?_, below_keeps HB3.out hk4 (by simp) HB3.out.size⟩
                  · rw [E1.out]
                    exact Kd.R_step HO3.out (fun q hq hlt => hk4.block q hlt (by simpa using hq))
                  · simpa using blk_set_same HRB3.out 4 (.slice A7 (a + 1) c7)
                case measure => omega
              · obtain rfl : a = j.cuts.length := by omega
                have hR := HR.out
                rw [List.take_length] at hR
                obtain ⟨A7, c7, rfl⟩ := Kd.R_slice hR
                have hlm : (j.cuts.map (· - 1)).length = j.cuts.length := by simp
                have hac2 : decide ((j.cuts.length : Int) < (j.cuts.length : Int)) = false := decide_eq_false (by omega)
                have hac3 : decide (j.cuts.length < j.cuts.length) = false := decide_eq_false (by omega)
                have hs2 : Kd.S kRw 36 wr w.heap.size (fun q => (q ≠ w.heap.size ∧ q ≠ g) ∧ ¬ W3.heap.size ≤ q) v (encs l pre) := Kd.S_mono (Kd.S_below (Kd.S_bound HS3.out) HBR.out) (fun q hq => ⟨hq.1.1, by have := hq.2.2.1; omega⟩)
                have hws : w.heap.size ≤ W3.heap.size := HBQ.out.size
                have hr2 := Kd.R_lower (Kd.R_mono (ok' := fun q => W3.heap.size ≤ q) (Kd.R_bound hR) (fun q hq => hq.2.1)) (base' := w.heap.size) hws
                have hgw3 : g < W3.heap.size := blk_lt HG3.out
                have h4w3 : w.heap.size < W3.heap.size := blk_lt H43.out
                have hGr := (HBR.out.block g hgw3).trans HG3.out
                have h4r := (HBR.out.block w.heap.size h4w3).trans H43.out
                have hBr := HBQ.out.trans (HBR.out.mono hws)
                have hsr := HBR.out.size
                rw [hlm] at hr2
                have hrbr := HRB.out
                rw [hlm] at hrbr
                have HRN := Lib.hid hr2
                have HSN2 := Lib.hid hs2
                have HGR := Lib.hid hGr
                have H4R := Lib.hid h4r
                have HBr := Lib.hid hBr
                have o0 := cell_blk hGr 0
                have fo0 := free_blk hGr 0
                have r0' := cell_blk hrbr 0
                have r1' := cell_blk hrbr 1
                have r2' := cell_blk hrbr 2
                have r3' := cell_blk hrbr 3
                have r4' := cell_blk hrbr 4
                have hvb := (Kd.R_bound (Kd.S_R HSS.out)).1
                have HVB := Lib.hid hvb
                have hle : (encs l pre).length = i := by rw [show (encs l pre).length = pre.length from encFrom_length l pre [], HPL.out]
                have hlx : ((encs l pre).length + 1) * 56 ≤ 140737488355328 := by omega
                have HLX := Lib.hid hlx
                have HJW : Hid (encR l pre j = ⟨(k : Int), gp, j.release - j.arrive, j.work - 1, j.cuts.map (· - 1)⟩) := Lib.hid (by unfold encR; rw [HGAP.out, HKE.out])
                have hqg : wq.heap.size ≤ W3.heap.size := hq3
                clear hR hlm hs2 hr2 hGr h4r hBr hrbr hvb hle hlx HR HBR HRB hac
                go_wp2_with (first
                  | (at_builtin
                     refine Kd.S_append kRw (w0 := w) w.heap.size rfl (.tmp 88) (.tmp 90) 23 36 (.agg #[.int .i64 0, .int .i64 0, .int .i64 0, .int .i64 0, .slice none 0 0]) 56 rfl Try.underlying23 info36e rfl (by decide) (by omega) _ (encs l pre) ⟨(k : Int), gp, j.release - j.arrive, j.work - 1, j.cuts.map (· - 1)⟩ [.int .i64 (k : Int), .int .i64 gp, .int .i64 (j.release - j.arrive), .int .i64 (j.work - 1), .slice A7 j.cuts.length c7] (fun q => q ≠ w.heap.size ∧ q ≠ g) (fun q => W3.heap.size ≤ q) rfl rfl (kRw_mkM _ _ _ ⟨(k : Int), gp, j.release - j.arrive, j.work - 1, j.cuts.map (· - 1)⟩ HRN.out) ?okp ?fresh HSN2.out HBr.out HBr.out.size HLX.out ?_
                     case okp =>
                       intro q hq
                       refine ⟨by omega, fun e => ?_⟩
                       have := (HVB.out q e.symm).2.2.1
                       omega
                     case fresh => intro q hq; show q ≠ w.heap.size ∧ q ≠ g; omega
                     intro v1 w3 ho hb hg hat
                     obtain ⟨A8, c8, rfl⟩ := Kd.R_slice (Kd.S_R ho)
                     have hg3 := (hg.block g (by omega) (fun e => (HVB.out _ e.symm).1.2 rfl)).trans HGR.out
                     have h43 := (hg.block w.heap.size (by omega) (fun e => (HVB.out _ e.symm).1.1 rfl)).trans H4R.out
                     have HG9 := Lib.hid hg3
                     have H49 := Lib.hid h43
                     have HO9 := Lib.hid ho
                     have HB9 := Lib.hid hb
                     clear o0 fo0 r0' r1' r2' r3' r4' ho hb hg hat
                     have o0 := cell_blk hg3 0
                     have fo0 := free_blk hg3 0
                     clear hg3 h43))
                have hl8 : (encs l pre ++ [(⟨(k : Int), gp, j.release - j.arrive, j.work - 1, j.cuts.map (· - 1)⟩ : Rw)]).length = (encs l pre).length + 1 := by simp
                have ho8 := HO9.out
                rw [hl8] at ho8
                have he8 : encs l (pre ++ [j]) = encs l pre ++ [(⟨(k : Int), gp, j.release - j.arrive, j.work - 1, j.cuts.map (· - 1)⟩ : Rw)] := by rw [encs_snoc, HJW.out]
                rw [← he8] at ho8
                have K8 : Keeps [g] w3 (w3.setCell ⟨g, 0, none⟩ (.slice A8 ((encs l pre).length + 1) c8)) := (Keeps.refl _ _).setCell _ 0 _ (.inl (by simp))
                go_roundg (jobs.length - (i + 1))
                case rel =>
                  refine ⟨i + 1, pre ++ [j], .slice A8 ((encs l pre).length + 1) c8, Nat.le_refl _, by go_num, by omega, ?_, HREST.out, ?_, soonB_step HFINE.out HSO.out HJOB.out, Kd.S_step ho8 (fun q hq hlt => K8.block q hlt (by simpa using hq.2)), ?_, K8.blk H49.out (by simp; omega), below_keeps HB9.out K8 (by simp; omega) HB9.out.size⟩
                  · rw [List.take_add_one, HJ.out, HPRE.out]
                    rfl
                  · rw [okAll_snoc, HOKA.out, HGAP.out, decide_eq_true (by omega)]
                    rfl
                  · simpa using blk_set_same HG9.out 0 (.slice A8 ((encs l pre).length + 1) c8)
                case measure => omega
      · obtain rfl : i = jobs.length := by omega
        have hend : decide ((jobs.length : Int) < (jobs.length : Int)) = false := decide_eq_false (by omega)
        have hend2 : decide (jobs.length < jobs.length) = false := decide_eq_false (by omega)
        have hp : pre = jobs := by rw [HPRE.out, List.take_length]
        have hok := HOKA.out
        rw [hp] at hok
        have hen : encodeL l jobs = (encs l jobs, true) := by unfold encodeL; rw [HLE.out, hok]; rfl
        have HEN := Lib.hid hen
        have hss := HSS.out
        rw [hp] at hss
        have HSX := Lib.hid hss
        obtain ⟨A8, c8, hv8⟩ := Kd.R_slice (Kd.S_R hss)
        subst hv8
        have f0 := free_blk H4.out 0
        have f1 := free_blk H4.out 1
        have c40 := cell_blk H4.out 0
        have c41 := cell_blk H4.out 1
        have g0 := cell_blk HG.out 0
        have g1 := cell_blk HG.out 1
        have hsw := HB.out.size
        clear hen hok hp hss hlt
        go_wp2
        have j4 : ((wq.setCell ⟨w.heap.size, 0, none⟩ (.slice A8 (encs l jobs).length c8)).setCell ⟨w.heap.size, 1, none⟩ (.bool true)).heap[w.heap.size]? = some (.cells #[.slice A8 (encs l jobs).length c8, .bool true] 69 (0, 0)) := by simpa using blk_set_same (blk_set_same H4.out 0 (.slice A8 (encs l jobs).length c8)) 1 (.bool true)
        have kw : Keeps [w.heap.size] wq ((wq.setCell ⟨w.heap.size, 0, none⟩ (.slice A8 (encs l jobs).length c8)).setCell ⟨w.heap.size, 1, none⟩ (.bool true)) := ((Keeps.refl _ _).setCell _ 0 _ (.inl (by simp))).setCell _ 1 _ (.inl (by simp))
        have hB9 := below_keeps HB.out kw (by simp) HB.out.size
        have hS9 := Kd.S_step HSX.out (fun q hq hlt => kw.block q hlt (by simpa using hq.1))
        clear f0 f1 c40 c41 g0 g1 kw
        generalize ((wq.setCell ⟨w.heap.size, 0, none⟩ (.slice A8 (encs l jobs).length c8)).setCell ⟨w.heap.size, 1, none⟩ (.bool true)) = w5 at j4 hB9 hS9 ⊢
        have c40 := cell_blk j4 0
        have c41 := cell_blk j4 1
        refine bodyPost_ret (v := .agg #[.slice A8 (encs l jobs).length c8, .bool true]) (by simp [results, Try.results35, go_sem, c40, c41, hu69]) rfl ⟨_, by rw [HEN.out], by rw [HEN.out]; exact Kd.S_mono hS9 (fun _ _ => trivial), hB9⟩
end Go.Proofs.Ytcdmgalhboijcaa.Sc
