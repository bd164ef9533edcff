/- ScriptCounts, walked. -/
import Derived.Test.YtcdmgalhboijcaaWklegal
import Derived.Test.YtcdmgalhboijcaaCnt
set_option linter.unusedVariables false
set_option linter.unusedSimpArgs false
namespace Go.Proofs.Ytcdmgalhboijcaa.Sc
open Go.RowKit Go.Proofs.Ytcdmgalhboijcaa.D Go.Proofs.YtcdmgalhboijcaaW.PrintWords Go.Proofs.YtcdmgalhboijcaaW.PrintLast Go.Proofs.Ytcdmgalhboijcaa.Pu
open Go.Maps

theorem Count_anyg {s : List Tsk} {l : List S52} {turn : Int} (hs : s = setT l turn) (A0 : Option Addr) (c0 : Nat) (A1 : Option Addr) (c1 : Nat) (jobs : List Jb) (w : World)
    (h0 : kTsk.C w A0 s.length s) (hc0 : s.length ≤ c0) (h1 : kJb.C w A1 jobs.length jobs) (hc1 : jobs.length ≤ c1) :
    Calls Try.prog 21 #[.slice A0 s.length c0, .slice A1 jobs.length c1] w (CountPost s jobs w) := by
  subst hs
  have h := setT_ok l turn
  exact Count_any A0 c0 (setT l turn) A1 c1 jobs w h.1 h.2 h0 hc0 h1 hc1
theorem legal_tasks {l : List Tsk} {js : List Jb} (h : legalL l js = true) : ∀ j ∈ js, 0 ≤ j.task ∧ j.task < l.length := by
  unfold legalL at h
  simp only [Bool.and_eq_true, decide_eq_true_eq] at h
  have : ∀ (js out : List Jb), legalFrom l out js = true → ∀ j ∈ js, 0 ≤ j.task ∧ j.task < l.length := by
    intro js
    induction js with
    | nil => intro _ _ j hj; cases hj
    | cons x xs ih =>
      intro out h j hj
      simp only [legalFrom, Bool.and_eq_true] at h
      rcases List.mem_cons.1 hj with rfl | hj
      · exact task_lt h.1
      · exact ih _ h.2 j hj
  exact this js [] h.2.2
/-- How many jobs are of a task below a number. -/
def lows (js : List Jb) (i : Nat) : Nat := js.countP fun j => decide (j.task < (i : Int))
theorem lows_zero {js : List Jb} (h : ∀ j ∈ js, 0 ≤ j.task) : lows js 0 = 0 := by
  unfold lows
  rw [List.countP_eq_zero]
  intro j hj
  have := h j hj
  simp
  omega
theorem lows_succ : ∀ (js : List Jb) (i : Nat), (lows js (i + 1) : Int) = lows js i + cntF js (.int .i64 i)
  | [], i => by simp [lows, cntF]
  | x :: xs, i => by
    have ih := lows_succ xs i
    have e1 : ∀ n : Nat, (lows (x :: xs) n : Int) = lows xs n + (if x.task < (n : Int) then 1 else 0) := by
      intro n
      unfold lows
      rw [List.countP_cons]
      by_cases h : x.task < (n : Int) <;> simp [h]
    have e2 : cntF (x :: xs) (.int .i64 i) = cntF xs (.int .i64 i) + (if x.task = (i : Int) then 1 else 0) := by
      show ((List.countP _ (x :: xs) : Nat) : Int) = ((List.countP _ xs : Nat) : Int) + _
      rw [List.countP_cons]
      by_cases h : x.task = (i : Int) <;> simp [h]
    rw [e1, e1, e2, ih]
    split <;> split <;> split <;> omega
theorem lows_all {js : List Jb} {n : Nat} (h : ∀ j ∈ js, j.task < (n : Int)) : lows js n = js.length := by
  unfold lows
  rw [List.countP_eq_length]
  intro j hj
  simpa using h j hj
theorem lows_le (js : List Jb) (i : Nat) : lows js i ≤ js.length := List.countP_le_length
theorem cnt_take (js : List Jb) (k : Nat) (j : Jb) (t : Int) (h : js[k]? = some j) : cntF (js.take (k + 1)) (.int .i64 t) = cntF (js.take k) (.int .i64 t) + (if j.task = t then 1 else 0) := by
  rw [List.take_add_one, h]
  unfold cntF
  simp only [Option.toList_some, List.countP_append, List.countP_singleton]
  by_cases e : j.task = t <;> simp [e]

set_option maxRecDepth 100000 in
set_option maxHeartbeats 8000000 in
theorem counts_walk (A0 : Option Addr) (c0 : Nat) (l0 : List S52) (A1 : Option Addr) (c1 : Nat) (l1 : List S36) (q0 q1 q2 : Int) (W : World) (hw2 : (Lit.int .i64 q2).wf = true)
    (h0 : Kd.C k52 W A0 l0.length l0) (hc0 : l0.length ≤ c0) (h1 : Kd.C k36 W A1 l1.length l1) (hc1 : l1.length ≤ c1) :
    Calls Try.prog 8 #[.slice A0 l0.length c0, .slice A1 l1.length c1, .agg #[.int .i64 q0, .int .i64 q1, .int .i64 q2]] W fun e w' => e = .returned (.bool true) ∧ Below W.heap.size W w' := by
  have hu41 := Try.underlying41
  have H0 := Lib.hid h0
  have H1 := Lib.hid h1
  have HC0 := Lib.hid hc0
  have HC1 := Lib.hid hc1
  clear h0 h1 hc0 hc1
  go_enter Try.func8, Try.ntmps8
  go_wp2_with fail
  have J5 := Lib.hid (blk_new W (.cells #[.int .i64 q0, .int .i64 q1, .int .i64 q2] 41))
  have KW := Lib.hid ((Keeps.refl [] W).alloc (.cells #[.int .i64 q0, .int .i64 q1, .int .i64 q2] 41))
  generalize W.alloc (.cells #[.int .i64 q0, .int .i64 q1, .int .i64 q2] 41) = w0 at J5 KW ⊢
  refine (awake_any _).mono ?_
  rintro e w1 ⟨rfl, B1⟩
  have K1 := Keeps.of_below (F := []) B1
  have j5 := Lib.hid (K1.blk J5.out (by simp))
  have kw := Lib.hid (KW.out.trans K1)
  have hC0 := Kd.C_below H0.out (kw.out.below (by simp) (Nat.le_refl _))
  clear J5 KW B1 K1
  have J5 := cell_blk j5.out 0
  go_wp2_with fail
  refine (set_any A0 c0 l0 q0 _ hC0 HC0.out).mono ?_
  rintro e w2 ⟨A2, c2, rfl, hc2, hC2, B2⟩
  have K1 := Keeps.of_below (F := []) B2
  have j5' := Lib.hid (K1.blk j5.out (by simp))
  have kw' := Lib.hid (kw.out.trans K1)
  have hC1 := Kd.C_below H1.out (kw'.out.below (by simp) (Nat.le_refl _))
  have hn := setT_length l0 q0
  obtain ⟨s, hs⟩ : ∃ s, s = setT l0 q0 := ⟨_, rfl⟩
  rw [← hs] at hc2 hC2 hn ⊢
  have hmay : mayB s = true := by rw [hs]; exact setT_may l0 q0
  have HMAY := Lib.hid hmay
  have HS := Lib.hid hs
  have HC2 := Lib.hid hC2
  have HCL2 := Lib.hid hc2
  clear J5 j5 kw B2 K1 hC0 hC2 hs hmay hc2
  have HC1x := Lib.hid hC1
  have j0 := cell_blk j5'.out 0
  have j1 := cell_blk j5'.out 1
  have j2 := cell_blk j5'.out 2
  have hr := fewR_length l1
  have hcut := fewR_cuts l1
  obtain ⟨raw, hraw⟩ : ∃ raw, raw = fewR l1 := ⟨_, rfl⟩
  rw [← hraw] at hr hcut
  have HRAW := Lib.hid hraw
  have HCUT := Lib.hid hcut
  obtain ⟨all, ha⟩ : ∃ all, all = decodeL s raw := ⟨_, rfl⟩
  have hall : all.length = raw.length := by rw [ha, decodeL_tl HMAY.out (by omega), tl_length]
  have hdc := decode_cuts HMAY.out raw hr
  rw [← ha] at hdc
  have HALL := Lib.hid hall
  have HDC := Lib.hid hdc
  have HA := Lib.hid ha
  clear hC1 hcut hraw hall hdc ha
  go_wp2_with fail
  go_region_held3 (fun w' => w'.cell? ⟨W.heap.size, 0, none⟩ = some (.int .i64 q0) ∧ w'.cell? ⟨W.heap.size, 1, none⟩ = some (.int .i64 q1) ∧ w'.cell? ⟨W.heap.size, 2, none⟩ = some (.int .i64 q2))
    (first | exact ⟨m0, m1, m2⟩ | exact ⟨n0, n1, n2⟩ | exact ⟨o0, o1, o2⟩ | go_keep)
    (first
      | (go_at_call 11
         refine (few_any A1 c1 l1 _ (Kd.C_drew HC1x.out) HC1.out).mono ?_
         rw [← HRAW.out]
         rintro e w5 ⟨A5, c5, rfl, hc5, hC5, B5⟩
         have K5 := Keeps.of_below (F := []) B5
         have hC2 := Kd.C_below (Kd.C_drew HC2.out) B5
         have j6 := K5.blk (show w2.drew.heap[W.heap.size]? = _ from j5'.out) (by simp)
         have kw6 := kw'.out.drew.trans K5
         have m0 : w5.cell? ⟨W.heap.size, 0, none⟩ = some (.int .i64 q0) := cell_blk j6 0
         have m1 : w5.cell? ⟨W.heap.size, 1, none⟩ = some (.int .i64 q1) := cell_blk j6 1
         have m2 : w5.cell? ⟨W.heap.size, 2, none⟩ = some (.int .i64 q2) := cell_blk j6 2
         have HC5 := Lib.hid hC5
         have HCL5 := Lib.hid hc5
         have HC2a := Lib.hid hC2
         have J6 := Lib.hid j6
         have KW6 := Lib.hid kw6
         clear hc5 hC5 hC2 j6 kw6 K5 B5)
      | (go_at_call 14
         refine (dec_anyg HS.out A2 c2 A5 c5 raw _ HC2a.out HCL2.out HC5.out HCL5.out HCUT.out).mono ?_
         rw [← HA.out, HALL.out]
         rintro e w6 ⟨A6, c6, rfl, hc6, hC6, B6⟩
         have K6 := Keeps.of_below (F := []) B6
         have hC2 := Kd.C_below HC2a.out B6
         have j7 := K6.blk J6.out (by simp)
         have kw7 := KW6.out.trans K6
         have n0 : w6.cell? ⟨W.heap.size, 0, none⟩ = some (.int .i64 q0) := cell_blk j7 0
         have n1 : w6.cell? ⟨W.heap.size, 1, none⟩ = some (.int .i64 q1) := cell_blk j7 1
         have n2 : w6.cell? ⟨W.heap.size, 2, none⟩ = some (.int .i64 q2) := cell_blk j7 2
         have HC6 := Lib.hid hC6
         have HCL6 := Lib.hid hc6
         have HC2b := Lib.hid hC2
         have J7 := Lib.hid j7
         have KW7 := Lib.hid kw7
         clear hc6 hC6 hC2 j7 kw7 K6 B6)
      | (go_at_call 18
         have ht := turned_any A6 c6 all q0 q1 (q2.tmod 4) w6 (by rw [HALL.out]; exact HC6.out) (by rw [HALL.out]; exact HCL6.out) (by rw [HALL.out]; omega) HDC.out
         rw [HALL.out, turnL_length, HALL.out] at ht
         refine ht.mono ?_
         clear ht
         rintro e w7 ⟨A7, c7, rfl, hc7, hC7, B7⟩
         have K7 := Keeps.of_below (F := []) B7
         have hC2 := Kd.C_below HC2b.out B7
         have j8 := K7.blk J7.out (by simp)
         have kw8 := KW7.out.trans K7
         have o0 : w7.cell? ⟨W.heap.size, 0, none⟩ = some (.int .i64 q0) := cell_blk j8 0
         have o1 : w7.cell? ⟨W.heap.size, 1, none⟩ = some (.int .i64 q1) := cell_blk j8 1
         have o2 : w7.cell? ⟨W.heap.size, 2, none⟩ = some (.int .i64 q2) := cell_blk j8 2
         have HC7 := Lib.hid hC7
         have HCL7 := Lib.hid hc7
         have HC2c := Lib.hid hC2
         have KW8 := Lib.hid kw8
         clear hc7 hC7 hC2 j8 kw8 K7 B7))
  go_wp2_with fail
  have hxl : (turnL all q0 q1 (q2.tmod 4)).length = raw.length := by rw [turnL_length, HALL.out]
  generalize turnL all q0 q1 (q2.tmod 4) = x at hxl HC7
  have HXL := Lib.hid hxl
  have hx12 : x.length ≤ 12 := by omega
  clear hxl m0 m1 m2 n0 n1 n2 o0 o1 o2 j0 j1 j2 J6 J7 KW6 KW7 HC2a HC2b HC5 HC6 HCL5 HCL6
  have hq := Count_anyg HS.out A2 c2 A7 c7 x _ HC2c.out HCL2.out (by rw [HXL.out]; exact HC7.out) (by rw [HXL.out]; exact HCL7.out)
  rw [HXL.out] at hq
  refine hq.mono ?_
  clear hq
  intro e w8 hpost
  obtain ⟨hp0, hp1, B8⟩ := hpost
  obtain ⟨g, hg⟩ : ∃ g, legalL s x = g := ⟨_, rfl⟩
  rw [hg] at hp0 hp1
  have HG := Lib.hid hg
  have HC2d := Lib.hid (Kd.C_below HC2c.out B8)
  have HC7d := Lib.hid (Kd.C_below HC7.out B8)
  have KW9 := Lib.hid (KW8.out.trans (Keeps.of_below (F := []) B8))
  clear hg HC2c HC7 KW8 B8
  cases g
  · have he := hp0 rfl
    subst he
    clear hp0 hp1
    go_wp2_with fail
    have hq := Legal_anyg HS.out A2 c2 A7 c7 x _ HC2d.out HCL2.out (by rw [HXL.out]; exact HC7d.out) (by rw [HXL.out]; exact HCL7.out) HG.out
    rw [HXL.out] at hq
    refine hq.mono ?_
    clear hq
    rintro e w9 ⟨rfl, B9⟩
    have KW10 := Lib.hid (KW9.out.trans (Keeps.of_below (F := []) B9))
    have hln : (Builtin.len_ #[48] 3 #[.map none]).run Try.prog w9 = .ok (.int .i64 0) w9 := Maps.len_nil Try.underlying48 3
    clear B9
    go_wp2
    go_ret
    exact ⟨by simp, KW10.out.below (by simp) (Nat.le_refl _)⟩
  · obtain ⟨he, hM⟩ := hp1 rfl
    subst he
    have HM := Lib.hid hM
    clear hp0 hp1 hM
    go_wp2_with fail
    have hq := Legal_anyg HS.out A2 c2 A7 c7 x _ HC2d.out HCL2.out (by rw [HXL.out]; exact HC7d.out) (by rw [HXL.out]; exact HCL7.out) HG.out
    rw [HXL.out] at hq
    refine hq.mono ?_
    clear hq
    rintro e w9 ⟨rfl, B9⟩
    have KW10 := Lib.hid (KW9.out.trans (Keeps.of_below (F := []) B9))
    have HM9 := Lib.hid (HM.out.keeps (Keeps.of_below (F := []) B9) (by simp))
    have HC7e := Lib.hid (Kd.C_below HC7d.out B9)
    have hts := legal_tasks HG.out
    have HTS := Lib.hid hts
    clear B9 HM HC2d HC7d KW9 hts
    go_wp2_with fail
    have hs5 : s.length ≤ 5 := hn.2
    have hz := lows_zero (fun j hj => (HTS.out j hj).1)
    go_loopg [11, 12] (s.length) (fun gh av iv wr => ∃ (i : Nat), s.length - i ≤ gh ∧ av = .int .i64 (lows x i) ∧ iv = .int .i64 i ∧ i ≤ s.length ∧ wr = w9)
    case atStart => exact ⟨0, by omega, by rw [hz]; rfl, rfl, by omega, rfl⟩
    case round =>
      clear hz
      obtain ⟨i, hgh, rfl, rfl, hin, rfl⟩ := hrel
      have hle1 := lows_le x i
      have hlx : lows x i ≤ 12 := by omega
      clear hle1
      by_cases hlt : i < s.length
      · have hlt' : (i : Int) < (s.length : Int) := by omega
        obtain ⟨cf, hcf⟩ : ∃ c, cntF x (.int .i64 i) = c := ⟨_, rfl⟩
        have hcb := cntF_le x i
        rw [hcf] at hcb
        have hrun := runOk HM9.out (keyOf_int_mk (a := (i : Int)) Try.underlying3 (WalkArith.wf_i64 (by omega))) trivial hcf
        have hls := lows_succ x i
        rw [hcf] at hls
        have HLS := Lib.hid hls
        have HCF := Lib.hid hcf
        obtain ⟨hcb0, hcb1⟩ := hcb
        clear hls hcf
        obtain ⟨wq, hwq⟩ : ∃ wq, wq = wr := ⟨_, rfl⟩
        subst hwq
        go_wp2_with fail
        go_loopg [13, 14] (x.length) (fun gh nv kv wr => ∃ (k : Nat) (n : Int), x.length - k ≤ gh ∧ nv = .int .i64 n ∧ kv = .int .i64 k ∧ k ≤ x.length ∧ n = cntF (x.take k) (.int .i64 i) ∧ wr = wq)
        case atStart => exact ⟨0, 0, by omega, rfl, rfl, by omega, by simp [cntF], rfl⟩
        case round =>
          obtain ⟨k, n, hgh2, rfl, rfl, hkn, hnn, rfl⟩ := hrel
          have hnb := cntF_le (x.take k) i
          rw [← hnn, List.length_take] at hnb
          obtain ⟨hn0, hn1⟩ := hnb
          have hn12 : n ≤ 12 := by omega
          have HNN := Lib.hid hnn
          clear hn1 hnn
          by_cases hlk : k < x.length
          · obtain ⟨j, hj⟩ : ∃ j, x[k]? = some j := ⟨x[k]'(by omega), by simp⟩
            have hk' : (k : Int) < (raw.length : Int) := by have := HXL.out; omega
            have hk2 : k < raw.length := by have := HXL.out; omega
            have hct := cnt_take x k j i hj
            have HW : Hid (kJb.C wr A7 x.length x) := Lib.hid (by rw [HXL.out]; exact HC7e.out)
            rcases c_addr HW.out (by decide) with he | ⟨b1, o1, ha1⟩
            · rw [he] at hj; simp at hj
            subst ha1
            obtain ⟨cs, hK, hcell⟩ := c_cells HW.out k j hj
            obtain ⟨A4, c4, rfl, hl4, hC4⟩ := kJb_open hK
            have r0 : wr.cell? ⟨b1, o1 + k * 5, none⟩ = some (.int .i64 j.task) := hcell 0 _ rfl
            have HCT := Lib.hid hct
            clear hcell hK hC4 hct HW hj
            by_cases hjt : j.task = (i : Int)
            · have hct := HCT.out
              rw [if_pos hjt, ← HNN.out] at hct
              have HCT2 := Lib.hid hct
              clear hct HCT
              go_wp2_with fail
              go_roundg (x.length - (k + 1))
              case rel => exact ⟨k + 1, n + 1, by omega, by go_num, by go_num, by omega, HCT2.out.symm, rfl⟩
              case measure => omega
            · have hct := HCT.out
              rw [if_neg hjt, ← HNN.out] at hct
              have HCT2 := Lib.hid hct
              have hjd : decide (j.task = (i : Int)) = false := decide_eq_false hjt
              clear hct HCT
              go_wp2_with fail
              go_roundg (x.length - (k + 1))
              case rel => exact ⟨k + 1, n, by omega, rfl, by go_num, by omega, by rw [HCT2.out]; omega, rfl⟩
              case measure => omega
          · obtain rfl : k = x.length := by omega
            have hxr := HXL.out
            have hk2 : ¬ x.length < raw.length := by omega
            have hk3 : decide (x.length < raw.length) = false := decide_eq_false hk2
            have hk4 : decide ((x.length : Int) < (raw.length : Int)) = false := decide_eq_false (by omega)
            have hnc : n = cf := by have := HNN.out; rw [List.take_length, HCF.out] at this; exact this
            subst hnc
            have hdd : decide (n = n) = true := decide_eq_true rfl
            clear hxr
            go_wp2_with fail
            go_roundg (s.length - (i + 1))
            case rel => exact ⟨i + 1, by omega, by rw [HLS.out], by go_num, by omega, rfl⟩
            case measure => omega
      · obtain rfl : i = s.length := by omega
        have hla := lows_all (n := s.length) (fun j hj => (HTS.out j hj).2)
        have hxr := HXL.out
        have hlr : lows x s.length = raw.length := by omega
        have hd2 : decide ((s.length : Int) < (s.length : Int)) = false := decide_eq_false (by omega)
        have hd3 : decide (s.length < s.length) = false := decide_eq_false (by omega)
        have hd4 : decide ((raw.length : Int) = (raw.length : Int)) = true := decide_eq_true rfl
        rw [hlr]
        clear hla hxr hlr
        go_wp2_with fail
        go_ret
        exact ⟨by simp, KW10.out.below (by simp) (Nat.le_refl _)⟩
end Go.Proofs.Ytcdmgalhboijcaa.Sc
