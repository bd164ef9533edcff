/- The document's Decode, walked. -/
import Derived.Test.YtcdmgalhboijcaaPlast
import Derived.Test.YtcdmgalhboijcaaWApart
import Derived.StillTactics
import Derived.StillTailTactics
namespace Go.Proofs.Ytcdmgalhboijcaa.Sc
open Go.RowKit Go.Shelf Go.Maps Go.Proofs.YtcdmgalhboijcaaW.PrintWords Go.Proofs.YtcdmgalhboijcaaW.PrintMore
open Go.Proofs.Ytcdmgalhboijcaa.Pu Go.Proofs.Ytcdmgalhboijcaa.D

theorem keeps_cell {w w' : World} {b o : Nat} {v : Value} (k : Keeps [] w w') (h : w.cell? ⟨b, o, none⟩ = some v) : w'.cell? ⟨b, o, none⟩ = some v := by
  rw [← h]
  exact World.cell?_of_block (k.block _ (World.block_lt_of_cell? _ _ h) (by simp))
theorem keeps_below {b : Nat} {w W W' : World} (k : Keeps [] w W) (h : Below b W W') (hb : w.heap.size ≤ b) : Keeps [] w W' :=
  ⟨h.os.trans k.os, h.tape.trans k.tape, h.output.trans k.output, Nat.le_trans k.size h.size, fun j hj _ => (h.block j (by omega)).trans (k.block j hj (by simp))⟩
theorem soon_lastV (l : List Tsk) (t : Int) (out : List Jb) : (lastV out t = -1 ∧ soon l out t = 0) ∨ ∃ (p : Nat) (y : Jb), lastV out t = (p : Int) ∧ out[p]? = some y ∧ soon l out t = y.arrive + (tsk l t).t := by
  have h := soon_last l t out
  unfold lastV
  cases hl : lastI (out.map ofJ) t (out.map ofJ).length with
  | none =>
    rw [hl] at h
    exact .inl ⟨rfl, h⟩
  | some p =>
    right
    rw [hl] at h
    have hp := lastI_lt _ _ _ _ (Nat.le_refl _) hl
    rw [List.length_map] at hp
    obtain ⟨y, hy⟩ : ∃ y, out[p]? = some y := ⟨_, List.getElem?_eq_getElem hp⟩
    have hy' : (out.map ofJ)[p]? = some (ofJ y) := by rw [List.getElem?_map, hy]; rfl
    simp only [hy'] at h
    exact ⟨p, y, rfl, hy, h⟩

set_option maxHeartbeats 8000000 in
theorem refDecode_any (A0 : Option Addr) (c0 : Nat) (l : List Tsk) (A1 : Option Addr) (c1 : Nat) (raw : List Rw) (w : World) (hsz : ∀ x ∈ l, x.nm.size ≤ maxLen)
    (h0 : kTsk.C w A0 l.length l) (hc0 : l.length ≤ c0) (h1 : kRw.C w A1 raw.length raw) (hc1 : raw.length ≤ c1) (hcuts : ∀ r ∈ raw, r.cuts.length ≤ 17592186044416) :
    Calls Try.prog 15 #[.slice A0 l.length c0, .slice A1 raw.length c1] w fun e w' => ∃ v, e = .returned v ∧ Kd.S kJb 39 w' w.heap.size (fun _ => True) v (decodeL l raw) ∧ Below w.heap.size w w' := by
  have H0 := Lib.hid h0
  have H1 := Lib.hid h1
  have HCUTS := Lib.hid hcuts
  have HSZ := Lib.hid hsz
  have hm1 : raw.length ≤ 9223372036854775807 := h1.2.1
  have hfd60 : ∀ (x y : Int) (W : World), (Instr.field 60 (.agg #[.int .i64 x, .int .i64 y]) 1).run Try.prog W = .ok (.int .i64 y) W := fun _ _ _ => by kernel_rfl
  clear h0 h1 hcuts hsz
  go_enter Try.func15, Try.ntmps15
  go_wp2_with fail
  refine (refCheckAll_any A0 c0 l _ H0.out hc0 HSZ.out).mono ?_
  rintro e w1 ⟨rfl, hB1⟩
  cases hmay : mayB l
  · have hd : decodeL l raw = [] := by unfold decodeL; simp [hmay]
    have hz : ((checkAllL l).2 != 0) = true := by unfold mayB at hmay; simpa using hmay
    have HD := Lib.hid hd
    have HB := Lib.hid hB1
    clear hd hB1
    go_wp2
    go_ret
    exact ⟨_, rfl, by rw [HD.out]; exact Kd.S_nil _ _ _ _ _, HB.out⟩
  · obtain ⟨n, hn⟩ : ∃ n, n = min raw.length 4096 := ⟨_, rfl⟩
    have hd : decodeL l raw = decodeFrom l [] (raw.take n) := by
      unfold decodeL
      rw [if_pos hmay]
      congr 1
      rw [hn, List.take_eq_take_iff]
      omega
    have hz : ((checkAllL l).2 != 0) = false := by unfold mayB at hmay; simpa using hmay
    have hf := may_fine hmay
    obtain ⟨hl1, hl2, hfine⟩ := hf
    have hnr : n ≤ raw.length := by omega
    have hn4 : n ≤ 4096 := by omega
    have HD := Lib.hid hd
    have HB1 := Lib.hid hB1
    have HFINE := Lib.hid hfine
    have HN := Lib.hid hn
    clear hd hB1 hfine HSZ hmay hn
    go_wp2_with fail
    clear hz hfd60
    go_loopg [5, 6] (n) (fun gh v iv wr => ∃ (i : Nat) (out : List Jb), n - i ≤ gh ∧ iv = .int .i64 i ∧ i ≤ n ∧ out.length = i ∧ decodeFrom l [] (raw.take n) = decodeFrom l out ((raw.take n).drop i) ∧ Soon l out ∧ Kd.S kJb 39 wr w.heap.size (fun _ => True) v out ∧ Below w.heap.size w wr)
    case atStart =>
      exact ⟨0, [], by omega, rfl, by omega, rfl, by simp, soon_nil l, Kd.S_nil _ _ _ _ _, HB1.out⟩
    case round =>
      clear HB1
      obtain ⟨i, out, hgh, rfl, hin, hol, hall, hsoon, hR, hB⟩ := hrel
      obtain ⟨A5, c5, rfl, hc5, hC5⟩ := Kd.R_reads (Kd.S_R hR)
      have HOL := Lib.hid hol
      have HC5L := Lib.hid hc5
      have hol4 : out.length ≤ 4096 := by omega
      have hT := Kd.C_below H0.out hB
      have hW := Kd.C_below H1.out hB
      have HALL := Lib.hid hall
      have HS := Lib.hid hsoon
      have HR := Lib.hid hR
      have HC5 := Lib.hid hC5
      have HB := Lib.hid hB
      have HT := Lib.hid hT
      have HW := Lib.hid hW
      clear hall hsoon hR hB hT hW hC5 hol hc5
      by_cases hlt : i < n
      · obtain ⟨r, hr⟩ : ∃ r, raw[i]? = some r := ⟨raw[i]'(by omega), by simp⟩
        rcases c_addr HW.out (by decide) with he | ⟨b1, o1, ha1⟩
        · rw [he] at hr; simp at hr
        subst ha1
        obtain ⟨cs, hK, hcell⟩ := c_cells HW.out i r hr
        obtain ⟨A4, c4, rfl, hl4, hC4⟩ := kRw_open hK
        have r0 : wr.cell? ⟨b1, o1 + i * 5, none⟩ = some (.int .i64 r.task) := hcell 0 _ rfl
        have r1 : wr.cell? ⟨b1, o1 + i * 5 + 1, none⟩ = some (.int .i64 r.gap) := hcell 1 _ rfl
        have r2 : wr.cell? ⟨b1, o1 + i * 5 + 2, none⟩ = some (.int .i64 r.late) := hcell 2 _ rfl
        have r3 : wr.cell? ⟨b1, o1 + i * 5 + 3, none⟩ = some (.int .i64 r.work) := hcell 3 _ rfl
        have r4 : wr.cell? ⟨b1, o1 + i * 5 + 4, none⟩ = some (.slice A4 r.cuts.length c4) := hcell 4 _ rfl
        rcases c_addr HT.out (by decide) with he | ⟨b0, o0, ha0⟩
        · rw [he] at hl1; simp at hl1
        subst ha0
        have hk := step_key hl1 r.task
        obtain ⟨k, hke⟩ : ∃ k : Nat, r.task % (l.length : Int) = (k : Int) := Int.eq_ofNat_of_zero_le hk.1
        have hkl : k < l.length := by omega
        have htm := tsk_mem (l := l) (k := (k : Int)) (by omega) (by omega)
        obtain ⟨t, hte⟩ : ∃ t, tsk l (k : Int) = t := ⟨_, rfl⟩
        rw [hte] at htm
        obtain ⟨cs, hK, hcell0⟩ := c_cells HT.out k t (by simpa using htm.2)
        rw [kTsk_open hK] at hcell0
        have t0 : wr.cell? ⟨b0, o0 + k * 7, none⟩ = some (.string t.nm) := hcell0 0 _ rfl
        have t1 : wr.cell? ⟨b0, o0 + k * 7 + 1, none⟩ = some (.int .i64 t.c) := hcell0 1 _ rfl
        have t2 : wr.cell? ⟨b0, o0 + k * 7 + 2, none⟩ = some (.int .i64 t.t) := hcell0 2 _ rfl
        have t3 : wr.cell? ⟨b0, o0 + k * 7 + 3, none⟩ = some (.int .i64 t.d) := hcell0 3 _ rfl
        have t4 : wr.cell? ⟨b0, o0 + k * 7 + 4, none⟩ = some (.int .i64 t.j) := hcell0 4 _ rfl
        have t5 : wr.cell? ⟨b0, o0 + k * 7 + 5, none⟩ = some (.int .i64 t.q) := hcell0 5 _ rfl
        have t6 : wr.cell? ⟨b0, o0 + k * 7 + 6, none⟩ = some (.int .i64 t.p) := hcell0 6 _ rfl
        have HF := Lib.hid (HFINE.out t htm.1)
        have HKE := Lib.hid hke
        have HTE := Lib.hid hte
        have HRI := Lib.hid hr
        have HC4 := Lib.hid hC4
        have hlt' : (i : Int) < (raw.length : Int) := by omega
        have hlt4 : (i : Int) < 4096 := by omega
        have hkl' : (k : Int) < (l.length : Int) := by omega
        have hli : (1 : Int) ≤ (l.length : Int) ∧ (l.length : Int) ≤ 1024 := by omega
        have hb0l : b0 < wr.heap.size := World.block_lt_of_cell? _ _ t0
        have hb1l : b1 < wr.heap.size := World.block_lt_of_cell? _ _ r0
        have hg0 := Int.emod_nonneg r.gap (show (1048576 : Int) ≠ 0 by omega)
        have hg1 := Int.emod_lt_of_pos r.gap (show (0 : Int) < 1048576 by omega)
        obtain ⟨g, hge⟩ : ∃ g, r.gap % 1048576 = g := ⟨_, rfl⟩
        rw [hge] at hg0 hg1
        have HGE := Lib.hid hge
        clear hk htm hke hte hr hcell hcell0 hK hC4 hge
        have hg1 : decide ((i : Int) < (raw.length : Int)) = true := decide_eq_true hlt'
        have hg2 : decide ((i : Int) < 4096) = true := decide_eq_true hlt4
        have hg3 : decide (i < raw.length) = true := decide_eq_true (by omega)
        have hg4 : decide (i < 4096) = true := decide_eq_true (by omega)
        clear hlt' hlt4
        iterate 2 ((repeat (first | go_skip | go_guarded | go_step | go_upon | go_back)); try go_simp)
        with_reducible refine (rest29a (g := (k : Int)) _ (by omega) (by omega) HKE.out).mono ?_
        rintro e w' ⟨rfl, rfl⟩
        iterate 2 ((repeat (first | go_skip | go_guarded | go_step | go_upon | go_back)); try go_simp)
        with_reducible refine (rest29a (g := g) _ (by omega) (by omega) HGE.out).mono ?_
        rintro e w' ⟨rfl, rfl⟩
        iterate 2 ((repeat (first | go_skip | go_guarded | go_step | go_upon | go_back)); try go_simp)
        have J7 := Lib.hid (blk_alloc (blk_new wr (.cells #[.int .i64 k, .int .i64 g, .int .i64 0, .int .i64 0, .slice none 0 0] 39)) (.cells #[.string t.nm, .int .i64 t.c, .int .i64 t.t, .int .i64 t.d, .int .i64 t.j, .int .i64 t.q, .int .i64 t.p] 46))
        have J8 := Lib.hid (blk_new1 wr (.cells #[.int .i64 k, .int .i64 g, .int .i64 0, .int .i64 0, .slice none 0 0] 39) (.cells #[.string t.nm, .int .i64 t.c, .int .i64 t.t, .int .i64 t.d, .int .i64 t.j, .int .i64 t.q, .int .i64 t.p] 46))
        have KW := Lib.hid (((Keeps.refl [] wr).alloc (.cells #[.int .i64 k, .int .i64 g, .int .i64 0, .int .i64 0, .slice none 0 0] 39)).alloc (.cells #[.string t.nm, .int .i64 t.c, .int .i64 t.t, .int .i64 t.d, .int .i64 t.j, .int .i64 t.q, .int .i64 t.p] 46))
        clear r0 r1 t0 t1 t2 t3 t4 t5 t6
        generalize ((wr.alloc (.cells #[.int .i64 k, .int .i64 g, .int .i64 0, .int .i64 0, .slice none 0 0] 39)).alloc (.cells #[.string t.nm, .int .i64 t.c, .int .i64 t.t, .int .i64 t.d, .int .i64 t.j, .int .i64 t.q, .int .i64 t.p] 46)) = W1 at J7 J8 KW ⊢
        refine (last_any A5 c5 out (k : Int) _ (Kd.C_below HC5.out (KW.out.below (by simp) (Nat.le_refl _))) HC5L.out hol4).mono ?_
        rintro e W2 ⟨rfl, K2⟩
        have j7 := K2.blk J7.out (by simp)
        have j8 := K2.blk J8.out (by simp)
        have kw := KW.out.trans K2
        clear J7 J8 KW K2
        have J7 := Lib.hid j7
        have J8 := Lib.hid j8
        have KW := Lib.hid kw
        clear j7 j8 kw
        obtain ⟨sn, hsn⟩ : ∃ sn, soon l out (k : Int) = sn := ⟨_, rfl⟩
        have hsb := HS.out (k : Int)
        rw [hsn, HOL.out] at hsb
        obtain ⟨hs0, hs1'⟩ := hsb
        have hs1 : sn ≤ 8800387989504 := by omega
        have fj0 := HF.out.j0
        have fj1 := HF.out.j1
        have fc0 := HF.out.c0
        have fc1 := HF.out.c1
        have fq0 := HF.out.q0
        have fq1 := HF.out.q1
        have ft0 := HF.out.t0
        have ft1 := HF.out.t1
        have hla := soon_lastV l (k : Int) out
        rw [hsn, HTE.out] at hla
        have HSN := Lib.hid hsn
        clear hsn hs1'
        rcases hla with ⟨hlv, hs⟩ | ⟨p, y, hlv, hy, hs⟩
        case' inl =>
          rw [hlv]
          have HGA : Hid (g = sn + g) := Lib.hid (by omega)
          iterate 2 ((repeat (first | go_skip | go_guarded | go_step | go_upon | go_back)); try go_simp)
          have j7 : W2.heap[wr.heap.size]? = some (.cells #[.int .i64 k, .int .i64 (sn + g), .int .i64 0, .int .i64 0, .slice none 0 0] 39 (0, 0)) := by rw [← HGA.out]; exact J7.out
          have j8 := J8.out
          have kw := KW.out
          clear J7 J8 KW
          generalize W2 = W4 at j7 j8 kw ⊢
        case' inr =>
          rw [hlv]
          have hpl : p < out.length := by
            rcases Nat.lt_or_ge p out.length with h | h
            · exact h
            · rw [List.getElem?_eq_none h] at hy; cases hy
          rcases c_addr HC5.out (by decide) with he | ⟨b5, o5, ha5⟩
          · rw [he] at hpl; simp at hpl
          subst ha5
          have hC2 := Kd.C_below HC5.out (KW.out.below (by simp) (Nat.le_refl _))
          obtain ⟨cs, hK, hcell⟩ := c_cells hC2 p y hy
          obtain ⟨A6, c6, rfl, _, _⟩ := kJb_open hK
          have y1 : W2.cell? ⟨b5, o5 + p * 5 + 1, none⟩ = some (.int .i64 y.arrive) := hcell 1 _ rfl
          have hpl' : (p : Int) < (out.length : Int) := by omega
          clear hC2 hK hcell hy
          iterate 2 ((repeat (first | go_skip | go_guarded | go_step | go_upon | go_back)); try go_simp)
          have j1 := cell_blk J7.out 1
          have t2 := cell_blk J8.out 2
          go_still_tail 12, (by kernel_rfl)
          refine name_drew_list (w := W2) ?_
          rintro W3 K2 -
          have j7 := K2.blk J7.out (by simp)
          have j8 := K2.blk J8.out (by simp)
          have kw := KW.out.trans K2
          clear J7 J8 KW K2 j1 t2
          have J7 := Lib.hid j7
          have J8 := Lib.hid j8
          have KW := Lib.hid kw
          clear j7 j8 kw
          have j1 := cell_blk J7.out 1
          have f1 := free_blk J7.out 1
          iterate 2 ((repeat (first | go_skip | go_guarded | go_step | go_upon | go_back)); try go_simp)
          clear j1 f1 y1
          have e7 : g + y.arrive + t.t = sn + g := by omega
          have j7 : (W3.setCell ⟨wr.heap.size, 1, none⟩ (.int .i64 (g + y.arrive + t.t))).heap[wr.heap.size]? = some (.cells #[.int .i64 k, .int .i64 (sn + g), .int .i64 0, .int .i64 0, .slice none 0 0] 39 (0, 0)) := by rw [e7]; simpa using blk_set_same J7.out 1 (.int .i64 (sn + g))
          have j8 := blk_set_other J8.out ⟨wr.heap.size, 1, none⟩ (.int .i64 (g + y.arrive + t.t)) (by simp)
          have kw := KW.out.setCell (wr.heap.size) 1 (.int .i64 (g + y.arrive + t.t)) (.inr (by omega))
          clear J7 J8 KW e7
          generalize (W3.setCell ⟨wr.heap.size, 1, none⟩ (.int .i64 (g + y.arrive + t.t))) = W4 at j7 j8 kw ⊢
          generalize IntKind.i64.wrap (IntKind.i64.wrap (g + y.arrive) + t.t) = z64
          generalize IntKind.i64.wrap (g + y.arrive) = z61
        all_goals
          have hir : i < raw.length := of_decide_eq_true hg3
          clear hlv hs hg1 hg2 hg3 hg4
          have R2 := keeps_cell kw r2
          have R3 := keeps_cell kw r3
          have R4 := keeps_cell kw r4
          have J7 := Lib.hid j7
          have J8 := Lib.hid j8
          have KW := Lib.hid kw
          clear j7 j8 kw
          have ha0 := Int.emod_nonneg r.late (show t.j + 1 ≠ 0 by omega)
          have ha1 := Int.emod_lt_of_pos r.late (show 0 < t.j + 1 by omega)
          obtain ⟨la, hla⟩ : ∃ la, r.late % (t.j + 1) = la := ⟨_, rfl⟩
          rw [hla] at ha0 ha1
          have HLA := Lib.hid hla
          have hb0 := Int.emod_nonneg r.work (show t.c ≠ 0 by omega)
          have hb1 := Int.emod_lt_of_pos r.work (show 0 < t.c by omega)
          obtain ⟨wo, hwo⟩ : ∃ wo, r.work % t.c = wo := ⟨_, rfl⟩
          rw [hwo] at hb0 hb1
          have HWO := Lib.hid hwo
          have hwj : IntKind.i64.wrap (t.j + 1) = t.j + 1 := IntWalk.i64_in _ (by omega)
          have HWJ := Lib.hid hwj
          clear hla hwo hwj
          have j1 := cell_blk J7.out 1
          have t4 := cell_blk J8.out 4
          go_still_tail 13, (by kernel_rfl)
          still_call (rest29g (g := la) _ (by rw [HWJ.out]; omega) (by rw [HWJ.out]; omega) (by rw [HWJ.out]; exact HLA.out))
          repeat still_step
          refine wpStill_nil ?_
          refine name_drew_list (w := W4) ?_
          rintro W5 K2 -
          have R3' := keeps_cell K2 R3
          have R4' := keeps_cell K2 R4
          have j7 := K2.blk J7.out (by simp)
          have j8 := K2.blk J8.out (by simp)
          have kw := KW.out.trans K2
          clear J7 J8 KW K2 j1 t4 R2 R3 R4
          have J7 := Lib.hid j7
          have J8 := Lib.hid j8
          have KW := Lib.hid kw
          clear j7 j8 kw
          have j2 := cell_blk J7.out 2
          have f2 := free_blk J7.out 2
          iterate 2 ((repeat (first | go_skip | go_guarded | go_step | go_upon | go_back)); try go_simp)
          clear j2 f2
          have j7 : (W5.setCell ⟨wr.heap.size, 2, none⟩ (.int .i64 (sn + g + la))).heap[wr.heap.size]? = some (.cells #[.int .i64 k, .int .i64 (sn + g), .int .i64 (sn + g + la), .int .i64 0, .slice none 0 0] 39 (0, 0)) := by simpa using blk_set_same J7.out 2 (.int .i64 (sn + g + la))
          have j8 := blk_set_other J8.out ⟨wr.heap.size, 2, none⟩ (.int .i64 (sn + g + la)) (by simp)
          have kw := KW.out.setCell (wr.heap.size) 2 (.int .i64 (sn + g + la)) (.inr (by omega))
          have R3 := keeps_cell kw r3
          have R4 := keeps_cell kw r4
          clear J7 J8 KW R3' R4'
          generalize (W5.setCell ⟨wr.heap.size, 2, none⟩ (.int .i64 (sn + g + la))) = W6 at j7 j8 kw R3 R4 ⊢
          have J7 := Lib.hid j7
          have J8 := Lib.hid j8
          have KW := Lib.hid kw
          clear j7 j8 kw
          have t1 := cell_blk J8.out 1
          go_still_tail 10, (by kernel_rfl)
          still_call (rest29g (g := wo) _ (by omega) (by omega) HWO.out)
          repeat still_step
          refine wpStill_nil ?_
          refine name_drew_list (w := W6) ?_
          rintro W7 K2 -
          have j7 := K2.blk J7.out (by simp)
          have j8 := K2.blk J8.out (by simp)
          have kw := KW.out.trans K2
          clear J7 J8 KW K2 t1 R3 R4
          have J7 := Lib.hid j7
          have J8 := Lib.hid j8
          have KW := Lib.hid kw
          clear j7 j8 kw
          have j3 := cell_blk J7.out 3
          have f3 := free_blk J7.out 3
          (repeat (first | go_skip | go_guarded | go_step | go_upon | go_back)); try go_simp
          clear j3 f3
          have j7 : (W7.setCell ⟨wr.heap.size, 3, none⟩ (.int .i64 (1 + wo))).heap[wr.heap.size]? = some (.cells #[.int .i64 k, .int .i64 (sn + g), .int .i64 (sn + g + la), .int .i64 (1 + wo), .slice none 0 0] 39 (0, 0)) := by simpa using blk_set_same J7.out 3 (.int .i64 (1 + wo))
          have j8 := blk_set_other J8.out ⟨wr.heap.size, 3, none⟩ (.int .i64 (1 + wo)) (by simp)
          have kw := KW.out.setCell (wr.heap.size) 3 (.int .i64 (1 + wo)) (.inr (by omega))
          clear J7 J8 KW
          generalize (W7.setCell ⟨wr.heap.size, 3, none⟩ (.int .i64 (1 + wo))) = W8 at j7 j8 kw ⊢
          have J7 := Lib.hid j7
          have J8 := Lib.hid j8
          have KW := Lib.hid kw
          clear j7 j8 kw
          have hsz8 : wr.heap.size + 1 < W8.heap.size := blk_lt J8.out
          have hR0 : Kd.R (Kd.int .i64) 2 W8 W8.heap.size (fun _ => True) (.slice none 0 0) [] := Kd.R_nil _ _ _ _ _
          obtain ⟨w2, rfl⟩ : ∃ w2, w2 = wr := ⟨_, rfl⟩
          generalize IntKind.i64.wrap (t.j + 1) = z75
          generalize IntKind.i64.wrap (sn + g + la) = z77
          generalize IntKind.i64.wrap (1 + wo) = z87
          go_loopg [10, 11] (r.cuts.length) (fun gh lv jv Wi => ∃ (j : Nat) (wk : Int) (acc : List Int) (v4 : Value), r.cuts.length - j ≤ gh ∧ lv = .int .i64 wk ∧ jv = .int .i64 j ∧ j ≤ r.cuts.length ∧ acc.length ≤ j ∧ 0 ≤ wk ∧ wk ≤ 2147483647 ∧ cutL r.cuts (1 + wo) t.q = acc ++ cutL (r.cuts.drop j) wk t.q ∧ Wi.heap[w2.heap.size]? = some (.cells #[.int .i64 k, .int .i64 (sn + g), .int .i64 (sn + g + la), .int .i64 (1 + wo), v4] 39 (0, 0)) ∧ Wi.heap[w2.heap.size + 1]? = some (.cells #[.string t.nm, .int .i64 t.c, .int .i64 t.t, .int .i64 t.d, .int .i64 t.j, .int .i64 t.q, .int .i64 t.p] 46 (0, 0)) ∧ Kd.R (Kd.int .i64) 2 Wi W8.heap.size (fun _ => True) v4 acc ∧ Keeps [] w2 Wi ∧ W8.heap.size ≤ Wi.heap.size)
          case atStart => exact ⟨0, 1 + wo, [], _, by omega, rfl, rfl, by omega, by simp, by omega, by omega, by simp, J7.out, J8.out, hR0, KW.out, Nat.le_refl _⟩
          case round =>
            clear J7 J8 KW hR0
            obtain ⟨j, wk, acc, v4, hgh2, rfl, rfl, hjl, hal, hwk0, hwk1, hcut, j7, j8, hR4, kw, hsz9⟩ := hrel
            obtain ⟨A7, c7, rfl, hc7, _⟩ := Kd.R_reads hR4
            have R4 := keeps_cell kw r4
            have J7 := Lib.hid j7
            have J8 := Lib.hid j8
            have KW := Lib.hid kw
            have HR4 := Lib.hid hR4
            have HCUT := Lib.hid hcut
            clear j7 j8 kw hR4 hcut
            by_cases hgo : j < r.cuts.length ∧ wk ≠ 0
            · obtain ⟨hjlt, hz⟩ := hgo
              obtain ⟨c, hc⟩ : ∃ c, r.cuts[j]? = some c := ⟨r.cuts[j], by simp [hjlt]⟩
              have hb8 : Below w2.heap.size w2 wr := KW.out.below (by simp) (Nat.le_refl _)
              obtain ⟨ad, ha, hcell⟩ := at_int (Kd.C_below HC4.out hb8) j c hc
              subst ha
              have hcut2 := HCUT.out
              have e1 : r.cuts.drop j = c :: r.cuts.drop (j + 1) := by
                rw [List.drop_eq_getElem_cons hjlt]
                rw [List.getElem?_eq_getElem hjlt] at hc
                injection hc with hc
                rw [hc]
              rw [e1, cutL, if_neg hz] at hcut2
              have HCL := Lib.hid (HCUTS.out r (List.mem_of_getElem? HRI.out))
              clear hc hb8 e1 HCUT
              have gd1 : decide ((j : Int) < (r.cuts.length : Int)) = true := decide_eq_true (by omega)
              have gd2 : decide (j < r.cuts.length) = true := decide_eq_true hjlt
              have gd3 : decide (0 < wk) = true := decide_eq_true (by omega)
              have hmin := fun W => min2_run t.q wk #[2, 2] 2 W
              have hmn0 : 0 < min t.q wk := by omega
              have hmn1 : min t.q wk ≤ 1000000000000 := by omega
              have hr0 := Int.emod_nonneg c (show min t.q wk ≠ 0 by omega)
              have hr1 := Int.emod_lt_of_pos c hmn0
              obtain ⟨m, hm⟩ : ∃ m, c % min t.q wk = m := ⟨_, rfl⟩
              rw [hm] at hr0 hr1 hcut2
              have hrk : m < wk := by omega
              have hjb : j ≤ 17592186044416 := Nat.le_trans hjl HCL.out
              have HM := Lib.hid hm
              have HCUT2 := Lib.hid hcut2
              have HMN := Lib.hid (And.intro hmn0 hmn1)
              clear hm hcut2 hr1 hmn0 hmn1
              iterate 2 ((repeat (first | go_skip | go_guarded | go_step | go_upon | go_back)); try go_simp)
              clear gd1 gd2 gd3
              have t5 := cell_blk J8.out 5
              go_still_tail 14, (by kernel_rfl)
              still_call (rest29g (g := m) _ HMN.out.1 HMN.out.2 HM.out)
              repeat still_step
              refine wpStill_nil ?_
              refine name_drew_list (w := wr) ?_
              rintro W9 K2 -
              have j7 := K2.blk J7.out (by simp)
              have j8 := K2.blk J8.out (by simp)
              have kw := KW.out.trans K2
              have hr9 := Kd.R_step HR4.out (fun q _ hq => K2.block q hq (by simp))
              have hsz99 : W8.heap.size ≤ W9.heap.size := Nat.le_trans hsz9 K2.size
              clear J7 J8 KW K2 t5 R4 HR4 hmin hcell
              have J7 := Lib.hid j7
              have J8 := Lib.hid j8
              have KW := Lib.hid kw
              have HR9 := Lib.hid hr9
              clear j7 j8 kw hr9
              have j4 := cell_blk J7.out 4
              iterate 3 ((repeat (first | ((
                              go_big_may
                              at_builtin
                              refine Kd.R_append (Kd.int .i64) (w0 := W9) W8.heap.size rfl (.tmp 120) (.tmp 122) 37 2 (.int .i64 0) 8 rfl Try.underlying37 info2 rfl (by decide) (by omega) _ acc (1 + m) [.int .i64 (1 + m)] (fun _ => True) (fun _ => False) rfl rfl rfl (fun _ hk => hk.elim) (fun _ _ => trivial) HR9.out (Below.refl _ _) hsz99 (by have := HCL.out; omega) ?_
                              intro v1 w1 ho hb hg hat
                              obtain ⟨A8, c8, rfl, hc8, _⟩ := Kd.R_reads ho
                              have HO := Lib.hid ho
                              have J71 := Lib.hid ((hb.block _ (by omega)).trans J7.out)
                              have J81 := Lib.hid ((hb.block _ (by omega)).trans J8.out)
                              have KW1 := Lib.hid (keeps_below KW.out hb (by omega))
                              have hsz1 := hb.size
                              clear j4 ho hb hg hat
                              have j4 := cell_blk J71.out 4
                              have f4 := free_blk J71.out 4)) | go_skip | go_guarded | go_step | go_upon | go_back)); try go_simp)
              clear j4 f4
              have e8 : (acc ++ [1 + m]).length = acc.length + 1 := by simp
              have ho := HO.out
              rw [e8] at ho
              have k8 : Keeps [w2.heap.size] w1 (w1.setCell ⟨w2.heap.size, 4, none⟩ (.slice A8 (acc.length + 1) c8)) := (Keeps.refl _ _).setCell _ 4 _ (.inl (by simp))
              have j7 : (w1.setCell ⟨w2.heap.size, 4, none⟩ (.slice A8 (acc.length + 1) c8)).heap[w2.heap.size]? = some (.cells #[.int .i64 k, .int .i64 (sn + g), .int .i64 (sn + g + la), .int .i64 (1 + wo), .slice A8 (acc.length + 1) c8] 39 (0, 0)) := by simpa using blk_set_same J71.out 4 (.slice A8 (acc.length + 1) c8)
              have j8 := blk_set_other J81.out ⟨w2.heap.size, 4, none⟩ (.slice A8 (acc.length + 1) c8) (by simp)
              have kw := KW1.out.setCell (w2.heap.size) 4 (.slice A8 (acc.length + 1) c8) (.inr (by omega))
              have hr := Kd.R_mono (ok' := fun _ => True) (Kd.R_step (Kd.R_bound ho) (fun q hq hlt => k8.block q hlt (by have := hq.2.1; simp; omega))) (fun _ _ => trivial)
              go_roundg (r.cuts.length - (j + 1))
              case rel => exact ⟨j + 1, wk - (1 + m), acc ++ [1 + m], _, Nat.le_refl _, rfl, by go_num, by omega, by simp; omega, by omega, by omega, by rw [HCUT2.out]; simp, j7, j8, hr, kw, Nat.le_trans hsz99 (Nat.le_trans hsz1 k8.size)⟩
              case measure => omega
            · have hcu : cutL r.cuts (1 + wo) t.q = acc := by
                rw [HCUT.out]
                by_cases hz : wk = 0
                · rw [hz, cutL_zero]; simp
                · obtain rfl : j = r.cuts.length := by
                    have : ¬ j < r.cuts.length := fun h => hgo ⟨h, hz⟩
                    omega
                  rw [List.drop_length]; simp [cutL]
              have hjob : stepJ l out r = ⟨(k : Int), sn + g, sn + g + la, 1 + wo, acc⟩ := by
                unfold stepJ
                simp only [HKE.out, HTE.out, HSN.out, HGE.out, HLA.out, HWO.out, hcu]
              have HJOB := Lib.hid hjob
              have HB8 := Lib.hid (below_keeps HB.out KW.out (by simp) HB.out.size)
              have HR8 : Hid (Kd.S kJb 39 wr w.heap.size (fun q => True ∧ ¬ W8.heap.size ≤ q) _ out) := Lib.hid (Kd.S_step (Kd.S_mono (Kd.S_bound HR.out) (fun q hq => ⟨trivial, by have := hq.2.2.1; omega⟩)) (fun q hq hlt => KW.out.block q hlt (by simp)))
              have hbs := HB.out.size
              have HR48 : Hid ((Kd.int .i64).R 2 wr w.heap.size (fun q => W8.heap.size ≤ q) (.slice A7 acc.length c7) acc) := Lib.hid (Kd.R_lower (Kd.R_mono (ok' := fun q => W8.heap.size ≤ q) (Kd.R_bound HR4.out) (fun q hq => hq.2.1)) (by omega))
              clear hcu hjob HCUT HR4
              have j0 := cell_blk J7.out 0
              have j1 := cell_blk J7.out 1
              have j2 := cell_blk J7.out 2
              have j3 := cell_blk J7.out 3
              have j4 := cell_blk J7.out 4
              have hzj : ¬ j < r.cuts.length ∨ (j < r.cuts.length ∧ wk = 0) := by omega
              clear hgo
              rcases hzj with hzj | ⟨hzj, hz⟩
              case' inl =>
                have gd1 : decide ((j : Int) < (r.cuts.length : Int)) = false := decide_eq_false (by omega)
                have gd2 : decide (j < r.cuts.length) = false := decide_eq_false hzj
                clear hzj
              case' inr =>
                subst hz
                have gd1 : decide ((j : Int) < (r.cuts.length : Int)) = true := decide_eq_true (by omega)
                have gd2 : decide (j < r.cuts.length) = true := decide_eq_true hzj
                clear hzj
              all_goals
                iterate 4 ((repeat (first | ((
                                go_big_may
                                at_builtin
                                refine Kd.S_append kJb (w0 := w) w.heap.size rfl (.tmp 128) (.tmp 130) 29 39 (.agg #[.int .i64 0, .int .i64 0, .int .i64 0, .int .i64 0, .slice none 0 0]) 56 rfl Try.underlying29 info39 rfl (by decide) (by omega) _ out ⟨(k : Int), sn + g, sn + g + la, 1 + wo, acc⟩ [.int .i64 k, .int .i64 (sn + g), .int .i64 (sn + g + la), .int .i64 (1 + wo), .slice A7 acc.length c7] (fun _ => True) (fun q => W8.heap.size ≤ q) rfl rfl (kJb_mkM _ _ _ ⟨(k : Int), sn + g, sn + g + la, 1 + wo, acc⟩ HR48.out) ?okp ?fresh HR8.out HB8.out HB8.out.size (by omega) ?_
                                case okp =>
                                  intro q hq
                                  refine ⟨trivial, fun e => ?_⟩
                                  have h1 := (Kd.R_bound (Kd.S_R HR.out)).1 q e.symm
                                  have h2 := h1.2.2.1
                                  omega
                                case fresh => intro q hq; trivial
                                intro v1 w1 ho hb hg hat)) | go_skip | go_guarded | go_step | go_upon | go_back)); try go_simp)
                rw [← HJOB.out] at ho
                go_roundg (n - (i + 1))
                case rel =>
                  refine ⟨i + 1, out ++ [stepJ l out r], Nat.le_refl _, by go_num, by omega, by simp [HOL.out], ?_, soon_step hl1 HFINE.out HS.out r, ho, hb⟩
                  rw [HALL.out]
                  have e1 : (raw.take n).drop i = r :: (raw.take n).drop (i + 1) := by
                    have hlen : i < (raw.take n).length := by simp; omega
                    rw [List.drop_eq_getElem_cons hlen]
                    have := HRI.out
                    rw [List.getElem?_eq_getElem (by omega)] at this
                    injection this with this
                    simp [this]
                  rw [e1, decodeFrom]
                case measure => omega
      · obtain rfl : i = n := by omega
        have hd2 : decodeL l raw = out := by
          rw [HD.out, HALL.out, List.drop_eq_nil_of_le (by simp; omega), decodeFrom]
        have HD2 := Lib.hid hd2
        clear hd2
        have hnn := HN.out
        have hgo : ¬ i < raw.length ∨ (i < raw.length ∧ ¬ i < 4096) := by omega
        clear hnn
        rcases hgo with hg | ⟨hg, hg'⟩
        case' inl =>
          have gd1 : decide ((i : Int) < (raw.length : Int)) = false := decide_eq_false (by omega)
          have gd2 : decide (i < raw.length) = false := decide_eq_false hg
          clear hg hlt
        case' inr =>
          have gd1 : decide ((i : Int) < (raw.length : Int)) = true := decide_eq_true (by omega)
          have gd2 : decide (i < raw.length) = true := decide_eq_true hg
          have gd3 : decide ((i : Int) < 4096) = false := decide_eq_false (by omega)
          have gd4 : decide (i < 4096) = false := decide_eq_false hg'
          clear hg hg' hlt
        all_goals
          iterate 3 ((repeat (first | go_skip | go_guarded | go_step | go_upon | go_back)); try go_simp)
          go_ret
          rw [HD2.out]
          exact ⟨_, rfl, HR.out, HB.out⟩
end Go.Proofs.Ytcdmgalhboijcaa.Sc
