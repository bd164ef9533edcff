/- What script's Decode tells, in plain Lean. -/
import Derived.Test.YtcdmgalhboijcaaKinds
import Derived.Test.YtcdmgalhboijcaaWApart
import Derived.StillTactics
import Derived.StillTailTactics
namespace Go.Proofs.Ytcdmgalhboijcaa.Sc
open Go.RowKit Go.Shelf Go.Maps

def noTsk : Tsk := ⟨⟨#[]⟩, 0, 0, 0, 0, 0, 0⟩
def tsk (l : List Tsk) (k : Int) : Tsk := l.getD k.toNat noTsk
/-- How soon a task's next job may come. -/
def soonStep (l : List Tsk) (k : Int) (s : Int) (j : Jb) : Int := if j.task = k then j.arrive + (tsk l j.task).t else s
def soon (l : List Tsk) (out : List Jb) (k : Int) : Int := out.foldl (soonStep l k) 0
theorem soon_snoc (l : List Tsk) (out : List Jb) (j : Jb) (k : Int) : soon l (out ++ [j]) k = if j.task = k then j.arrive + (tsk l j.task).t else soon l out k := by
  unfold soon
  rw [List.foldl_append]
  rfl
def stepJ (l : List Tsk) (out : List Jb) (r : Rw) : Jb :=
  let k := r.task % (l.length : Int)
  let t := tsk l k
  let arr := soon l out k + r.gap % 1048576
  let w := 1 + r.work % t.c
  ⟨k, arr, arr + r.late % (t.j + 1), w, cutL r.cuts w t.q⟩
def decodeFrom (l : List Tsk) (out : List Jb) : List Rw → List Jb
  | [] => out
  | r :: rs => decodeFrom l (out ++ [stepJ l out r]) rs
def decodeL (l : List Tsk) (raw : List Rw) : List Jb := if mayB l then decodeFrom l [] (raw.take 4096) else []

/-- What is told of jobs when they are decoded: bounds. -/
def Soon (l : List Tsk) (out : List Jb) : Prop := ∀ k, 0 ≤ soon l out k ∧ soon l out k ≤ out.length * 2148532224
theorem soon_nil (l : List Tsk) : Soon l [] := fun k => by simp [soon]
theorem tsk_mem {l : List Tsk} {k : Int} (h0 : 0 ≤ k) (h1 : k < l.length) : tsk l k ∈ l ∧ l[k.toNat]? = some (tsk l k) := by
  unfold tsk
  have h : k.toNat < l.length := by omega
  rw [List.getD_eq_getElem?_getD, List.getElem?_eq_getElem h]
  exact ⟨List.getElem_mem h, rfl⟩
theorem step_key {l : List Tsk} (hl : 1 ≤ l.length) (x : Int) : 0 ≤ x % (l.length : Int) ∧ x % (l.length : Int) < l.length :=
  ⟨Int.emod_nonneg _ (by omega), Int.emod_lt_of_pos _ (by omega)⟩
theorem soon_step {l : List Tsk} (hl : 1 ≤ l.length) (hf : ∀ x ∈ l, Fine x) {out : List Jb} (h : Soon l out) (r : Rw) : Soon l (out ++ [stepJ l out r]) := by
  intro k
  rw [soon_snoc]
  have hk := step_key hl r.task
  have hm := tsk_mem hk.1 hk.2
  have hF := hf _ hm.1
  have hs := h (r.task % (l.length : Int))
  have hg0 := Int.emod_nonneg r.gap (show (1048576 : Int) ≠ 0 by omega)
  have hg1 := Int.emod_lt_of_pos r.gap (show (0 : Int) < 1048576 by omega)
  have ht0 := hF.t0
  have ht1 := hF.t1
  have hlen : ((out ++ [stepJ l out r]).length : Int) = out.length + 1 := by simp
  rw [hlen]
  split
  · simp only [stepJ]
    omega
  · have := h k
    omega
theorem decodeFrom_length (l : List Tsk) : ∀ (rs : List Rw) (out : List Jb), (decodeFrom l out rs).length = out.length + rs.length
  | [], out => by simp [decodeFrom]
  | r :: rs, out => by
    rw [decodeFrom, decodeFrom_length l rs]
    simp
    omega
end Go.Proofs.Ytcdmgalhboijcaa.Sc
/- script's Decode, walked. -/
namespace Go.Proofs.Ytcdmgalhboijcaa.Sc
open Go.RowKit Go.Shelf Go.Maps Go.Proofs.YtcdmgalhboijcaaW.PrintWords Go.Proofs.YtcdmgalhboijcaaW.PrintMore

def soonF (l : List Tsk) (out : List Jb) : Lit → Int
  | .int .i64 k => soon l out k
  | _ => 0
theorem info39 : (Try.prog.info? 39).map (fun i => (i.zero, i.size, i.bytes)) = some (some (.agg #[.int .i64 0, .int .i64 0, .int .i64 0, .int .i64 0, .slice none 0 0]), 5, 56) := by kernel_rfl
theorem blk_new2 (w : World) (x y z : Obj) : (((w.alloc x).alloc y).alloc z).heap[w.heap.size + 2]? = some z := by
  have h := blk_new ((w.alloc x).alloc y) z
  rwa [show ((w.alloc x).alloc y).heap.size = w.heap.size + 2 from by simp] at h
theorem rest_still (x n : Int) (w : World) (h : 0 < n) (hn : n ≤ 1000000000000) : Calls Try.prog 26 #[.int .i64 x, .int .i64 n] w fun e w' => e = .returned (.int .i64 (x % n)) ∧ w' = w :=
  (rest_any x n w h hn).mono fun _ _ ⟨a, b⟩ => ⟨a, b.symm⟩

theorem rest_stillg {x n g : Int} (w : World) (h : 0 < n) (hn : n ≤ 1000000000000) (hg : x % n = g) : Calls Try.prog 26 #[.int .i64 x, .int .i64 n] w fun e w' => e = .returned (.int .i64 g) ∧ w' = w := by
  rw [← hg]; exact rest_still x n w h hn
theorem rest_anyg {x n g : Int} (w : World) (h : 0 < n) (hn : n ≤ 1000000000000) (hg : x % n = g) : Calls Try.prog 26 #[.int .i64 x, .int .i64 n] w fun e w' => e = .returned (.int .i64 g) ∧ w = w' := by
  rw [← hg]; exact rest_any x n w h hn

theorem below_keeps {b : Nat} {w wr W : World} {F : List Nat} (h : Below b w wr) (k : Keeps F wr W) (hF : ∀ f ∈ F, b ≤ f) (hb : b ≤ wr.heap.size) : Below b w W :=
  ⟨k.os.trans h.os, k.tape.trans h.tape, k.output.trans h.output, Nat.le_trans h.size k.size, fun j hj => (k.block j (by omega) (fun hf => by have := hF j hf; omega)).trans (h.block j hj)⟩

set_option maxHeartbeats 4000000 in
theorem decode_any (A0 : Option Addr) (c0 : Nat) (l : List Tsk) (A1 : Option Addr) (c1 : Nat) (raw : List Rw) (w : World) (hsz : ∀ x ∈ l, x.nm.size ≤ maxLen) (hwf : ∀ x ∈ l, (Lit.int .i64 x.p).wf = true)
    (h0 : kTsk.C w A0 l.length l) (hc0 : l.length ≤ c0) (h1 : kRw.C w A1 raw.length raw) (hc1 : raw.length ≤ c1) (hcuts : ∀ r ∈ raw, r.cuts.length ≤ 17592186044416) :
    Calls Try.prog 14 #[.slice A0 l.length c0, .slice A1 raw.length c1] w fun e w' => ∃ v, e = .returned v ∧ Kd.S kJb 39 w' w.heap.size (fun _ => True) v (decodeL l raw) ∧ Below w.heap.size w w' := by
  have hmm := @run_makeMap Try.prog
  have H0 := Lib.hid h0
  have H1 := Lib.hid h1
  have HCUTS := Lib.hid hcuts
  have HSZ := Lib.hid hsz
  have HWF := Lib.hid hwf
  have hm1 : raw.length ≤ 9223372036854775807 := h1.2.1
  clear h0 h1 hcuts hsz hwf
  go_enter Try.func14, Try.ntmps14
  go_wp2_with fail
  refine (may_any A0 c0 l _ HSZ.out HWF.out (row_tsk H0.out)).mono ?_
  rintro e w1 ⟨rfl, K1⟩
  have hB1 := K1.below (B := w.heap.size) (by simp) (Nat.le_refl _)
  cases hmay : mayB l
  · have hd : decodeL l raw = [] := by unfold decodeL; simp [hmay]
    have HD := Lib.hid hd
    have HB := Lib.hid hB1
    clear hd hmm K1 hB1
    go_wp2
    go_ret
    exact ⟨_, rfl, by rw [HD.out]; exact Kd.S_nil _ _ _ _ _, HB.out⟩
  · obtain ⟨n, hn⟩ : ∃ n, n = min raw.length 4096 := ⟨_, rfl⟩
    have hd : decodeL l raw = decodeFrom l [] (raw.take n) := by
      unfold decodeL
      rw [if_pos hmay]
      congr 1
      rw [hn, List.take_eq_take_iff]
      omega
    have hf := may_fine hmay
    obtain ⟨hl1, hl2, hfine⟩ := hf
    have hmin : ∀ W, (Builtin.min_ #[3, 3] 3 #[.int .i64 raw.length, .int .i64 4096]).run Try.prog W = .ok (.int .i64 n) W := fun W => by
      rw [min2_run]
      congr 2
      omega
    have hnr : n ≤ raw.length := by omega
    have hnc : (n : Int) ≤ (c1 : Int) := by omega
    have hn0 : (0 : Int) ≤ (n : Int) := by omega
    have hn4 : n ≤ 4096 := by omega
    have HD := Lib.hid hd
    have HB1 := Lib.hid hB1
    have HFINE := Lib.hid hfine
    clear hd hB1 hfine K1 hn HSZ HWF hmay
    go_wp2_with fail
    have hm0 : IsMapI (w1.alloc (.map #[] 0)) 3 2 w1.heap.size 0 (fun _ => 0) := IsMapI.made w1 3 2
    have hB2 : Below w.heap.size w (w1.alloc (.map #[] 0)) := HB1.out.alloc HB1.out.size _
    have hlt1 : w1.heap.size < (w1.alloc (.map #[] 0)).heap.size := hm0.lt
    have hws := HB1.out.size
    obtain ⟨B, hBe⟩ : ∃ B, B = w1.heap.size := ⟨_, rfl⟩
    clear HB1 hmm
    generalize (w1.alloc (.map #[] 0)) = w2 at hm0 hB2 hlt1 ⊢
    go_loopg [5, 21] (n) (fun gh v iv wr => ∃ (i : Nat) (out : List Jb), n - i ≤ gh ∧ iv = .int .i64 i ∧ i ≤ n ∧ out.length = i ∧ decodeFrom l [] (raw.take n) = decodeFrom l out ((raw.take n).drop i) ∧ Soon l out ∧ IsMapI wr 3 2 w1.heap.size i (soonF l out) ∧ Kd.S kJb 39 wr w.heap.size (fun k => k ≠ w1.heap.size) v out ∧ Below w.heap.size w wr)
    case atStart =>
      refine ⟨0, [], by omega, rfl, by omega, rfl, by simp, soon_nil l, ?_, Kd.S_nil _ _ _ _ _, hB2⟩
      have e : soonF l [] = fun _ => 0 := by funext k; unfold soonF; split <;> simp [soon]
      rw [e]; exact hm0
    case round =>
      obtain ⟨i, out, hgh, rfl, hin, hol, hall, hsoon, hmap, hR, hB⟩ := hrel
      have hT := Kd.C_below H0.out hB
      have hW := Kd.C_below H1.out hB
      have HALL := Lib.hid hall
      have HS := Lib.hid hsoon
      have HM := Lib.hid hmap
      have HR := Lib.hid hR
      have HB := Lib.hid hB
      have HT := Lib.hid hT
      have HW := Lib.hid hW
      clear hall hsoon hmap hR hB hT hW hm0 hB2
      by_cases hlt : i < n
      · obtain ⟨r, hr⟩ : ∃ r, raw[i]? = some r := ⟨raw[i]'(by omega), by simp⟩
        rcases c_addr HW.out (by decide) with he | ⟨b1, o1, ha1⟩
        · rw [he] at hr; simp at hr
        subst ha1
        obtain ⟨cs, hK, hcell⟩ := c_cells HW.out i r hr
        obtain ⟨A4, c4, rfl, hl4, hC4⟩ := kRw_open hK
        have r0 : wr.cell? ⟨b1, o1 + i * 5, none⟩ = some (.int .i64 r.task) := hcell 0 _ rfl
        have r1 : wr.cell? ⟨b1, o1 + i * 5 + 1, none⟩ = some (.int .i64 r.gap) := hcell 1 _ rfl
        have r2 : wr.cell? ⟨b1, o1 + i * 5 + 2, none⟩ = some (.int .i64 r.late) := hcell 2 _ rfl
        have r3 : wr.cell? ⟨b1, o1 + i * 5 + 3, none⟩ = some (.int .i64 r.work) := hcell 3 _ rfl
        have r4 : wr.cell? ⟨b1, o1 + i * 5 + 4, none⟩ = some (.slice A4 r.cuts.length c4) := hcell 4 _ rfl
        rcases c_addr HT.out (by decide) with he | ⟨b0, o0, ha0⟩
        · rw [he] at hl1; simp at hl1
        subst ha0
        have hk := step_key hl1 r.task
        obtain ⟨k, hke⟩ : ∃ k : Nat, r.task % (l.length : Int) = (k : Int) := Int.eq_ofNat_of_zero_le hk.1
        have hkl : k < l.length := by omega
        have htm := tsk_mem (l := l) (k := (k : Int)) (by omega) (by omega)
        obtain ⟨t, hte⟩ : ∃ t, tsk l (k : Int) = t := ⟨_, rfl⟩
        rw [hte] at htm
        obtain ⟨cs, hK, hcell0⟩ := c_cells HT.out k t (by simpa using htm.2)
        rw [kTsk_open hK] at hcell0
        have t0 : wr.cell? ⟨b0, o0 + k * 7, none⟩ = some (.string t.nm) := hcell0 0 _ rfl
        have t1 : wr.cell? ⟨b0, o0 + k * 7 + 1, none⟩ = some (.int .i64 t.c) := hcell0 1 _ rfl
        have t2 : wr.cell? ⟨b0, o0 + k * 7 + 2, none⟩ = some (.int .i64 t.t) := hcell0 2 _ rfl
        have t3 : wr.cell? ⟨b0, o0 + k * 7 + 3, none⟩ = some (.int .i64 t.d) := hcell0 3 _ rfl
        have t4 : wr.cell? ⟨b0, o0 + k * 7 + 4, none⟩ = some (.int .i64 t.j) := hcell0 4 _ rfl
        have t5 : wr.cell? ⟨b0, o0 + k * 7 + 5, none⟩ = some (.int .i64 t.q) := hcell0 5 _ rfl
        have t6 : wr.cell? ⟨b0, o0 + k * 7 + 6, none⟩ = some (.int .i64 t.p) := hcell0 6 _ rfl
        have HF := Lib.hid (HFINE.out t htm.1)
        have HKE := Lib.hid hke
        have HTE := Lib.hid hte
        have HRI := Lib.hid hr
        have HC4 := Lib.hid hC4
        have hlt' : (i : Int) < (n : Int) := by omega
        have hkl' : (k : Int) < (l.length : Int) := by omega
        have hli : (1 : Int) ≤ (l.length : Int) ∧ (l.length : Int) ≤ 1024 := by omega
        have hb0l : b0 < wr.heap.size := World.block_lt_of_cell? _ _ t0
        clear hk htm hke hte hr hcell hcell0 hK hC4
        go_wp2_with (go_at_call 26; refine (rest_any r.task (l.length : Int) _ (by omega) (by omega)).mono ?_; rintro e w' ⟨rfl, rfl⟩; rw [HKE.out])
        have J8 := Lib.hid (blk_alloc (blk_alloc (blk_new wr (.cells #[.int .i64 r.task, .int .i64 r.gap, .int .i64 r.late, .int .i64 r.work, .slice A4 r.cuts.length c4] 36)) (.cells #[.int .i64 k, .int .i64 0, .int .i64 0, .int .i64 0, .slice none 0 0] 39)) (.cells #[.string t.nm, .int .i64 t.c, .int .i64 t.t, .int .i64 t.d, .int .i64 t.j, .int .i64 t.q, .int .i64 t.p] 46))
        have J9 := Lib.hid (blk_alloc (blk_new1 wr (.cells #[.int .i64 r.task, .int .i64 r.gap, .int .i64 r.late, .int .i64 r.work, .slice A4 r.cuts.length c4] 36) (.cells #[.int .i64 k, .int .i64 0, .int .i64 0, .int .i64 0, .slice none 0 0] 39)) (.cells #[.string t.nm, .int .i64 t.c, .int .i64 t.t, .int .i64 t.d, .int .i64 t.j, .int .i64 t.q, .int .i64 t.p] 46))
        have J10 : Hid ((((wr.alloc (.cells #[.int .i64 r.task, .int .i64 r.gap, .int .i64 r.late, .int .i64 r.work, .slice A4 r.cuts.length c4] 36)).alloc (.cells #[.int .i64 k, .int .i64 0, .int .i64 0, .int .i64 0, .slice none 0 0] 39)).alloc (.cells #[.string t.nm, .int .i64 t.c, .int .i64 t.t, .int .i64 t.d, .int .i64 t.j, .int .i64 t.q, .int .i64 t.p] 46)).heap[wr.heap.size + 1 + 1]? = some (.cells #[.string t.nm, .int .i64 t.c, .int .i64 t.t, .int .i64 t.d, .int .i64 t.j, .int .i64 t.q, .int .i64 t.p] 46 (0, 0))) := Lib.hid (blk_new2 wr (.cells #[.int .i64 r.task, .int .i64 r.gap, .int .i64 r.late, .int .i64 r.work, .slice A4 r.cuts.length c4] 36) (.cells #[.int .i64 k, .int .i64 0, .int .i64 0, .int .i64 0, .slice none 0 0] 39) (.cells #[.string t.nm, .int .i64 t.c, .int .i64 t.t, .int .i64 t.d, .int .i64 t.j, .int .i64 t.q, .int .i64 t.p] 46))
        have KW := Lib.hid ((((Keeps.refl [] wr).alloc (.cells #[.int .i64 r.task, .int .i64 r.gap, .int .i64 r.late, .int .i64 r.work, .slice A4 r.cuts.length c4] 36)).alloc (.cells #[.int .i64 k, .int .i64 0, .int .i64 0, .int .i64 0, .slice none 0 0] 39)).alloc (.cells #[.string t.nm, .int .i64 t.c, .int .i64 t.t, .int .i64 t.d, .int .i64 t.j, .int .i64 t.q, .int .i64 t.p] 46))
        clear r0 r1 r2 r3 r4 t0 t1 t2 t3 t4 t5 t6
        generalize (((wr.alloc (.cells #[.int .i64 r.task, .int .i64 r.gap, .int .i64 r.late, .int .i64 r.work, .slice A4 r.cuts.length c4] 36)).alloc (.cells #[.int .i64 k, .int .i64 0, .int .i64 0, .int .i64 0, .slice none 0 0] 39)).alloc (.cells #[.string t.nm, .int .i64 t.c, .int .i64 t.t, .int .i64 t.d, .int .i64 t.j, .int .i64 t.q, .int .i64 t.p] 46)) = W1 at J8 J9 J10 KW ⊢
        obtain ⟨sn, hsn⟩ : ∃ sn, soon l out (k : Int) = sn := ⟨_, rfl⟩
        have hsb := HS.out (k : Int)
        rw [hsn, hol] at hsb
        obtain ⟨hs0, hs1'⟩ := hsb
        have hs1 : sn ≤ 8800387989504 := by omega
        have hg0 := Int.emod_nonneg r.gap (show (1048576 : Int) ≠ 0 by omega)
        have hg1 := Int.emod_lt_of_pos r.gap (show (0 : Int) < 1048576 by omega)
        obtain ⟨g, hge⟩ : ∃ g, r.gap % 1048576 = g := ⟨_, rfl⟩
        rw [hge] at hg0 hg1
        have HGE := Lib.hid hge
        clear hs1' hge
        have hrun := runI law3 Try.underlying2 zero2 Try.underlying55 (HM.out.keeps (KW.out.drew) (by simp)) (keyOf_int_mk (a := (k : Int)) Try.underlying3 (WalkArith.wf_i64 (by omega))) trivial (show soonF l out (.int .i64 (k : Int)) = sn from hsn)
        have r1 := cell_blk J8.out 1
        have j0 := cell_blk J9.out 0
        have HSN := Lib.hid hsn
        clear hsn
        go_still_tail 9, (by kernel_rfl)
        still_call (rest_stillg _ (by omega) (by omega) HGE.out)
        repeat still_step
        refine wpStill_nil ?_
        refine name_drew_list (w := W1) ?_
        rintro W2 K2 -
        have j8 := K2.blk J8.out (by simp)
        have j9 := K2.blk J9.out (by simp)
        have j10 := K2.blk J10.out (by simp)
        have kw := KW.out.trans K2
        clear J8 J9 J10 KW K2 hrun r1 j0
        have J8 := Lib.hid j8
        have J9 := Lib.hid j9
        have J10 := Lib.hid j10
        have KW := Lib.hid kw
        clear j8 j9 j10 kw
        have j1 := cell_blk J9.out 1
        have f1 := free_blk J9.out 1
        go_wp2_with fail
        clear j1 f1
        have j8 := blk_set_other J8.out ⟨wr.heap.size + 1, 1, none⟩ (.int .i64 (sn + g)) (by simp)
        have j9 : (W2.setCell ⟨wr.heap.size + 1, 1, none⟩ (.int .i64 (sn + g))).heap[wr.heap.size + 1]? = some (.cells #[.int .i64 k, .int .i64 (sn + g), .int .i64 0, .int .i64 0, .slice none 0 0] 39 (0, 0)) := by simpa using blk_set_same J9.out 1 (.int .i64 (sn + g))
        have j10 := blk_set_other J10.out ⟨wr.heap.size + 1, 1, none⟩ (.int .i64 (sn + g)) (by simp)
        have kw := KW.out.setCell (wr.heap.size + 1) 1 (.int .i64 (sn + g)) (.inr (by omega))
        clear J8 J9 J10 KW
        generalize (W2.setCell ⟨wr.heap.size + 1, 1, none⟩ (.int .i64 (sn + g))) = W3 at j8 j9 j10 kw ⊢
        have J8 := Lib.hid j8
        have J9 := Lib.hid j9
        have J10 := Lib.hid j10
        have KW := Lib.hid kw
        clear j8 j9 j10 kw
        have fj0 := HF.out.j0
        have fj1 := HF.out.j1
        have fc0 := HF.out.c0
        have fc1 := HF.out.c1
        have fq0 := HF.out.q0
        have fq1 := HF.out.q1
        have ft0 := HF.out.t0
        have ft1 := HF.out.t1
        have ha0 := Int.emod_nonneg r.late (show t.j + 1 ≠ 0 by omega)
        have ha1 := Int.emod_lt_of_pos r.late (show 0 < t.j + 1 by omega)
        obtain ⟨la, hla⟩ : ∃ la, r.late % (t.j + 1) = la := ⟨_, rfl⟩
        rw [hla] at ha0 ha1
        have HLA := Lib.hid hla
        have hb0 := Int.emod_nonneg r.work (show t.c ≠ 0 by omega)
        have hb1 := Int.emod_lt_of_pos r.work (show 0 < t.c by omega)
        obtain ⟨wo, hwo⟩ : ∃ wo, r.work % t.c = wo := ⟨_, rfl⟩
        rw [hwo] at hb0 hb1
        have HWO := Lib.hid hwo
        have hwj : IntKind.i64.wrap (t.j + 1) = t.j + 1 := IntWalk.i64_in _ (by omega)
        have HWJ := Lib.hid hwj
        clear hla hwo hwj
        have j1 := cell_blk J9.out 1
        have r2 := cell_blk J8.out 2
        have t4 := cell_blk J10.out 4
        go_still_tail 10, (by kernel_rfl)
        still_call (rest_stillg (g := la) _ (by rw [HWJ.out]; omega) (by rw [HWJ.out]; omega) (by rw [HWJ.out]; exact HLA.out))
        repeat still_step
        refine wpStill_nil ?_
        refine name_drew_list (w := W3) ?_
        rintro W4 K2 -
        have j8 := K2.blk J8.out (by simp)
        have j9 := K2.blk J9.out (by simp)
        have j10 := K2.blk J10.out (by simp)
        have kw := KW.out.trans K2
        clear J8 J9 J10 KW K2
        have J8 := Lib.hid j8
        have J9 := Lib.hid j9
        have J10 := Lib.hid j10
        have KW := Lib.hid kw
        clear j8 j9 j10 kw
        clear j1 r2 t4
        have j2 := cell_blk J9.out 2
        have f2 := free_blk J9.out 2
        have j3 := cell_blk J9.out 3
        have f3 := free_blk J9.out 3
        have r3 := cell_blk J8.out 3
        have r4 := cell_blk J8.out 4
        have t1 := cell_blk J10.out 1
        have t5 := cell_blk J10.out 5
        go_wp2_with (go_at_call 26; refine (rest_anyg _ (by omega) (by omega) HWO.out).mono ?_; rintro e w' ⟨rfl, rfl⟩)
        clear j2 f2 j3 f3 r3 r4 t1 t5
        have j8 := blk_set_other (blk_set_other J8.out ⟨wr.heap.size + 1, 2, none⟩ (.int .i64 (sn + g + la)) (by simp)) ⟨wr.heap.size + 1, 3, none⟩ (.int .i64 (1 + wo)) (by simp)
        have j9 : ((W4.setCell ⟨wr.heap.size + 1, 2, none⟩ (.int .i64 (sn + g + la))).setCell ⟨wr.heap.size + 1, 3, none⟩ (.int .i64 (1 + wo))).heap[wr.heap.size + 1]? = some (.cells #[.int .i64 k, .int .i64 (sn + g), .int .i64 (sn + g + la), .int .i64 (1 + wo), .slice none 0 0] 39 (0, 0)) := by simpa using blk_set_same (blk_set_same J9.out 2 (.int .i64 (sn + g + la))) 3 (.int .i64 (1 + wo))
        have j10 := blk_set_other (blk_set_other J10.out ⟨wr.heap.size + 1, 2, none⟩ (.int .i64 (sn + g + la)) (by simp)) ⟨wr.heap.size + 1, 3, none⟩ (.int .i64 (1 + wo)) (by simp)
        have kw := (KW.out.setCell (wr.heap.size + 1) 2 (.int .i64 (sn + g + la)) (.inr (by omega))).setCell (wr.heap.size + 1) 3 (.int .i64 (1 + wo)) (.inr (by omega))
        clear J8 J9 J10 KW
        generalize ((W4.setCell ⟨wr.heap.size + 1, 2, none⟩ (.int .i64 (sn + g + la))).setCell ⟨wr.heap.size + 1, 3, none⟩ (.int .i64 (1 + wo))) = W5 at j8 j9 j10 kw ⊢
        have J8 := Lib.hid j8
        have J9 := Lib.hid j9
        have J10 := Lib.hid j10
        have KW := Lib.hid kw
        clear j8 j9 j10 kw
        have hb5 : Below wr.heap.size wr W5 := KW.out.below (by simp) (Nat.le_refl _)
        refine (cut_any A4 c4 r.cuts (1 + wo) t.q W5 (Kd.C_below HC4.out hb5) hl4 (HCUTS.out r (List.mem_of_getElem? HRI.out)) (by omega) (by omega) (by omega) (by omega)).mono ?_
        rintro e W6 ⟨v4, rfl, hR4, hB6⟩
        obtain ⟨A4', c4', rfl⟩ := Kd.R_slice hR4
        have k6 := Keeps.of_below (F := []) hB6
        have j8 := k6.blk J8.out (by simp)
        have j9 := k6.blk J9.out (by simp)
        have j10 := k6.blk J10.out (by simp)
        have kw := KW.out.trans k6
        have hsz5 := KW.out.size
        have hb9 : wr.heap.size + 1 < W5.heap.size := blk_lt J9.out
        clear J8 J9 J10 KW k6 hB6 hb5
        have J8 := Lib.hid j8
        have J9 := Lib.hid j9
        have J10 := Lib.hid j10
        have KW := Lib.hid kw
        have HR4 := Lib.hid hR4
        clear j8 j9 j10 kw hR4
        have j4 := cell_blk J9.out 4
        have f4 := free_blk J9.out 4
        have j0 := cell_blk J9.out 0
        have j1 := cell_blk J9.out 1
        have t2 := cell_blk J10.out 2
        have hks : IntKind.i64.wrap (sn + g + t.t) = sn + g + t.t := IntWalk.i64_in _ (by omega)
        generalize hcu : cutL r.cuts (1 + wo) t.q = cu at HR4 ⊢
        have HCU := Lib.hid hcu
        clear hcu
        have hjob : stepJ l out r = ⟨(k : Int), sn + g, sn + g + la, 1 + wo, cu⟩ := by
          unfold stepJ
          simp only [HKE.out, HTE.out, HSN.out, HGE.out, HLA.out, HWO.out, HCU.out]
        have HJOB := Lib.hid hjob
        have HN : Hid (soonF l (out ++ [stepJ l out r]) (.int .i64 (k : Int)) = sn + g + t.t) := Lib.hid (by
          show soon l (out ++ [stepJ l out r]) (k : Int) = _
          rw [soon_snoc, hjob, if_pos rfl]
          simp only [HTE.out])
        have HO : Hid (∀ kl, kl ≠ .int .i64 (k : Int) → soonF l (out ++ [stepJ l out r]) kl = soonF l out kl) := Lib.hid (fun kl hkl => by
          unfold soonF
          split
          · rename_i k2
            rw [soon_snoc, hjob, if_neg]
            intro e
            exact hkl (by rw [← e])
          · rfl)
        clear hjob
        have hBlt : w1.heap.size < wr.heap.size := HM.out.lt
        go_wp2_with (first
          | (at_mapUpdate
             refine putI law3 Try.underlying2 _ rfl _ _ _ 55 rfl Try.underlying55 w1.heap.size i (soonF l out) rfl (HM.out.keeps (KW.out.setCell (wr.heap.size + 1) 4 (.slice A4' cu.length c4') (.inr (by omega))) (by simp)) (by unfold maxLen; omega) _ (sn + g + t.t) (.int .i64 (k : Int)) rfl rfl (keyOf_int_mk (a := (k : Int)) Try.underlying3 (WalkArith.wf_i64 (by omega))) trivial (WalkArith.wf_i64 (by omega)) (soonF l (out ++ [stepJ l out r])) HN.out HO.out ?_
             intro W8 hm8 K8
             have kw7 := KW.out.setCell (wr.heap.size + 1) 4 (.slice A4' cu.length c4') (.inr (by omega))
             have j97 : (W6.setCell ⟨wr.heap.size + 1, 4, none⟩ (.slice A4' cu.length c4')).heap[wr.heap.size + 1]? = some (.cells #[.int .i64 k, .int .i64 (sn + g), .int .i64 (sn + g + la), .int .i64 (1 + wo), .slice A4' cu.length c4'] 39 (0, 0)) := by simpa using blk_set_same J9.out 4 (.slice A4' cu.length c4')
             have k67 : Keeps [wr.heap.size + 1] W6 (W6.setCell ⟨wr.heap.size + 1, 4, none⟩ (.slice A4' cu.length c4')) := (Keeps.refl _ _).setCell _ 4 _ (.inl (by simp))
             generalize (W6.setCell ⟨wr.heap.size + 1, 4, none⟩ (.slice A4' cu.length c4')) = W7 at kw7 j97 k67 K8
             have j98 := K8.blk j97 (by simp; omega)
             have kw8 : Keeps [w1.heap.size] wr W8 := (kw7.mono (by simp)).trans K8
             have HB8 := Lib.hid (below_keeps HB.out kw8 (by simp; omega) HB.out.size)
             have HR8 : Hid (Kd.S kJb 39 W8 w.heap.size (fun k => k ≠ w1.heap.size ∧ ¬ W5.heap.size ≤ k) u5 out) := Lib.hid (Kd.S_step (Kd.S_mono (Kd.S_bound HR.out) (fun j hj => ⟨hj.1, by have := hj.2.2.1; omega⟩)) (fun j hj hlt => kw8.block j hlt (by simpa using hj.1)))
             have hr4 : (Kd.int .i64).R 2 W8 w.heap.size (fun k => W5.heap.size ≤ k) (.slice A4' cu.length c4') cu := by
               have h1 := Kd.R_mono (ok' := fun k => W5.heap.size ≤ k) (Kd.R_bound HR4.out) (fun k hk => hk.2.1)
               have h2 := Kd.R_step h1 (fun j hj hlt => (K8.block j (Nat.lt_of_lt_of_le hlt k67.size) (by simp; omega)).trans (k67.block j hlt (by simp; omega)))
               exact Kd.R_lower h2 (by have := HB.out.size; omega)
             have HR48 := Lib.hid hr4
             have HM8 := Lib.hid hm8
             clear kw7 j97 k67 K8 kw8 hr4 hm8 j0 j1 j4 f4 t2 J8 J9 J10 HR4 HM HN HO
             have j0 := cell_blk j98 0
             have j1 := cell_blk j98 1
             have j2 := cell_blk j98 2
             have j3 := cell_blk j98 3
             have j4 := cell_blk j98 4
             clear j98)
          | (at_builtin
             refine Kd.S_append kJb (w0 := w) w.heap.size rfl (.tmp 78) (.tmp 80) 29 39 (.agg #[.int .i64 0, .int .i64 0, .int .i64 0, .int .i64 0, .slice none 0 0]) 56 rfl Try.underlying29 info39 rfl (by decide) (by omega) _ out ⟨(k : Int), sn + g, sn + g + la, 1 + wo, cu⟩ [.int .i64 k, .int .i64 (sn + g), .int .i64 (sn + g + la), .int .i64 (1 + wo), .slice A4' cu.length c4'] (fun k => k ≠ w1.heap.size) (fun k => W5.heap.size ≤ k) rfl rfl (kJb_mkM _ _ _ ⟨(k : Int), sn + g, sn + g + la, 1 + wo, cu⟩ HR48.out) ?okp ?fresh HR8.out HB8.out HB8.out.size (by omega) ?_
             case okp =>
               intro j hj
               refine ⟨by omega, fun e => ?_⟩
               have h1 := (Kd.R_bound (Kd.S_R HR.out)).1 j e.symm
               have h2 := h1.2.2.1
               omega
             case fresh => intro j hj; have := HM8.out.lt; omega
             intro v1 W9 ho hb hg hat))
        have hm9 : IsMapI W9 3 2 w1.heap.size (i + 1) (soonF l (out ++ [stepJ l out r])) := HM8.out.blk (hg.block _ HM8.out.lt (fun e => ((Kd.S_R HR8.out).1 _ e.symm).1 rfl))
        rw [← HJOB.out] at ho
        go_roundg (n - (i + 1))
        case rel =>
          refine ⟨i + 1, out ++ [stepJ l out r], Nat.le_refl _, by go_num, by omega, by simp [hol], ?_, soon_step hl1 HFINE.out HS.out r, hm9, ho, hb⟩
          rw [HALL.out]
          have e1 : (raw.take n).drop i = r :: (raw.take n).drop (i + 1) := by
            have hlen : i < (raw.take n).length := by simp; omega
            rw [List.drop_eq_getElem_cons hlen]
            have := HRI.out
            rw [List.getElem?_eq_getElem (by omega)] at this
            injection this with this
            simp [this]
          rw [e1, decodeFrom]
        case measure => omega
      · obtain rfl : i = n := by omega
        have hd2 : decodeL l raw = out := by
          rw [HD.out, HALL.out, List.drop_eq_nil_of_le (by simp; omega), decodeFrom]
        have HD2 := Lib.hid hd2
        clear hd2
        go_wp2
        go_ret
        rw [HD2.out]
        exact ⟨_, rfl, Kd.S_mono HR.out (fun _ _ => trivial), HB.out⟩
end Go.Proofs.Ytcdmgalhboijcaa.Sc
