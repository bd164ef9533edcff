/- turned: jobs, of which one has another number, walked. -/
import Derived.Test.YtcdmgalhboijcaaNset
set_option linter.unusedVariables false
set_option linter.unusedSimpArgs false
namespace Go.Proofs.Ytcdmgalhboijcaa.Sc
open Go.RowKit Go.Proofs.Ytcdmgalhboijcaa.D Go.Proofs.YtcdmgalhboijcaaW.PrintWords Go.Proofs.YtcdmgalhboijcaaW.PrintLast Go.Proofs.Ytcdmgalhboijcaa.Pu

def turnJ (j : Jb) (how : Int) (n : Int) : Jb :=
  if how = 0 then setJ j 0 n
  else if how = 1 then setJ j 1 (wrap64 (j.arrive + n))
  else if how = 2 then setJ j 2 (wrap64 (j.release + n))
  else if how = 3 then setJ j 3 (wrap64 (j.work + n))
  else if how = 4 then ⟨j.task, j.arrive, j.release, j.work, j.cuts ++ [n]⟩
  else setJ (setJ j 1 (wrap64 (j.arrive + n))) 2 (wrap64 (j.release + n))
def turnL (jobs : List Jb) (at_ how n : Int) : List Jb :=
  if jobs.length = 0 then jobs
  else jobs.set (at_ % (jobs.length : Int)).toNat (turnJ (jobs.getD (at_ % (jobs.length : Int)).toNat noJb) (how % 6) n)
theorem turnL_length (jobs : List Jb) (at_ how n : Int) : (turnL jobs at_ how n).length = jobs.length := by
  unfold turnL
  split
  · rfl
  · rw [List.length_set]
theorem jb_cuts {w : World} {base g n cap i : Nat} {ok okp : Nat → Prop} {xs : List Jb} {r : Jb} {A : Option Addr} {c : Nat} {cs : List Int} (h : Kd.N kJb 39 w base ok (.slice (some ⟨g, 0, none⟩) n cap) xs) (hr : xs[i]? = some r)
    (hF : Kd.F (Kd.int .i64) w okp A cs.length cs) (hc : cs.length ≤ c) (hokp : ∀ k, okp k → ok k ∧ k ≠ g) :
    Kd.N kJb 39 (w.setCell ⟨g, i * 5 + 4, none⟩ (.slice A cs.length c)) base ok (.slice (some ⟨g, 0, none⟩) n cap) (xs.set i ⟨r.task, r.arrive, r.release, r.work, cs⟩) := by
  have hi := lt_of_get hr
  obtain ⟨hn, _, _⟩ := Kd.N_reads' h
  obtain ⟨ce, hcl, hM, hcc, hfr⟩ := Kd.N_elem h noJb (i : Int) (by omega) (by omega)
  rw [getD_of hr] at hM
  obtain ⟨A', c4, rfl, hl, hC⟩ := kJb_open (Kd.FK_now hM)
  have hx : Kd.FK kJb w okp ⟨r.task, r.arrive, r.release, r.work, cs⟩ [.int .i64 r.task, .int .i64 r.arrive, .int .i64 r.release, .int .i64 r.work, .slice A cs.length c] :=
    Foot.imp hF (fun W' hk => kJb_mk W' ⟨r.task, r.arrive, r.release, r.work, cs⟩ A c hc hk)
  exact (Kd.N_seg h (i : Int) (by omega) (by omega) (seg := [.slice A cs.length c]) (j := 4) (x' := ⟨r.task, r.arrive, r.release, r.work, cs⟩) hcl hcc (show 5 ≤ 5 from by decide) hx hokp).1

set_option maxRecDepth 100000 in
set_option maxHeartbeats 8000000 in
theorem turned_any (A : Option Addr) (c : Nat) (jobs : List Jb) (at_ how n : Int) (w : World) (h : kJb.C w A jobs.length jobs) (hc : jobs.length ≤ c) (hl : jobs.length ≤ 4096) (hlc : ∀ j ∈ jobs, j.cuts.length ≤ 17592186044000) :
    Calls Try.prog 18 #[.slice A jobs.length c, .int .i64 at_, .int .i64 how, .int .i64 n] w fun e w' => ∃ A' c', e = .returned (.slice A' (turnL jobs at_ how n).length c') ∧ (turnL jobs at_ how n).length ≤ c' ∧ kJb.C w' A' (turnL jobs at_ how n).length (turnL jobs at_ how n) ∧ Below w.heap.size w w' := by
  have H := Lib.hid h
  have HF := Lib.hid (Kd.C_F heapJb h)
  have HLC := Lib.hid hlc
  clear h hlc
  go_enter Try.func18, Try.ntmps18
  by_cases hz : jobs.length = 0
  · have hz1 : ((jobs.length : Int) == 0) = true := by simp [hz]
    have htl : turnL jobs at_ how n = jobs := by unfold turnL; rw [if_pos hz]
    have HTL := Lib.hid htl
    clear htl hz
    go_wp2_with (first
      | ((with_reducible refine gate_dst (N := 11) rfl ?_)
         refine Kd.N_lit kJb (w0 := w) w.heap.size 39 rfl (N' := 11) rfl (xs := ([] : List Jb)) (inner := []) (ok := fun _ => True) (okp := fun _ => False) (by first | (go_simp; done) | (go_simp; rfl)) ⟨rfl, fun j y hy => by cases hy⟩ (fun _ hk => hk.elim) trivial (Below.refl _ _) (Nat.le_refl _) (by simp) ?_
         intro v33 w33 hn33 hb33 hg33 hat33
         have HN33 := Lib.hid hn33
         have HB33 := Lib.hid hb33
         clear hn33 hb33 hg33 hat33)
      | ((with_reducible refine gate_builtin (b := .append) (xs := #[.tmp 11, .tmp 12]) rfl ?_)
         at_builtin
         refine Kd.N_append_rows kJb (w0 := w) w.heap.size rfl (.tmp 11) (.tmp 12) 29 39 (.agg #[.int .i64 0, .int .i64 0, .int .i64 0, .int .i64 0, .slice none 0 0]) 56 rfl Try.underlying29 info39 rfl (by decide) (by omega) _ ([] : List Jb) jobs A jobs.length c (fun _ => True) (fun q => q < w.heap.size) rfl rfl HN33.out (Kd.F_below HF.out HB33.out) ?okp (fun _ _ => trivial) HB33.out HB33.out.size (by simp; omega) ?_
         case okp =>
           intro q hq
           refine ⟨trivial, fun e => ?_⟩
           have h1 := Kd.N_base HN33.out q e.symm
           omega
         intro v35 w35 hn35 hb35 hg35 hat35
         obtain ⟨A9, c9, rfl, hc9, hC9⟩ := Kd.N_reads hn35
         simp only [List.nil_append] at hn35 hC9 hc9 ⊢
         have HN35 := Lib.hid hn35
         have HB35 := Lib.hid hb35
         clear hn35 hb35 hg35 hat35 hC9))
    go_ret
    rw [HTL.out]
    obtain ⟨_, _, hC⟩ := Kd.N_reads' HN35.out
    exact ⟨A9, c9, rfl, hc9, hC, HB35.out⟩
  · have hz1 : ((jobs.length : Int) == 0) = false := by rw [beq_eq_false_iff_ne]; omega
    have hk0 := Int.emod_nonneg at_ (show (jobs.length : Int) ≠ 0 by omega)
    have hk1 := Int.emod_lt_of_pos at_ (show (0 : Int) < (jobs.length : Int) by omega)
    obtain ⟨i, hi⟩ : ∃ i : Nat, at_ % (jobs.length : Int) = (i : Int) := Int.eq_ofNat_of_zero_le hk0
    rw [hi] at hk1
    have hil : i < jobs.length := by omega
    obtain ⟨r, hr⟩ : ∃ r, jobs[i]? = some r := ⟨jobs[i], by simp [hil]⟩
    have hm0 := Int.emod_nonneg how (show (6 : Int) ≠ 0 by omega)
    have hm1 := Int.emod_lt_of_pos how (show (0 : Int) < 6 by omega)
    obtain ⟨m, hm⟩ : ∃ m : Int, how % 6 = m := ⟨_, rfl⟩
    rw [hm] at hm0 hm1
    have htl : turnL jobs at_ how n = jobs.set i (turnJ r m n) := by
      unfold turnL
      rw [if_neg hz, hi, hm, getD_of hr]
      rfl
    have hlen : (turnL jobs at_ how n).length = jobs.length := by rw [htl, List.length_set]
    have HTL := Lib.hid htl
    have HLEN := Lib.hid hlen
    have HI := Lib.hid hi
    have HM := Lib.hid hm
    have HR := Lib.hid hr
    have hcl := HLC.out r (List.mem_of_getElem? hr)
    have hjl : (0 : Int) < (jobs.length : Int) := by omega
    clear htl hlen hi hm hk0 hz hr
    have hm6 : m = 0 ∨ m = 1 ∨ m = 2 ∨ m = 3 ∨ m = 4 ∨ m = 5 := by omega
    clear hm0 hm1
    rcases hm6 with rfl | rfl | rfl | rfl | rfl | rfl
    · -- way 0
      go_wp2_with (first
        | (go_at_call 16; (with_reducible refine (rest16a (g := (i : Int)) _ (by omega) (by omega) HI.out).mono ?_); rintro e w' ⟨rfl, rfl⟩)
        | (go_at_call 16; (with_reducible refine (rest16a _ (by omega) (by omega) HM.out).mono ?_); rintro e w' ⟨rfl, rfl⟩)
        | ((with_reducible refine gate_dst (N := 11) rfl ?_)
           refine Kd.N_lit kJb (w0 := w) w.heap.size 39 rfl (N' := 11) rfl (xs := ([] : List Jb)) (inner := []) (ok := fun _ => True) (okp := fun _ => False) (by first | (go_simp; done) | (go_simp; rfl)) ⟨rfl, fun j y hy => by cases hy⟩ (fun _ hk => hk.elim) trivial (Below.refl _ _) (Nat.le_refl _) (by simp) ?_
           intro v33 w33 hn33 hb33 hg33 hat33
           have HN33 := Lib.hid hn33
           have HB33 := Lib.hid hb33
           clear hn33 hb33 hg33 hat33)
        | ((with_reducible refine gate_builtin (b := .append) (xs := #[.tmp 11, .tmp 12]) rfl ?_)
           at_builtin
           refine Kd.N_append_rows kJb (w0 := w) w.heap.size rfl (.tmp 11) (.tmp 12) 29 39 (.agg #[.int .i64 0, .int .i64 0, .int .i64 0, .int .i64 0, .slice none 0 0]) 56 rfl Try.underlying29 info39 rfl (by decide) (by omega) _ ([] : List Jb) jobs A jobs.length c (fun _ => True) (fun q => q < w.heap.size) rfl rfl HN33.out (Kd.F_below HF.out HB33.out) ?okp (fun _ _ => trivial) HB33.out HB33.out.size (by simp; omega) ?_
           case okp =>
             intro q hq
             refine ⟨trivial, fun e => ?_⟩
             have h1 := Kd.N_base HN33.out q e.symm
             omega
           intro v35 w35 hn35 hb35 hg35 hat35
           obtain ⟨A9, c9, rfl, hc9, hC9⟩ := Kd.N_reads hn35
           simp only [List.nil_append] at hn35 hC9 hc9 ⊢
           obtain ⟨g, cg, eg, hgb, hgl, _⟩ := Kd.N_form hn35 (by omega)
           injection eg with eg1 eg2 eg3
           subst eg1 eg3
           obtain ⟨A6, c6, hl6, hC6, hM6, r0, r1, r2, r3, r4, rf⟩ := jb_at hn35 HR.out
           have rf0 : w35.frozen? ⟨g, i * 5, none⟩ = false := rf 0
           have rf1 := rf 1
           have rf2 := rf 2
           have rf3 := rf 3
           have rf4 := rf 4
           have HF6 := Lib.hid (show Kd.F (Kd.int .i64) w35 (fun k => True ∧ k ≠ g) A6 r.cuts.length r.cuts from Foot.imp hM6 (fun W' hk => (kJb_inv hk).2))
           have HC6 := Lib.hid hC6
           have hcw35 := hb35.size
           clear eg2 rf hM6 hC6
           have HN35 := Lib.hid hn35
           have HB35 := Lib.hid hb35
           clear hn35 hb35 hg35 hat35 hC9))
      have hn2 := jb_set HN35.out HR.out 0 (by omega) n
      have k2 : Keeps [g] w35 (w35.setCell ⟨g, i * 5, none⟩ (.int .i64 n)) := (Keeps.refl _ _).setCell _ _ _ (.inl (by simp))
      go_ret
      rw [HLEN.out, HTL.out]
      obtain ⟨_, _, hC⟩ := Kd.N_reads' hn2
      rw [List.length_set] at hC
      exact ⟨_, c9, rfl, hc9, hC, below_keeps HB35.out k2 (by simpa using hgb) HB35.out.size⟩
    · -- way 1
      go_wp2_with (first
        | (go_at_call 16; (with_reducible refine (rest16a (g := (i : Int)) _ (by omega) (by omega) HI.out).mono ?_); rintro e w' ⟨rfl, rfl⟩)
        | (go_at_call 16; (with_reducible refine (rest16a _ (by omega) (by omega) HM.out).mono ?_); rintro e w' ⟨rfl, rfl⟩)
        | ((with_reducible refine gate_dst (N := 11) rfl ?_)
           refine Kd.N_lit kJb (w0 := w) w.heap.size 39 rfl (N' := 11) rfl (xs := ([] : List Jb)) (inner := []) (ok := fun _ => True) (okp := fun _ => False) (by first | (go_simp; done) | (go_simp; rfl)) ⟨rfl, fun j y hy => by cases hy⟩ (fun _ hk => hk.elim) trivial (Below.refl _ _) (Nat.le_refl _) (by simp) ?_
           intro v33 w33 hn33 hb33 hg33 hat33
           have HN33 := Lib.hid hn33
           have HB33 := Lib.hid hb33
           clear hn33 hb33 hg33 hat33)
        | ((with_reducible refine gate_builtin (b := .append) (xs := #[.tmp 11, .tmp 12]) rfl ?_)
           at_builtin
           refine Kd.N_append_rows kJb (w0 := w) w.heap.size rfl (.tmp 11) (.tmp 12) 29 39 (.agg #[.int .i64 0, .int .i64 0, .int .i64 0, .int .i64 0, .slice none 0 0]) 56 rfl Try.underlying29 info39 rfl (by decide) (by omega) _ ([] : List Jb) jobs A jobs.length c (fun _ => True) (fun q => q < w.heap.size) rfl rfl HN33.out (Kd.F_below HF.out HB33.out) ?okp (fun _ _ => trivial) HB33.out HB33.out.size (by simp; omega) ?_
           case okp =>
             intro q hq
             refine ⟨trivial, fun e => ?_⟩
             have h1 := Kd.N_base HN33.out q e.symm
             omega
           intro v35 w35 hn35 hb35 hg35 hat35
           obtain ⟨A9, c9, rfl, hc9, hC9⟩ := Kd.N_reads hn35
           simp only [List.nil_append] at hn35 hC9 hc9 ⊢
           obtain ⟨g, cg, eg, hgb, hgl, _⟩ := Kd.N_form hn35 (by omega)
           injection eg with eg1 eg2 eg3
           subst eg1 eg3
           obtain ⟨A6, c6, hl6, hC6, hM6, r0, r1, r2, r3, r4, rf⟩ := jb_at hn35 HR.out
           have rf0 : w35.frozen? ⟨g, i * 5, none⟩ = false := rf 0
           have rf1 := rf 1
           have rf2 := rf 2
           have rf3 := rf 3
           have rf4 := rf 4
           have HF6 := Lib.hid (show Kd.F (Kd.int .i64) w35 (fun k => True ∧ k ≠ g) A6 r.cuts.length r.cuts from Foot.imp hM6 (fun W' hk => (kJb_inv hk).2))
           have HC6 := Lib.hid hC6
           have hcw35 := hb35.size
           clear eg2 rf hM6 hC6
           have HN35 := Lib.hid hn35
           have HB35 := Lib.hid hb35
           clear hn35 hb35 hg35 hat35 hC9))
      have hn2 := jb_set HN35.out HR.out 1 (by omega) (wrap64 (r.arrive + n))
      have k2 : Keeps [g] w35 (w35.setCell ⟨g, i * 5 + 1, none⟩ (.int .i64 (wrap64 (r.arrive + n)))) := (Keeps.refl _ _).setCell _ _ _ (.inl (by simp))
      go_ret
      rw [HLEN.out, HTL.out]
      obtain ⟨_, _, hC⟩ := Kd.N_reads' hn2
      rw [List.length_set] at hC
      exact ⟨_, c9, rfl, hc9, hC, below_keeps HB35.out k2 (by simpa using hgb) HB35.out.size⟩
    · -- way 2
      go_wp2_with (first
        | (go_at_call 16; (with_reducible refine (rest16a (g := (i : Int)) _ (by omega) (by omega) HI.out).mono ?_); rintro e w' ⟨rfl, rfl⟩)
        | (go_at_call 16; (with_reducible refine (rest16a _ (by omega) (by omega) HM.out).mono ?_); rintro e w' ⟨rfl, rfl⟩)
        | ((with_reducible refine gate_dst (N := 11) rfl ?_)
           refine Kd.N_lit kJb (w0 := w) w.heap.size 39 rfl (N' := 11) rfl (xs := ([] : List Jb)) (inner := []) (ok := fun _ => True) (okp := fun _ => False) (by first | (go_simp; done) | (go_simp; rfl)) ⟨rfl, fun j y hy => by cases hy⟩ (fun _ hk => hk.elim) trivial (Below.refl _ _) (Nat.le_refl _) (by simp) ?_
           intro v33 w33 hn33 hb33 hg33 hat33
           have HN33 := Lib.hid hn33
           have HB33 := Lib.hid hb33
           clear hn33 hb33 hg33 hat33)
        | ((with_reducible refine gate_builtin (b := .append) (xs := #[.tmp 11, .tmp 12]) rfl ?_)
           at_builtin
           refine Kd.N_append_rows kJb (w0 := w) w.heap.size rfl (.tmp 11) (.tmp 12) 29 39 (.agg #[.int .i64 0, .int .i64 0, .int .i64 0, .int .i64 0, .slice none 0 0]) 56 rfl Try.underlying29 info39 rfl (by decide) (by omega) _ ([] : List Jb) jobs A jobs.length c (fun _ => True) (fun q => q < w.heap.size) rfl rfl HN33.out (Kd.F_below HF.out HB33.out) ?okp (fun _ _ => trivial) HB33.out HB33.out.size (by simp; omega) ?_
           case okp =>
             intro q hq
             refine ⟨trivial, fun e => ?_⟩
             have h1 := Kd.N_base HN33.out q e.symm
             omega
           intro v35 w35 hn35 hb35 hg35 hat35
           obtain ⟨A9, c9, rfl, hc9, hC9⟩ := Kd.N_reads hn35
           simp only [List.nil_append] at hn35 hC9 hc9 ⊢
           obtain ⟨g, cg, eg, hgb, hgl, _⟩ := Kd.N_form hn35 (by omega)
           injection eg with eg1 eg2 eg3
           subst eg1 eg3
           obtain ⟨A6, c6, hl6, hC6, hM6, r0, r1, r2, r3, r4, rf⟩ := jb_at hn35 HR.out
           have rf0 : w35.frozen? ⟨g, i * 5, none⟩ = false := rf 0
           have rf1 := rf 1
           have rf2 := rf 2
           have rf3 := rf 3
           have rf4 := rf 4
           have HF6 := Lib.hid (show Kd.F (Kd.int .i64) w35 (fun k => True ∧ k ≠ g) A6 r.cuts.length r.cuts from Foot.imp hM6 (fun W' hk => (kJb_inv hk).2))
           have HC6 := Lib.hid hC6
           have hcw35 := hb35.size
           clear eg2 rf hM6 hC6
           have HN35 := Lib.hid hn35
           have HB35 := Lib.hid hb35
           clear hn35 hb35 hg35 hat35 hC9))
      have hn2 := jb_set HN35.out HR.out 2 (by omega) (wrap64 (r.release + n))
      have k2 : Keeps [g] w35 (w35.setCell ⟨g, i * 5 + 2, none⟩ (.int .i64 (wrap64 (r.release + n)))) := (Keeps.refl _ _).setCell _ _ _ (.inl (by simp))
      go_ret
      rw [HLEN.out, HTL.out]
      obtain ⟨_, _, hC⟩ := Kd.N_reads' hn2
      rw [List.length_set] at hC
      exact ⟨_, c9, rfl, hc9, hC, below_keeps HB35.out k2 (by simpa using hgb) HB35.out.size⟩
    · -- way 3
      go_wp2_with (first
        | (go_at_call 16; (with_reducible refine (rest16a (g := (i : Int)) _ (by omega) (by omega) HI.out).mono ?_); rintro e w' ⟨rfl, rfl⟩)
        | (go_at_call 16; (with_reducible refine (rest16a _ (by omega) (by omega) HM.out).mono ?_); rintro e w' ⟨rfl, rfl⟩)
        | ((with_reducible refine gate_dst (N := 11) rfl ?_)
           refine Kd.N_lit kJb (w0 := w) w.heap.size 39 rfl (N' := 11) rfl (xs := ([] : List Jb)) (inner := []) (ok := fun _ => True) (okp := fun _ => False) (by first | (go_simp; done) | (go_simp; rfl)) ⟨rfl, fun j y hy => by cases hy⟩ (fun _ hk => hk.elim) trivial (Below.refl _ _) (Nat.le_refl _) (by simp) ?_
           intro v33 w33 hn33 hb33 hg33 hat33
           have HN33 := Lib.hid hn33
           have HB33 := Lib.hid hb33
           clear hn33 hb33 hg33 hat33)
        | ((with_reducible refine gate_builtin (b := .append) (xs := #[.tmp 11, .tmp 12]) rfl ?_)
           at_builtin
           refine Kd.N_append_rows kJb (w0 := w) w.heap.size rfl (.tmp 11) (.tmp 12) 29 39 (.agg #[.int .i64 0, .int .i64 0, .int .i64 0, .int .i64 0, .slice none 0 0]) 56 rfl Try.underlying29 info39 rfl (by decide) (by omega) _ ([] : List Jb) jobs A jobs.length c (fun _ => True) (fun q => q < w.heap.size) rfl rfl HN33.out (Kd.F_below HF.out HB33.out) ?okp (fun _ _ => trivial) HB33.out HB33.out.size (by simp; omega) ?_
           case okp =>
             intro q hq
             refine ⟨trivial, fun e => ?_⟩
             have h1 := Kd.N_base HN33.out q e.symm
             omega
           intro v35 w35 hn35 hb35 hg35 hat35
           obtain ⟨A9, c9, rfl, hc9, hC9⟩ := Kd.N_reads hn35
           simp only [List.nil_append] at hn35 hC9 hc9 ⊢
           obtain ⟨g, cg, eg, hgb, hgl, _⟩ := Kd.N_form hn35 (by omega)
           injection eg with eg1 eg2 eg3
           subst eg1 eg3
           obtain ⟨A6, c6, hl6, hC6, hM6, r0, r1, r2, r3, r4, rf⟩ := jb_at hn35 HR.out
           have rf0 : w35.frozen? ⟨g, i * 5, none⟩ = false := rf 0
           have rf1 := rf 1
           have rf2 := rf 2
           have rf3 := rf 3
           have rf4 := rf 4
           have HF6 := Lib.hid (show Kd.F (Kd.int .i64) w35 (fun k => True ∧ k ≠ g) A6 r.cuts.length r.cuts from Foot.imp hM6 (fun W' hk => (kJb_inv hk).2))
           have HC6 := Lib.hid hC6
           have hcw35 := hb35.size
           clear eg2 rf hM6 hC6
           have HN35 := Lib.hid hn35
           have HB35 := Lib.hid hb35
           clear hn35 hb35 hg35 hat35 hC9))
      have hn2 := jb_set HN35.out HR.out 3 (by omega) (wrap64 (r.work + n))
      have k2 : Keeps [g] w35 (w35.setCell ⟨g, i * 5 + 3, none⟩ (.int .i64 (wrap64 (r.work + n)))) := (Keeps.refl _ _).setCell _ _ _ (.inl (by simp))
      go_ret
      rw [HLEN.out, HTL.out]
      obtain ⟨_, _, hC⟩ := Kd.N_reads' hn2
      rw [List.length_set] at hC
      exact ⟨_, c9, rfl, hc9, hC, below_keeps HB35.out k2 (by simpa using hgb) HB35.out.size⟩
    · -- way 4
      go_wp2_with (first
        | (go_at_call 16; (with_reducible refine (rest16a (g := (i : Int)) _ (by omega) (by omega) HI.out).mono ?_); rintro e w' ⟨rfl, rfl⟩)
        | (go_at_call 16; (with_reducible refine (rest16a _ (by omega) (by omega) HM.out).mono ?_); rintro e w' ⟨rfl, rfl⟩)
        | ((with_reducible refine gate_dst (N := 11) rfl ?_)
           refine Kd.N_lit kJb (w0 := w) w.heap.size 39 rfl (N' := 11) rfl (xs := ([] : List Jb)) (inner := []) (ok := fun _ => True) (okp := fun _ => False) (by first | (go_simp; done) | (go_simp; rfl)) ⟨rfl, fun j y hy => by cases hy⟩ (fun _ hk => hk.elim) trivial (Below.refl _ _) (Nat.le_refl _) (by simp) ?_
           intro v33 w33 hn33 hb33 hg33 hat33
           have HN33 := Lib.hid hn33
           have HB33 := Lib.hid hb33
           clear hn33 hb33 hg33 hat33)
        | ((with_reducible refine gate_builtin (b := .append) (xs := #[.tmp 11, .tmp 12]) rfl ?_)
           at_builtin
           refine Kd.N_append_rows kJb (w0 := w) w.heap.size rfl (.tmp 11) (.tmp 12) 29 39 (.agg #[.int .i64 0, .int .i64 0, .int .i64 0, .int .i64 0, .slice none 0 0]) 56 rfl Try.underlying29 info39 rfl (by decide) (by omega) _ ([] : List Jb) jobs A jobs.length c (fun _ => True) (fun q => q < w.heap.size) rfl rfl HN33.out (Kd.F_below HF.out HB33.out) ?okp (fun _ _ => trivial) HB33.out HB33.out.size (by simp; omega) ?_
           case okp =>
             intro q hq
             refine ⟨trivial, fun e => ?_⟩
             have h1 := Kd.N_base HN33.out q e.symm
             omega
           intro v35 w35 hn35 hb35 hg35 hat35
           obtain ⟨A9, c9, rfl, hc9, hC9⟩ := Kd.N_reads hn35
           simp only [List.nil_append] at hn35 hC9 hc9 ⊢
           obtain ⟨g, cg, eg, hgb, hgl, _⟩ := Kd.N_form hn35 (by omega)
           injection eg with eg1 eg2 eg3
           subst eg1 eg3
           obtain ⟨A6, c6, hl6, hC6, hM6, r0, r1, r2, r3, r4, rf⟩ := jb_at hn35 HR.out
           have rf0 : w35.frozen? ⟨g, i * 5, none⟩ = false := rf 0
           have rf1 := rf 1
           have rf2 := rf 2
           have rf3 := rf 3
           have rf4 := rf 4
           have HF6 := Lib.hid (show Kd.F (Kd.int .i64) w35 (fun k => True ∧ k ≠ g) A6 r.cuts.length r.cuts from Foot.imp hM6 (fun W' hk => (kJb_inv hk).2))
           have HC6 := Lib.hid hC6
           have hcw35 := hb35.size
           clear eg2 rf hM6 hC6
           have HN35 := Lib.hid hn35
           have HB35 := Lib.hid hb35
           clear hn35 hb35 hg35 hat35 hC9)
        | ((with_reducible refine gate_dst (N := 96) rfl ?_)
           refine Kd.N_lit (Kd.int .i64) (w0 := w) w.heap.size 2 rfl (N' := 96) rfl (xs := ([] : List Int)) (inner := []) (ok := fun q => q ≠ g) (okp := fun _ => False) (by first | (go_simp; done) | (go_simp; rfl)) ⟨rfl, fun j y hy => by cases hy⟩ (fun _ hk => hk.elim) (by omega) HB35.out HB35.out.size (by simp) ?_
           intro v96 w96 hn96 hb96 hg96 hat96
           have hbb : Below w35.heap.size w35 w96 := ⟨hg96.os, hg96.tape, hg96.output, hg96.size, fun q hq => hg96.block q hq (by simp)⟩
           have HNX := Lib.hid (Kd.N_below (Kd.N_bound HN35.out) hbb)
           have HFX := Lib.hid (Kd.F_below (Kd.F_bound HF6.out) hbb)
           have hb0 : ∀ q, v96.ownBlock = some q → w35.heap.size ≤ q := fun q hq => by
             obtain ⟨b', hb', hle⟩ := hat96
             rw [hb'] at hq
             injection hq with hq
             omega
           have HOWN := Lib.hid hb0
           have HN96 := Lib.hid hn96
           have HB96 := Lib.hid hb96
           have hs96 := hbb.size
           have hgl2 : g < w96.heap.size := by omega
           have rr4 : w96.cell? ⟨g, i * 5 + 4, none⟩ = some (.slice A6 r.cuts.length c6) := (World.cell?_of_block (hbb.block _ (by simpa using hgl))).trans r4
           clear r0 r1 r2 r3 r4 rf0 rf1 rf2 rf3 rf4 hn96 hb96 hg96 hat96 hbb hb0)
        | ((with_reducible refine gate_builtin (b := .append) (xs := #[.tmp 96, .tmp 101]) rfl ?_)
           at_builtin
           refine Kd.N_append_rows (Kd.int .i64) (w0 := w) w.heap.size rfl (.tmp 96) (.tmp 101) 37 2 (.int .i64 0) 8 rfl Try.underlying37 info2 rfl (by decide) (by omega) _ ([] : List Int) r.cuts A6 r.cuts.length c6 (fun q => q ≠ g) (fun q => (True ∧ q ≠ g) ∧ q < w35.heap.size) rfl rfl HN96.out HFX.out ?okp2 ?fr2 HB96.out HB96.out.size (by simp; omega) ?_
           case okp2 => intro q hq; exact ⟨hq.1.2, fun e => by have := HOWN.out q e.symm; omega⟩
           case fr2 => intro q hq; show q ≠ g; omega
           intro v102 w102 hn102 hb102 hg102 hat102
           simp only [List.nil_append] at hn102
           have hgrow : ∀ q, q < w35.heap.size → w102.heap[q]? = w96.heap[q]? := fun q hq => hg102.block q (by omega) (fun e => by have := HOWN.out q e.symm; omega)
           have hnx2 := Kd.N_step HNX.out (fun q hq hlt => hgrow q hq.2)
           have hs102 := hg102.size
           have hgl3 : g < w102.heap.size := by have := hg102.size; omega
           have HNY := Lib.hid hnx2
           have hown2 : ∀ q, v102.ownBlock = some q → w35.heap.size ≤ q := fun q hq => by
             rcases hat102 with he | ⟨b', hb', hle⟩
             · rw [he] at hq; exact HOWN.out q hq
             · rw [hb'] at hq
               injection hq with hq
               omega
           have HOWN2 := Lib.hid hown2
           clear hown2
           have HN102 := Lib.hid hn102
           have HB102 := Lib.hid hb102
           clear rr4 hn102 hb102 hg102 hat102 hgrow hnx2)
        | ((with_reducible refine gate_builtin (b := .append) (xs := #[.tmp 102, .tmp 104]) rfl ?_)
           at_builtin
           refine Kd.N_append (Kd.int .i64) (w0 := w) w.heap.size rfl (.tmp 102) (.tmp 104) 37 2 (.int .i64 0) 8 rfl Try.underlying37 info2 rfl (by decide) (by omega) _ r.cuts n [.int .i64 n] (fun q => q ≠ g) (fun _ => False) rfl rfl (fun _ _ => rfl) (fun _ hk => hk.elim) ?fr3 HN102.out HB102.out HB102.out.size (by omega) ?_
           case fr3 => intro q hq; show q ≠ g; omega
           intro v105 w105 hn105 hb105 hg105 hat105
           obtain ⟨A7, c7, rfl⟩ := Kd.N_slice hn105
           have hgrow2 : ∀ q, q < w35.heap.size → some q ≠ v102.ownBlock → w105.heap[q]? = w102.heap[q]? := fun q hq hne => hg105.block q (by omega) hne
           have hne102 : ∀ q, q < w35.heap.size → some q ≠ v102.ownBlock := fun q hq e => by
             have := HOWN2.out q e.symm
             omega
           have hny := Kd.N_step HNY.out (fun q hq hlt => hgrow2 q hq.2 (hne102 q hq.2))
           obtain ⟨A8, c8, _, _, _, r0, r1, r2, r3, r4, rf⟩ := jb_at hny HR.out
           have rf4 := rf 4
           have HNZ := Lib.hid hny
           have HF7 := Lib.hid (Kd.N_F hn105)
           have HC7 := Lib.hid (Kd.N_reads' hn105).2.1
           have HB105 := Lib.hid hb105
           have hgl5 : g < w105.heap.size := by have := hg105.size; omega
           clear hn105 hb105 hg105 hat105 hgrow2 hne102 hny rf r0 r1 r2 r3))
      have hn2 := jb_cuts (Kd.N_mono HNZ.out (ok' := fun _ => True) (fun _ _ => trivial)) HR.out HF7.out HC7.out (fun q hq => ⟨trivial, hq⟩)
      have k2 : Keeps [g] w105 (w105.setCell ⟨g, i * 5 + 4, none⟩ (.slice A7 (r.cuts ++ [n]).length c7)) := (Keeps.refl _ _).setCell _ _ _ (.inl (by simp))
      go_ret
      rw [HLEN.out, HTL.out]
      obtain ⟨_, _, hC⟩ := Kd.N_reads' hn2
      rw [List.length_set] at hC
      simp only [List.length_append, List.length_cons, List.length_nil, Nat.zero_add] at hC k2
      exact ⟨_, c9, rfl, hc9, hC, below_keeps HB105.out k2 (by simpa using hgb) HB105.out.size⟩
    · -- way 5
      go_wp2_with (first
        | (go_at_call 16; (with_reducible refine (rest16a (g := (i : Int)) _ (by omega) (by omega) HI.out).mono ?_); rintro e w' ⟨rfl, rfl⟩)
        | (go_at_call 16; (with_reducible refine (rest16a _ (by omega) (by omega) HM.out).mono ?_); rintro e w' ⟨rfl, rfl⟩)
        | ((with_reducible refine gate_dst (N := 11) rfl ?_)
           refine Kd.N_lit kJb (w0 := w) w.heap.size 39 rfl (N' := 11) rfl (xs := ([] : List Jb)) (inner := []) (ok := fun _ => True) (okp := fun _ => False) (by first | (go_simp; done) | (go_simp; rfl)) ⟨rfl, fun j y hy => by cases hy⟩ (fun _ hk => hk.elim) trivial (Below.refl _ _) (Nat.le_refl _) (by simp) ?_
           intro v33 w33 hn33 hb33 hg33 hat33
           have HN33 := Lib.hid hn33
           have HB33 := Lib.hid hb33
           clear hn33 hb33 hg33 hat33)
        | ((with_reducible refine gate_builtin (b := .append) (xs := #[.tmp 11, .tmp 12]) rfl ?_)
           at_builtin
           refine Kd.N_append_rows kJb (w0 := w) w.heap.size rfl (.tmp 11) (.tmp 12) 29 39 (.agg #[.int .i64 0, .int .i64 0, .int .i64 0, .int .i64 0, .slice none 0 0]) 56 rfl Try.underlying29 info39 rfl (by decide) (by omega) _ ([] : List Jb) jobs A jobs.length c (fun _ => True) (fun q => q < w.heap.size) rfl rfl HN33.out (Kd.F_below HF.out HB33.out) ?okp (fun _ _ => trivial) HB33.out HB33.out.size (by simp; omega) ?_
           case okp =>
             intro q hq
             refine ⟨trivial, fun e => ?_⟩
             have h1 := Kd.N_base HN33.out q e.symm
             omega
           intro v35 w35 hn35 hb35 hg35 hat35
           obtain ⟨A9, c9, rfl, hc9, hC9⟩ := Kd.N_reads hn35
           simp only [List.nil_append] at hn35 hC9 hc9 ⊢
           obtain ⟨g, cg, eg, hgb, hgl, _⟩ := Kd.N_form hn35 (by omega)
           injection eg with eg1 eg2 eg3
           subst eg1 eg3
           obtain ⟨A6, c6, hl6, hC6, hM6, r0, r1, r2, r3, r4, rf⟩ := jb_at hn35 HR.out
           have rf0 : w35.frozen? ⟨g, i * 5, none⟩ = false := rf 0
           have rf1 := rf 1
           have rf2 := rf 2
           have rf3 := rf 3
           have rf4 := rf 4
           have HF6 := Lib.hid (show Kd.F (Kd.int .i64) w35 (fun k => True ∧ k ≠ g) A6 r.cuts.length r.cuts from Foot.imp hM6 (fun W' hk => (kJb_inv hk).2))
           have HC6 := Lib.hid hC6
           have hcw35 := hb35.size
           clear eg2 rf hM6 hC6
           have HN35 := Lib.hid hn35
           have HB35 := Lib.hid hb35
           clear hn35 hb35 hg35 hat35 hC9))
      have hn1 := jb_set HN35.out HR.out 1 (by omega) (wrap64 (r.arrive + n))
      have hg1 : (jobs.set i (setJ r 1 (wrap64 (r.arrive + n))))[i]? = some (setJ r 1 (wrap64 (r.arrive + n))) := by rw [List.getElem?_set_self hil]
      have hn2 := jb_set hn1 hg1 2 (by omega) (wrap64 (r.release + n))
      rw [List.set_set] at hn2
      have k2 : Keeps [g] w35 ((w35.setCell ⟨g, i * 5 + 1, none⟩ (.int .i64 (wrap64 (r.arrive + n)))).setCell ⟨g, i * 5 + 2, none⟩ (.int .i64 (wrap64 (r.release + n)))) := ((Keeps.refl _ _).setCell _ _ _ (.inl (by simp))).setCell _ _ _ (.inl (by simp))
      go_ret
      rw [HLEN.out, HTL.out]
      obtain ⟨_, _, hC⟩ := Kd.N_reads' hn2
      rw [List.length_set] at hC
      exact ⟨_, c9, rfl, hc9, hC, below_keeps HB35.out k2 (by simpa using hgb) HB35.out.size⟩
end Go.Proofs.Ytcdmgalhboijcaa.Sc
