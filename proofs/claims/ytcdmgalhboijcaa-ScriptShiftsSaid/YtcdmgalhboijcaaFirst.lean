/- task's first and Check: whether a task may be. -/
import Derived.Test.YtcdmgalhboijcaaCheck
import Derived.Laws.EntriesVeiled
namespace Go.Proofs.Ytcdmgalhboijcaa.Sc
open Go.RowKit Go.Shelf

set_option maxHeartbeats 2000000 in
theorem first_any (b b3 : Nat) (x : Tsk) (w : World) (hs : x.nm.size ≤ maxLen) (hb : w.heap[b]? = some (.cells (cellsTsk x).toArray 46 (0, 0))) (hw : w.heap[b3]? = some (.cells #[.func (.func 44) #[] #[]] 78 (0, 0))) :
    Calls Try.prog 48 #[.agg #[.func (.func 45) #[] #[.pointer (some ⟨b, 0, none⟩), .pointer (some ⟨b3, 0, none⟩)], .int .i64 11, .func (.func 47) #[] #[.pointer (some ⟨b, 0, none⟩)], .int .i64 12]] w fun e w' => e = .returned (.int .i64 (checkE x)) ∧ Keeps [] w w' := by
  have ix0 : ∀ W, (Instr.index 82 (.agg #[.func (.func 45) #[] #[.pointer (some ⟨b, 0, none⟩), .pointer (some ⟨b3, 0, none⟩)], .int .i64 11, .func (.func 47) #[] #[.pointer (some ⟨b, 0, none⟩)], .int .i64 12]) (.int .i64 0)).run Try.prog W = .ok (.agg #[.func (.func 45) #[] #[.pointer (some ⟨b, 0, none⟩), .pointer (some ⟨b3, 0, none⟩)], .int .i64 11]) W := fun _ => by kernel_rfl
  have ix1 : ∀ W, (Instr.index 82 (.agg #[.func (.func 45) #[] #[.pointer (some ⟨b, 0, none⟩), .pointer (some ⟨b3, 0, none⟩)], .int .i64 11, .func (.func 47) #[] #[.pointer (some ⟨b, 0, none⟩)], .int .i64 12]) (.int .i64 1)).run Try.prog W = .ok (.agg #[.func (.func 47) #[] #[.pointer (some ⟨b, 0, none⟩)], .int .i64 12]) W := fun _ => by kernel_rfl
  have HB := Lib.hid hb
  have HW := Lib.hid hw
  clear hb hw
  generalize hE : checkE x = E
  have HE := Lib.hid hE
  clear hE
  go_enter Try.func48, Try.ntmps48
  go_wp2_with fail
  go_step3
  go_wp2_with fail
  go_step3
  go_wp2_with fail
  obtain ⟨n, hn⟩ : ∃ n, n = w.heap.size := ⟨_, rfl⟩
  have hbx := blk_new w (.cells #[.func (.func 45) #[] #[.pointer (some ⟨b, 0, none⟩), .pointer (some ⟨b3, 0, none⟩)], .int .i64 11, .func (.func 47) #[] #[.pointer (some ⟨b, 0, none⟩)], .int .i64 12] 82)
  have K1 : Keeps [] w (w.alloc (.cells #[.func (.func 45) #[] #[.pointer (some ⟨b, 0, none⟩), .pointer (some ⟨b3, 0, none⟩)], .int .i64 11, .func (.func 47) #[] #[.pointer (some ⟨b, 0, none⟩)], .int .i64 12] 82)) := (Keeps.refl _ _).alloc _
  rw [← hn] at hbx ⊢
  generalize (w.alloc (.cells #[.func (.func 45) #[] #[.pointer (some ⟨b, 0, none⟩), .pointer (some ⟨b3, 0, none⟩)], .int .i64 11, .func (.func 47) #[] #[.pointer (some ⟨b, 0, none⟩)], .int .i64 12] 82)) = w1 at hbx K1 ⊢
  have q0 := cell_blk hbx 0
  have q1 := cell_blk hbx 1
  have q2 := cell_blk hbx 2
  have q3 := cell_blk hbx 3
  clear hbx
  have HB1 := Lib.hid (K1.blk HB.out (by simp))
  have HW1 := Lib.hid (K1.blk HW.out (by simp))
  clear HB HW
  go_wp2_with fail
  refine wp_loop_rounds 3 ?_
  rw [rounds_succ]
  go_wp2_with fail
  have K2 : Keeps [] w1 (w1.alloc (.cells #[.func (.func 45) #[] #[.pointer (some ⟨b, 0, none⟩), .pointer (some ⟨b3, 0, none⟩)], .int .i64 11] 81)) := (Keeps.refl _ _).alloc _
  have hr := blk_new w1 (.cells #[.func (.func 45) #[] #[.pointer (some ⟨b, 0, none⟩), .pointer (some ⟨b3, 0, none⟩)], .int .i64 11] 81)
  have HB2 := Lib.hid (K2.blk HB1.out (by simp))
  have HW2 := Lib.hid (K2.blk HW1.out (by simp))
  clear HB1 HW1
  have K12 := K1.trans K2
  clear q0 q1 q2 q3 K1 K2
  have r1 := cell_blk hr 1
  generalize (w1.alloc (.cells #[.func (.func 45) #[] #[.pointer (some ⟨b, 0, none⟩), .pointer (some ⟨b3, 0, none⟩)], .int .i64 11] 81)) = w2 at HB2 HW2 K12 hr r1 ⊢
  refine (ranges_any b b3 x _ hs HB2.out (cell_blk HW2.out 0)).mono ?_
  rintro e w' ⟨rfl, rfl⟩
  clear hr
  cases h1 : rangesB x
  · go_wp2
    try simp only [Exit.noGoto]
    go_ret
    exact ⟨by rw [← HE.out]; simp [checkE, h1], K12⟩
  · go_wp2_with fail
    rw [rounds_succ]
    go_wp2_with fail
    have K3 : Keeps [] w2 (w2.alloc (.cells #[.func (.func 47) #[] #[.pointer (some ⟨b, 0, none⟩)], .int .i64 12] 81)) := (Keeps.refl _ _).alloc _
    have hr := blk_new w2 (.cells #[.func (.func 47) #[] #[.pointer (some ⟨b, 0, none⟩)], .int .i64 12] 81)
    have HB3 := Lib.hid (K3.blk HB2.out (by simp))
    clear HB2 HW2 r1
    have K13 := K12.trans K3
    clear K12 K3
    have r1 := cell_blk hr 1
    generalize (w2.alloc (.cells #[.func (.func 47) #[] #[.pointer (some ⟨b, 0, none⟩)], .int .i64 12] 81)) = w3 at HB3 K13 hr r1 ⊢
    clear hr
    refine (fits_any b x _ HB3.out).mono ?_
    rintro e w' ⟨rfl, rfl⟩
    cases h2 : fitsB x
    · go_wp2
      try simp only [Exit.noGoto]
      go_ret
      exact ⟨by rw [← HE.out]; simp [checkE, h1, h2], K13⟩
    · go_wp2_with fail
      rw [rounds_succ]
      go_wp2
      try simp only [Exit.noGoto]
      go_ret
      exact ⟨by rw [← HE.out]; simp [checkE, h1, h2], K13⟩

theorem blk_new1 (w : World) (x y : Obj) : ((w.alloc x).alloc y).heap[w.heap.size + 1]? = some y := by
  have h := blk_new (w.alloc x) y
  rwa [show (w.alloc x).heap.size = w.heap.size + 1 from by simp] at h

theorem check_any (x : Tsk) (w : World) (hs : x.nm.size ≤ maxLen) :
    Calls Try.prog 41 #[tskV x] w fun e w' => e = .returned (.int .i64 (checkE x)) ∧ Keeps [] w w' := by
  unfold tskV
  go_enter Try.func41, Try.ntmps41
  go_wp2_with fail
  refine (first_any w.heap.size (w.heap.size + 1) x _ hs (blk_alloc (blk_new _ _) _) (blk_new1 w _ _)).mono ?_
  rintro e w' ⟨rfl, K⟩
  go_wp2
  go_ret
  exact ⟨rfl, (((Keeps.refl _ _).alloc _).alloc _).trans K⟩
end Go.Proofs.Ytcdmgalhboijcaa.Sc
