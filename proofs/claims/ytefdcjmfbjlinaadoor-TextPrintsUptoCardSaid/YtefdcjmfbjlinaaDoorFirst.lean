/- task's Check tells whether a task may be. -/
import Derived.Test.YtefdcjmfbjlinaaDoorLexer
import Derived.Test.YtefdcjmfbjlinaaDoorBase
import Derived.Laws.EntriesVeiled
namespace Go.Proofs.YtefdcjmfbjlinaaDoor.Sc
open Go.RowKit Go.Shelf

/-- A task. -/
structure Tsk where
  nm : ByteArray
  c : Int
  t : Int
  d : Int
  j : Int
  q : Int
  p : Int
deriving DecidableEq
def cellsTsk (x : Tsk) : List Value := [.string x.nm, .int .i64 x.c, .int .i64 x.t, .int .i64 x.d, .int .i64 x.j, .int .i64 x.q, .int .i64 x.p]
def tskV (x : Tsk) : Value := .agg #[.string x.nm, .int .i64 x.c, .int .i64 x.t, .int .i64 x.d, .int .i64 x.j, .int .i64 x.q, .int .i64 x.p]
def inB (n : Int) : Bool := decide (0 ≤ n) && decide (n ≤ 2147483647)
def rangesB (x : Tsk) : Bool := wordL x.nm.data.toList && decide (x.nm.size ≤ 32) && decide (0 < min x.c (min x.t (min x.d x.q))) && inB x.c && inB x.t && inB x.d && inB x.q && inB x.j && decide (1 ≤ x.p) && decide (x.p ≤ 1048576)
def fitsB (x : Tsk) : Bool := decide (x.q ≤ x.c) && decide (wrap64 (x.c + x.j) ≤ x.d) && decide (x.d ≤ x.t)
def checkE (x : Tsk) : Int := if rangesB x then (if fitsB x then 0 else 12) else 11

theorem within_any (n : Int) (w : World) : Calls Tryd.prog 59 #[.int .i64 n] w fun e w' => e = .returned (.bool (inB n)) ∧ w = w' := by
  go_enter Tryd.func59, Tryd.ntmps59
  go_wp2
  all_goals
    go_ret
    exact ⟨by unfold inB; (first | (simp [*]; done) | (simp [*]; omega)), rfl⟩

theorem fits_any (b : Nat) (x : Tsk) (w : World) (hb : w.heap[b]? = some (.cells (cellsTsk x).toArray 29 (0, 0))) :
    Calls Tryd.prog 62 #[.pointer (some ⟨b, 0, none⟩)] w fun e w' => e = .returned (.bool (fitsB x)) ∧ w = w' := by
  have c1 := cell_blk hb 1
  have c2 := cell_blk hb 2
  have c3 := cell_blk hb 3
  have c4 := cell_blk hb 4
  have c5 := cell_blk hb 5
  simp only [cellsTsk] at c1 c2 c3 c4 c5
  clear hb
  go_enter Tryd.func62, Tryd.ntmps62
  go_wp2
  all_goals
    go_ret
    exact ⟨by unfold fitsB; (first | (simp [*]; done) | (simp [*]; omega)), rfl⟩

theorem min4_run (a b c d : Int) (ats : Array TypeId) (ty : TypeId) (w : World) : (Builtin.min_ ats ty #[.int .i64 a, .int .i64 b, .int .i64 c, .int .i64 d]).run Tryd.prog w = .ok (.int .i64 (min (min (min a b) c) d)) w := by
  have h2 : ∀ (k k' : IntKind) (x y : Int), Builtin.min2 (.int k x) (.int k' y) = (pure (.int k (min x y)) : Sem Value) := by
    intro k k' x y
    simp only [Builtin.min2]
    congr 2
    omega
  have h4 : Builtin.min_ ats ty #[.int .i64 a, .int .i64 b, .int .i64 c, .int .i64 d] = (pure (.int .i64 (min (min (min a b) c) d)) : Sem Value) := by
    simp [Builtin.min_, h2]
  rw [h4]
  rfl

set_option maxHeartbeats 8000000 in
theorem ranges_any (b b3 : Nat) (x : Tsk) (w : World) (hs : x.nm.size ≤ 140737488351232) (hb : w.heap[b]? = some (.cells (cellsTsk x).toArray 29 (0, 0))) (hw : w.cell? ⟨b3, 0, none⟩ = some (.func (.func 59) #[] #[])) :
    Calls Tryd.prog 60 #[.pointer (some ⟨b, 0, none⟩), .pointer (some ⟨b3, 0, none⟩)] w fun e w' => e = .returned (.bool (rangesB x)) ∧ w = w' := by
  have c0 := cell_blk hb 0
  have c1 := cell_blk hb 1
  have c2 := cell_blk hb 2
  have c3 := cell_blk hb 3
  have c4 := cell_blk hb 4
  have c5 := cell_blk hb 5
  have c6 := cell_blk hb 6
  simp only [cellsTsk] at c0 c1 c2 c3 c4 c5 c6
  have hmin := fun W => min4_run x.c x.t x.d x.q #[2, 2, 2, 2] 2 W
  clear hb
  go_enter Tryd.func60, Tryd.ntmps60
  go_wp2_with fail
  refine (word_any x.nm hs _).mono ?_
  rintro e w' ⟨rfl, rfl⟩
  generalize hW : wordL x.nm.data.toList = W
  have HW := Lib.hid hW
  clear hW
  go_wp2_with (go_at_call 59; refine (within_any _ _).mono ?_; rintro e w' ⟨rfl, rfl⟩)
  all_goals
    go_ret
    exact ⟨by unfold rangesB; rw [HW.out]; (first | (simp [*]; done) | (simp [*]; omega)), rfl⟩

end Go.Proofs.YtefdcjmfbjlinaaDoor.Sc
/- task's first and Check: whether a task may be. -/
namespace Go.Proofs.YtefdcjmfbjlinaaDoor.Sc
open Go.RowKit Go.Shelf

set_option maxHeartbeats 2000000 in
theorem first_any (b b3 : Nat) (x : Tsk) (w : World) (hs : x.nm.size ≤ 140737488351232) (hb : w.heap[b]? = some (.cells (cellsTsk x).toArray 29 (0, 0))) (hw : w.heap[b3]? = some (.cells #[.func (.func 59) #[] #[]] 106 (0, 0))) :
    Calls Tryd.prog 63 #[.agg #[.func (.func 60) #[] #[.pointer (some ⟨b, 0, none⟩), .pointer (some ⟨b3, 0, none⟩)], .int .i64 11, .func (.func 62) #[] #[.pointer (some ⟨b, 0, none⟩)], .int .i64 12]] w fun e w' => e = .returned (.int .i64 (checkE x)) ∧ Keeps [] w w' := by
  have ix0 : ∀ W, (Instr.index 110 (.agg #[.func (.func 60) #[] #[.pointer (some ⟨b, 0, none⟩), .pointer (some ⟨b3, 0, none⟩)], .int .i64 11, .func (.func 62) #[] #[.pointer (some ⟨b, 0, none⟩)], .int .i64 12]) (.int .i64 0)).run Tryd.prog W = .ok (.agg #[.func (.func 60) #[] #[.pointer (some ⟨b, 0, none⟩), .pointer (some ⟨b3, 0, none⟩)], .int .i64 11]) W := fun _ => by kernel_rfl
  have ix1 : ∀ W, (Instr.index 110 (.agg #[.func (.func 60) #[] #[.pointer (some ⟨b, 0, none⟩), .pointer (some ⟨b3, 0, none⟩)], .int .i64 11, .func (.func 62) #[] #[.pointer (some ⟨b, 0, none⟩)], .int .i64 12]) (.int .i64 1)).run Tryd.prog W = .ok (.agg #[.func (.func 62) #[] #[.pointer (some ⟨b, 0, none⟩)], .int .i64 12]) W := fun _ => by kernel_rfl
  have HB := Lib.hid hb
  have HW := Lib.hid hw
  clear hb hw
  generalize hE : checkE x = E
  have HE := Lib.hid hE
  clear hE
  go_enter Tryd.func63, Tryd.ntmps63
  go_wp2_with fail
  go_step3
  go_wp2_with fail
  go_step3
  go_wp2_with fail
  obtain ⟨n, hn⟩ : ∃ n, n = w.heap.size := ⟨_, rfl⟩
  have hbx := blk_new w (.cells #[.func (.func 60) #[] #[.pointer (some ⟨b, 0, none⟩), .pointer (some ⟨b3, 0, none⟩)], .int .i64 11, .func (.func 62) #[] #[.pointer (some ⟨b, 0, none⟩)], .int .i64 12] 110)
  have K1 : Keeps [] w (w.alloc (.cells #[.func (.func 60) #[] #[.pointer (some ⟨b, 0, none⟩), .pointer (some ⟨b3, 0, none⟩)], .int .i64 11, .func (.func 62) #[] #[.pointer (some ⟨b, 0, none⟩)], .int .i64 12] 110)) := (Keeps.refl _ _).alloc _
  rw [← hn] at hbx ⊢
  generalize (w.alloc (.cells #[.func (.func 60) #[] #[.pointer (some ⟨b, 0, none⟩), .pointer (some ⟨b3, 0, none⟩)], .int .i64 11, .func (.func 62) #[] #[.pointer (some ⟨b, 0, none⟩)], .int .i64 12] 110)) = w1 at hbx K1 ⊢
  have q0 := cell_blk hbx 0
  have q1 := cell_blk hbx 1
  have q2 := cell_blk hbx 2
  have q3 := cell_blk hbx 3
  clear hbx
  have HB1 := Lib.hid (K1.blk HB.out (by simp))
  have HW1 := Lib.hid (K1.blk HW.out (by simp))
  clear HB HW
  go_wp2_with fail
  refine wp_loop_rounds 3 ?_
  rw [rounds_succ]
  go_wp2_with fail
  have K2 : Keeps [] w1 (w1.alloc (.cells #[.func (.func 60) #[] #[.pointer (some ⟨b, 0, none⟩), .pointer (some ⟨b3, 0, none⟩)], .int .i64 11] 109)) := (Keeps.refl _ _).alloc _
  have hr := blk_new w1 (.cells #[.func (.func 60) #[] #[.pointer (some ⟨b, 0, none⟩), .pointer (some ⟨b3, 0, none⟩)], .int .i64 11] 109)
  have HB2 := Lib.hid (K2.blk HB1.out (by simp))
  have HW2 := Lib.hid (K2.blk HW1.out (by simp))
  clear HB1 HW1
  have K12 := K1.trans K2
  clear q0 q1 q2 q3 K1 K2
  have r1 := cell_blk hr 1
  generalize (w1.alloc (.cells #[.func (.func 60) #[] #[.pointer (some ⟨b, 0, none⟩), .pointer (some ⟨b3, 0, none⟩)], .int .i64 11] 109)) = w2 at HB2 HW2 K12 hr r1 ⊢
  refine (ranges_any b b3 x _ hs HB2.out (cell_blk HW2.out 0)).mono ?_
  rintro e w' ⟨rfl, rfl⟩
  clear hr
  cases h1 : rangesB x
  · go_wp2
    try simp only [Exit.noGoto]
    go_ret
    exact ⟨by rw [← HE.out]; simp [checkE, h1], K12⟩
  · go_wp2_with fail
    rw [rounds_succ]
    go_wp2_with fail
    have K3 : Keeps [] w2 (w2.alloc (.cells #[.func (.func 62) #[] #[.pointer (some ⟨b, 0, none⟩)], .int .i64 12] 109)) := (Keeps.refl _ _).alloc _
    have hr := blk_new w2 (.cells #[.func (.func 62) #[] #[.pointer (some ⟨b, 0, none⟩)], .int .i64 12] 109)
    have HB3 := Lib.hid (K3.blk HB2.out (by simp))
    clear HB2 HW2 r1
    have K13 := K12.trans K3
    clear K12 K3
    have r1 := cell_blk hr 1
    generalize (w2.alloc (.cells #[.func (.func 62) #[] #[.pointer (some ⟨b, 0, none⟩)], .int .i64 12] 109)) = w3 at HB3 K13 hr r1 ⊢
    clear hr
    refine (fits_any b x _ HB3.out).mono ?_
    rintro e w' ⟨rfl, rfl⟩
    cases h2 : fitsB x
    · go_wp2
      try simp only [Exit.noGoto]
      go_ret
      exact ⟨by rw [← HE.out]; simp [checkE, h1, h2], K13⟩
    · go_wp2_with fail
      rw [rounds_succ]
      go_wp2
      try simp only [Exit.noGoto]
      go_ret
      exact ⟨by rw [← HE.out]; simp [checkE, h1, h2], K13⟩

theorem blk_new1 (w : World) (x y : Obj) : ((w.alloc x).alloc y).heap[w.heap.size + 1]? = some y := by
  have h := blk_new (w.alloc x) y
  rwa [show (w.alloc x).heap.size = w.heap.size + 1 from by simp] at h

theorem check_any (x : Tsk) (w : World) (hs : x.nm.size ≤ 140737488351232) :
    Calls Tryd.prog 43 #[tskV x] w fun e w' => e = .returned (.int .i64 (checkE x)) ∧ Keeps [] w w' := by
  unfold tskV
  go_enter Tryd.func43, Tryd.ntmps43
  go_wp2_with fail
  refine (first_any w.heap.size (w.heap.size + 1) x _ hs (blk_alloc (blk_new _ _) _) (blk_new1 w _ _)).mono ?_
  rintro e w' ⟨rfl, K⟩
  go_wp2
  go_ret
  exact ⟨rfl, (((Keeps.refl _ _).alloc _).alloc _).trans K⟩
end Go.Proofs.YtefdcjmfbjlinaaDoor.Sc
