/- task's Check tells whether a task may be. -/
import Derived.Test.YtcdmgalhboijcaaWord
import Derived.Test.YtcdmgalhboijcaaBase
namespace Go.Proofs.Ytcdmgalhboijcaa.Sc
open Go.RowKit Go.Shelf

/-- A task. -/
structure Tsk where
  nm : ByteArray
  c : Int
  t : Int
  d : Int
  j : Int
  q : Int
  p : Int
deriving DecidableEq
def cellsTsk (x : Tsk) : List Value := [.string x.nm, .int .i64 x.c, .int .i64 x.t, .int .i64 x.d, .int .i64 x.j, .int .i64 x.q, .int .i64 x.p]
def tskV (x : Tsk) : Value := .agg #[.string x.nm, .int .i64 x.c, .int .i64 x.t, .int .i64 x.d, .int .i64 x.j, .int .i64 x.q, .int .i64 x.p]
def inB (n : Int) : Bool := decide (0 ≤ n) && decide (n ≤ 2147483647)
def rangesB (x : Tsk) : Bool := wordL x.nm.data.toList && decide (x.nm.size ≤ 32) && decide (0 < min x.c (min x.t (min x.d x.q))) && inB x.c && inB x.t && inB x.d && inB x.q && inB x.j && decide (1 ≤ x.p) && decide (x.p ≤ 1048576)
def fitsB (x : Tsk) : Bool := decide (x.q ≤ x.c) && decide (wrap64 (x.c + x.j) ≤ x.d) && decide (x.d ≤ x.t)
def checkE (x : Tsk) : Int := if rangesB x then (if fitsB x then 0 else 12) else 11

theorem within_any (n : Int) (w : World) : Calls Try.prog 44 #[.int .i64 n] w fun e w' => e = .returned (.bool (inB n)) ∧ w = w' := by
  go_enter Try.func44, Try.ntmps44
  go_wp2
  all_goals
    go_ret
    exact ⟨by unfold inB; (first | (simp [*]; done) | (simp [*]; omega)), rfl⟩

theorem fits_any (b : Nat) (x : Tsk) (w : World) (hb : w.heap[b]? = some (.cells (cellsTsk x).toArray 46 (0, 0))) :
    Calls Try.prog 47 #[.pointer (some ⟨b, 0, none⟩)] w fun e w' => e = .returned (.bool (fitsB x)) ∧ w = w' := by
  have c1 := cell_blk hb 1
  have c2 := cell_blk hb 2
  have c3 := cell_blk hb 3
  have c4 := cell_blk hb 4
  have c5 := cell_blk hb 5
  simp only [cellsTsk] at c1 c2 c3 c4 c5
  clear hb
  go_enter Try.func47, Try.ntmps47
  go_wp2
  all_goals
    go_ret
    exact ⟨by unfold fitsB; (first | (simp [*]; done) | (simp [*]; omega)), rfl⟩

theorem min4_run (a b c d : Int) (ats : Array TypeId) (ty : TypeId) (w : World) : (Builtin.min_ ats ty #[.int .i64 a, .int .i64 b, .int .i64 c, .int .i64 d]).run Try.prog w = .ok (.int .i64 (min (min (min a b) c) d)) w := by
  have h2 : ∀ (k k' : IntKind) (x y : Int), Builtin.min2 (.int k x) (.int k' y) = (pure (.int k (min x y)) : Sem Value) := by
    intro k k' x y
    simp only [Builtin.min2]
    congr 2
    omega
  have h4 : Builtin.min_ ats ty #[.int .i64 a, .int .i64 b, .int .i64 c, .int .i64 d] = (pure (.int .i64 (min (min (min a b) c) d)) : Sem Value) := by
    simp [Builtin.min_, h2]
  rw [h4]
  rfl

set_option maxHeartbeats 8000000 in
theorem ranges_any (b b3 : Nat) (x : Tsk) (w : World) (hs : x.nm.size ≤ maxLen) (hb : w.heap[b]? = some (.cells (cellsTsk x).toArray 46 (0, 0))) (hw : w.cell? ⟨b3, 0, none⟩ = some (.func (.func 44) #[] #[])) :
    Calls Try.prog 45 #[.pointer (some ⟨b, 0, none⟩), .pointer (some ⟨b3, 0, none⟩)] w fun e w' => e = .returned (.bool (rangesB x)) ∧ w = w' := by
  have c0 := cell_blk hb 0
  have c1 := cell_blk hb 1
  have c2 := cell_blk hb 2
  have c3 := cell_blk hb 3
  have c4 := cell_blk hb 4
  have c5 := cell_blk hb 5
  have c6 := cell_blk hb 6
  simp only [cellsTsk] at c0 c1 c2 c3 c4 c5 c6
  have hmin := fun W => min4_run x.c x.t x.d x.q #[2, 2, 2, 2] 2 W
  clear hb
  go_enter Try.func45, Try.ntmps45
  go_wp2_with fail
  refine (word_any x.nm hs _).mono ?_
  rintro e w' ⟨rfl, rfl⟩
  generalize hW : wordL x.nm.data.toList = W
  have HW := Lib.hid hW
  clear hW
  go_wp2_with (go_at_call 44; refine (within_any _ _).mono ?_; rintro e w' ⟨rfl, rfl⟩)
  all_goals
    go_ret
    exact ⟨by unfold rangesB; rw [HW.out]; (first | (simp [*]; done) | (simp [*]; omega)), rfl⟩

end Go.Proofs.Ytcdmgalhboijcaa.Sc
