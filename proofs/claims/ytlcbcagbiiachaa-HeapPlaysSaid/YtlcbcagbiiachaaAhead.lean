/- less, ahead, Len and Peek of heaps of numbers, of texts, and of the document's things. -/
import Derived.Test.YtlcbcagbiiachaaProg
import Derived.Test.YtlcbcagbiiachaaBase
import Derived.Test.YtlcbcagbiiachaaPlain
import Derived.StillTactics
import Derived.StillTailTactics
import Derived.Handy
import Derived.Deep.RegionHeld3
namespace Go.Proofs.Ytlcbcagbiiachaa
open Go.RowKit

theorem cell_kept {w w' : World} {F : List Nat} (h : Keeps F w w') {a : Addr} {v : Value} (hc : w.cell? a = some v) (hn : a.block ∉ F) : w'.cell? a = some v := by
  rw [← hc]
  exact World.cell?_of_block (h.block _ (World.block_lt_of_cell? _ _ hc) hn)

/-- A struct of three cells, what is read of it. -/
theorem reads3 {w : World} {b : Nat} {x y z : Value} {T : TypeId} (h : w.heap[b]? = some (.cells #[x, y, z] T (0, 0))) :
    w.cell? ⟨b, 0, none⟩ = some x ∧ w.cell? ⟨b, 1, none⟩ = some y ∧ w.cell? ⟨b, 2, none⟩ = some z :=
  ⟨cell_blk h 0, cell_blk h 1, cell_blk h 2⟩
theorem reads2 {w : World} {b : Nat} {x y : Value} {T : TypeId} (h : w.heap[b]? = some (.cells #[x, y] T (0, 0))) :
    w.cell? ⟨b, 0, none⟩ = some x ∧ w.cell? ⟨b, 1, none⟩ = some y :=
  ⟨cell_blk h 0, cell_blk h 1⟩

theorem ret_bool_eq {a b : Bool} (h : a = b) : Ending.returned (.bool a) = .returned (.bool b) := by rw [h]

theorem lessI (x y : Int) (w : World) : Calls Try.prog 10 #[.int .i64 x, .int .i64 y] w fun e w' => e = .returned (.bool (decide (x < y))) ∧ Keeps [] w w' := by
  go_enter Try.func10, Try.ntmps10
  go_wp2
  go_ret
  exact ⟨rfl, Keeps.refl _ _⟩

set_option maxHeartbeats 1000000 in
theorem aheadI_mem (b g n cap i k : Nat) (x y : Int) (s t : Nat) (w : World) (hi : i < n) (hk : k < n) (_ : n ≤ 1000000)
    (h0 : w.cell? ⟨b, 0, none⟩ = some (.func (.func 10) #[] #[])) (h1 : w.cell? ⟨b, 1, none⟩ = some (.slice (some ⟨g, 0, none⟩) n cap))
    (a0 : w.cell? ⟨g, i * 2, none⟩ = some (.int .i64 x)) (a1 : w.cell? ⟨g, i * 2 + 1, none⟩ = some (.int .u64 s))
    (b0 : w.cell? ⟨g, k * 2, none⟩ = some (.int .i64 y)) (b1 : w.cell? ⟨g, k * 2 + 1, none⟩ = some (.int .u64 t)) :
    Calls Try.prog 43 #[.pointer (some ⟨b, 0, none⟩), .int .i64 i, .int .i64 k] w fun e w' => e = .returned (.bool (decide (x < y ∨ x = y ∧ s < t))) ∧ Keeps [] w w' := by
  have hi' : (i : Int) < (n : Int) := by omega
  have hk' : (k : Int) < (n : Int) := by omega
  have n0 := World.new_ne w _ h0
  have n1 := World.new_ne w _ h1
  have n2 := World.new_ne w _ a0
  have n3 := World.new_ne w _ a1
  have n4 := World.new_ne w _ b0
  have n5 := World.new_ne w _ b1
  have i0 : (0 : Int) ≤ (i : Int) := by omega
  have k0 : (0 : Int) ≤ (k : Int) := by omega
  go_enter Try.func43, Try.ntmps43
  go_wp2_with fail
  go_region_held3 (fun w' => w'.cell? ⟨b, 0, none⟩ = some (.func (.func 10) #[] #[]) ∧ w'.cell? ⟨b, 1, none⟩ = some (.slice (some ⟨g, 0, none⟩) n cap) ∧ w'.cell? ⟨g, i * 2, none⟩ = some (.int .i64 x) ∧ w'.cell? ⟨g, i * 2 + 1, none⟩ = some (.int .u64 s) ∧ w'.cell? ⟨g, k * 2, none⟩ = some (.int .i64 y) ∧ w'.cell? ⟨g, k * 2 + 1, none⟩ = some (.int .u64 t)) (go_keep) (fail)
  all_goals
    go_wp2_with fail
    refine name_drew ?_
    rintro w1 K1 -
  have hA := K1.blk (blk_alloc (blk_new w (.cells #[.int .i64 x, .int .u64 s] 84)) (.cells #[.int .i64 y, .int .u64 t] 84)) (by simp)
  have hB : w1.heap[w.heap.size + 1]? = some (.cells #[.int .i64 y, .int .u64 t] 84 (0, 0)) := K1.blk (by simpa using blk_new (w.alloc (.cells #[.int .i64 x, .int .u64 s] 84)) (.cells #[.int .i64 y, .int .u64 t] 84)) (by simp)
  rotate_left 1
  have hB := K1.blk (blk_alloc (blk_new w (.cells #[.int .i64 y, .int .u64 t] 84)) (.cells #[.int .i64 x, .int .u64 s] 84)) (by simp)
  have hA : w1.heap[w.heap.size + 1]? = some (.cells #[.int .i64 x, .int .u64 s] 84 (0, 0)) := K1.blk (by simpa using blk_new (w.alloc (.cells #[.int .i64 y, .int .u64 t] 84)) (.cells #[.int .i64 x, .int .u64 s] 84)) (by simp)
  all_goals
    have k1 : Keeps [] w w1 := (((Keeps.refl _ _).alloc _).alloc _).andThen K1 (by simp)
    have c0 := cell_kept k1 h0 (by simp)
    clear h0 h1 a0 a1 b0 b1 n0 n1 n2 n3 n4 n5 K1
    obtain ⟨p0, p1⟩ := reads2 hA
    obtain ⟨q0, q1⟩ := reads2 hB
    have HA := Lib.hid hA
    have HB := Lib.hid hB
    clear hA hB
    have C0 := Lib.hid c0
    go_still_tail 8, (by kernel_rfl)
    refine name_drew_list (w := w1) ?_
    rintro w2 K2 -
    clear c0 p0 p1 q0 q1
    have k2 := k1.andThen K2 (by simp)
    have hA := K2.blk HA.out (by simp)
    have hB := K2.blk HB.out (by simp)
    have c0 := cell_kept K2 C0.out (by simp)
    clear HA HB C0
    have HA := Lib.hid hA
    have HB := Lib.hid hB
    have C0 := Lib.hid c0
    clear hA hB c0
    by_cases hxy : x < y
    · go_wp2_with (go_at_call 10; refine (lessI _ _ _).mono ?_; rintro e w3 ⟨rfl, K3⟩)
      go_ret
      exact ⟨by simp [hxy], k2.andThen K3 (by simp)⟩
    · go_wp2_with fail
      refine (lessI _ _ _).mono ?_
      rintro e w3 ⟨rfl, K3⟩
      have k3 := k2.andThen K3 (by simp)
      have c0 := cell_kept K3 C0.out (by simp)
      have hA := K3.blk HA.out (by simp)
      have hB := K3.blk HB.out (by simp)
      obtain ⟨p0, p1⟩ := reads2 hA
      obtain ⟨q0, q1⟩ := reads2 hB
      clear HA HB C0
      have HA := Lib.hid hA
      have HB := Lib.hid hB
      clear hA hB
      go_wp2_with fail
      go_still_tail 8, (by kernel_rfl)
      refine name_drew_list (w := w3) ?_
      rintro w4 K4 -
      clear c0 p0 p1 q0 q1
      have hA := K4.blk HA.out (by simp)
      have hB := K4.blk HB.out (by simp)
      clear HA HB
      have HA := Lib.hid hA
      have HB := Lib.hid hB
      clear hA hB
      have k4 := k3.andThen K4 (by simp)
      by_cases hyx : y < x
      · go_wp2_with (go_at_call 10; refine (lessI _ _ _).mono ?_; rintro e w5 ⟨rfl, K5⟩)
        go_ret
        exact ⟨ret_bool_eq (by simp; omega), k4.andThen K5 (by simp)⟩
      · go_wp2_with fail
        refine (lessI _ _ _).mono ?_
        rintro e w5 ⟨rfl, K5⟩
        have k5 := k4.andThen K5 (by simp)
        have hA := K5.blk HA.out (by simp)
        have hB := K5.blk HB.out (by simp)
        obtain ⟨p0, p1⟩ := reads2 hA
        obtain ⟨q0, q1⟩ := reads2 hB
        clear HA HB hA hB
        go_wp2
        go_ret
        exact ⟨ret_bool_eq (decide_eq_decide.2 (by omega)), k5⟩

theorem lessS (x y : ByteArray) (w : World) : Calls Try.prog 12 #[.string x, .string y] w fun e w' => e = .returned (.bool (decide ((x.size : Int) < (y.size : Int)))) ∧ Keeps [] w w' := by
  go_enter Try.func12, Try.ntmps12
  go_wp2
  go_ret
  exact ⟨by simp, Keeps.refl _ _⟩

set_option maxHeartbeats 1000000 in
theorem aheadS_mem (b g n cap i k : Nat) (x y : ByteArray) (s t : Nat) (w : World) (hi : i < n) (hk : k < n) (_ : n ≤ 1000000)
    (h0 : w.cell? ⟨b, 0, none⟩ = some (.func (.func 12) #[] #[])) (h1 : w.cell? ⟨b, 1, none⟩ = some (.slice (some ⟨g, 0, none⟩) n cap))
    (a0 : w.cell? ⟨g, i * 2, none⟩ = some (.string x)) (a1 : w.cell? ⟨g, i * 2 + 1, none⟩ = some (.int .u64 s))
    (b0 : w.cell? ⟨g, k * 2, none⟩ = some (.string y)) (b1 : w.cell? ⟨g, k * 2 + 1, none⟩ = some (.int .u64 t)) :
    Calls Try.prog 33 #[.pointer (some ⟨b, 0, none⟩), .int .i64 i, .int .i64 k] w fun e w' => e = .returned (.bool (decide ((x.size : Int) < (y.size : Int) ∨ (x.size : Int) = (y.size : Int) ∧ s < t))) ∧ Keeps [] w w' := by
  have hi' : (i : Int) < (n : Int) := by omega
  have hk' : (k : Int) < (n : Int) := by omega
  have n0 := World.new_ne w _ h0
  have n1 := World.new_ne w _ h1
  have n2 := World.new_ne w _ a0
  have n3 := World.new_ne w _ a1
  have n4 := World.new_ne w _ b0
  have n5 := World.new_ne w _ b1
  have i0 : (0 : Int) ≤ (i : Int) := by omega
  have k0 : (0 : Int) ≤ (k : Int) := by omega
  go_enter Try.func33, Try.ntmps33
  go_wp2_with fail
  go_region_held3 (fun w' => w'.cell? ⟨b, 0, none⟩ = some (.func (.func 12) #[] #[]) ∧ w'.cell? ⟨b, 1, none⟩ = some (.slice (some ⟨g, 0, none⟩) n cap) ∧ w'.cell? ⟨g, i * 2, none⟩ = some (.string x) ∧ w'.cell? ⟨g, i * 2 + 1, none⟩ = some (.int .u64 s) ∧ w'.cell? ⟨g, k * 2, none⟩ = some (.string y) ∧ w'.cell? ⟨g, k * 2 + 1, none⟩ = some (.int .u64 t)) (go_keep) (fail)
  all_goals
    go_wp2_with fail
    refine name_drew ?_
    rintro w1 K1 -
  have hA := K1.blk (blk_alloc (blk_new w (.cells #[.string x, .int .u64 s] 76)) (.cells #[.string y, .int .u64 t] 76)) (by simp)
  have hB : w1.heap[w.heap.size + 1]? = some (.cells #[.string y, .int .u64 t] 76 (0, 0)) := K1.blk (by simpa using blk_new (w.alloc (.cells #[.string x, .int .u64 s] 76)) (.cells #[.string y, .int .u64 t] 76)) (by simp)
  rotate_left 1
  have hB := K1.blk (blk_alloc (blk_new w (.cells #[.string y, .int .u64 t] 76)) (.cells #[.string x, .int .u64 s] 76)) (by simp)
  have hA : w1.heap[w.heap.size + 1]? = some (.cells #[.string x, .int .u64 s] 76 (0, 0)) := K1.blk (by simpa using blk_new (w.alloc (.cells #[.string y, .int .u64 t] 76)) (.cells #[.string x, .int .u64 s] 76)) (by simp)
  all_goals
    have k1 : Keeps [] w w1 := (((Keeps.refl _ _).alloc _).alloc _).andThen K1 (by simp)
    have c0 := cell_kept k1 h0 (by simp)
    clear h0 h1 a0 a1 b0 b1 n0 n1 n2 n3 n4 n5 K1
    obtain ⟨p0, p1⟩ := reads2 hA
    obtain ⟨q0, q1⟩ := reads2 hB
    have HA := Lib.hid hA
    have HB := Lib.hid hB
    clear hA hB
    have C0 := Lib.hid c0
    go_still_tail 8, (by kernel_rfl)
    refine name_drew_list (w := w1) ?_
    rintro w2 K2 -
    clear c0 p0 p1 q0 q1
    have k2 := k1.andThen K2 (by simp)
    have hA := K2.blk HA.out (by simp)
    have hB := K2.blk HB.out (by simp)
    have c0 := cell_kept K2 C0.out (by simp)
    clear HA HB C0
    have HA := Lib.hid hA
    have HB := Lib.hid hB
    have C0 := Lib.hid c0
    clear hA hB c0
    by_cases hxy : (x.size : Int) < (y.size : Int)
    · go_wp2_with (go_at_call 12; refine (lessS _ _ _).mono ?_; rintro e w3 ⟨rfl, K3⟩)
      go_ret
      exact ⟨by simp [hxy], k2.andThen K3 (by simp)⟩
    · go_wp2_with fail
      refine (lessS _ _ _).mono ?_
      rintro e w3 ⟨rfl, K3⟩
      have k3 := k2.andThen K3 (by simp)
      have c0 := cell_kept K3 C0.out (by simp)
      have hA := K3.blk HA.out (by simp)
      have hB := K3.blk HB.out (by simp)
      obtain ⟨p0, p1⟩ := reads2 hA
      obtain ⟨q0, q1⟩ := reads2 hB
      clear HA HB C0
      have HA := Lib.hid hA
      have HB := Lib.hid hB
      clear hA hB
      go_wp2_with fail
      go_still_tail 8, (by kernel_rfl)
      refine name_drew_list (w := w3) ?_
      rintro w4 K4 -
      clear c0 p0 p1 q0 q1
      have hA := K4.blk HA.out (by simp)
      have hB := K4.blk HB.out (by simp)
      clear HA HB
      have HA := Lib.hid hA
      have HB := Lib.hid hB
      clear hA hB
      have k4 := k3.andThen K4 (by simp)
      by_cases hyx : (y.size : Int) < (x.size : Int)
      · go_wp2_with (go_at_call 12; refine (lessS _ _ _).mono ?_; rintro e w5 ⟨rfl, K5⟩)
        go_ret
        exact ⟨ret_bool_eq (by simp; omega), k4.andThen K5 (by simp)⟩
      · go_wp2_with fail
        refine (lessS _ _ _).mono ?_
        rintro e w5 ⟨rfl, K5⟩
        have k5 := k4.andThen K5 (by simp)
        have hA := K5.blk HA.out (by simp)
        have hB := K5.blk HB.out (by simp)
        obtain ⟨p0, p1⟩ := reads2 hA
        obtain ⟨q0, q1⟩ := reads2 hB
        clear HA HB hA hB
        go_wp2
        go_ret
        exact ⟨ret_bool_eq (decide_eq_decide.2 (by omega)), k5⟩

theorem lessT (x y : Int × Int) (w : World) : Calls Try.prog 21 #[.agg #[.int .i64 x.1, .int .i64 x.2], .agg #[.int .i64 y.1, .int .i64 y.2]] w fun e w' => e = .returned (.bool (decide (x.1 < y.1))) ∧ Keeps [] w w' := by
  go_enter Try.func21, Try.ntmps21
  go_wp2
  go_ret
  exact ⟨rfl, ((Keeps.refl _ _).alloc _).alloc _⟩

set_option maxHeartbeats 1000000 in
theorem aheadT_mem (b g n cap i k : Nat) (x y : Int × Int) (s t : Nat) (w : World) (hi : i < n) (hk : k < n) (_ : n ≤ 1000000)
    (h0 : w.cell? ⟨b, 0, none⟩ = some (.func (.func 21) #[] #[])) (h1 : w.cell? ⟨b, 1, none⟩ = some (.slice (some ⟨g, 0, none⟩) n cap))
    (a0 : w.cell? ⟨g, i * 3, none⟩ = some (.int .i64 x.1)) (a1 : w.cell? ⟨g, i * 3 + 1, none⟩ = some (.int .i64 x.2)) (a2 : w.cell? ⟨g, i * 3 + 2, none⟩ = some (.int .u64 s))
    (b0 : w.cell? ⟨g, k * 3, none⟩ = some (.int .i64 y.1)) (b1 : w.cell? ⟨g, k * 3 + 1, none⟩ = some (.int .i64 y.2)) (b2 : w.cell? ⟨g, k * 3 + 2, none⟩ = some (.int .u64 t)) :
    Calls Try.prog 40 #[.pointer (some ⟨b, 0, none⟩), .int .i64 i, .int .i64 k] w fun e w' => e = .returned (.bool (decide (x.1 < y.1 ∨ x.1 = y.1 ∧ s < t))) ∧ Keeps [] w w' := by
  have hi' : (i : Int) < (n : Int) := by omega
  have hk' : (k : Int) < (n : Int) := by omega
  have n0 := World.new_ne w _ h0
  have n1 := World.new_ne w _ h1
  have n2 := World.new_ne w _ a0
  have n3 := World.new_ne w _ a1
  have n4 := World.new_ne w _ a2
  have n5 := World.new_ne w _ b0
  have n6 := World.new_ne w _ b1
  have n7 := World.new_ne w _ b2
  have i0 : (0 : Int) ≤ (i : Int) := by omega
  have k0 : (0 : Int) ≤ (k : Int) := by omega
  go_enter Try.func40, Try.ntmps40
  go_wp2_with fail
  go_region_held3 (fun w' => w'.cell? ⟨b, 0, none⟩ = some (.func (.func 21) #[] #[]) ∧ w'.cell? ⟨b, 1, none⟩ = some (.slice (some ⟨g, 0, none⟩) n cap) ∧ w'.cell? ⟨g, i * 3, none⟩ = some (.int .i64 x.1) ∧ w'.cell? ⟨g, i * 3 + 1, none⟩ = some (.int .i64 x.2) ∧ w'.cell? ⟨g, i * 3 + 2, none⟩ = some (.int .u64 s) ∧ w'.cell? ⟨g, k * 3, none⟩ = some (.int .i64 y.1) ∧ w'.cell? ⟨g, k * 3 + 1, none⟩ = some (.int .i64 y.2) ∧ w'.cell? ⟨g, k * 3 + 2, none⟩ = some (.int .u64 t)) (go_keep) (fail)
  all_goals
    go_wp2_with fail
    refine name_drew ?_
    rintro w1 K1 -
  have hA := K1.blk (blk_alloc (blk_new w (.cells #[.int .i64 x.1, .int .i64 x.2, .int .u64 s] 82)) (.cells #[.int .i64 y.1, .int .i64 y.2, .int .u64 t] 82)) (by simp)
  have hB : w1.heap[w.heap.size + 1]? = some (.cells #[.int .i64 y.1, .int .i64 y.2, .int .u64 t] 82 (0, 0)) := K1.blk (by simpa using blk_new (w.alloc (.cells #[.int .i64 x.1, .int .i64 x.2, .int .u64 s] 82)) (.cells #[.int .i64 y.1, .int .i64 y.2, .int .u64 t] 82)) (by simp)
  rotate_left 1
  have hB := K1.blk (blk_alloc (blk_new w (.cells #[.int .i64 y.1, .int .i64 y.2, .int .u64 t] 82)) (.cells #[.int .i64 x.1, .int .i64 x.2, .int .u64 s] 82)) (by simp)
  have hA : w1.heap[w.heap.size + 1]? = some (.cells #[.int .i64 x.1, .int .i64 x.2, .int .u64 s] 82 (0, 0)) := K1.blk (by simpa using blk_new (w.alloc (.cells #[.int .i64 y.1, .int .i64 y.2, .int .u64 t] 82)) (.cells #[.int .i64 x.1, .int .i64 x.2, .int .u64 s] 82)) (by simp)
  all_goals
    have k1 : Keeps [] w w1 := (((Keeps.refl _ _).alloc _).alloc _).andThen K1 (by simp)
    have c0 := cell_kept k1 h0 (by simp)
    clear h0 h1 a0 a1 a2 b0 b1 b2 n0 n1 n2 n3 n4 n5 n6 n7 K1
    obtain ⟨p0, p1, p2⟩ := reads3 hA
    obtain ⟨q0, q1, q2⟩ := reads3 hB
    have HA := Lib.hid hA
    have HB := Lib.hid hB
    clear hA hB
    have C0 := Lib.hid c0
    go_still_tail 8, (by kernel_rfl)
    refine name_drew_list (w := w1) ?_
    rintro w2 K2 -
    clear c0 p0 p1 p2 q0 q1 q2
    have k2 := k1.andThen K2 (by simp)
    have hA := K2.blk HA.out (by simp)
    have hB := K2.blk HB.out (by simp)
    have c0 := cell_kept K2 C0.out (by simp)
    clear HA HB C0
    have HA := Lib.hid hA
    have HB := Lib.hid hB
    have C0 := Lib.hid c0
    clear hA hB c0
    by_cases hxy : x.1 < y.1
    · go_wp2_with (go_at_call 21; refine (lessT _ _ _).mono ?_; rintro e w3 ⟨rfl, K3⟩)
      go_ret
      exact ⟨by simp [hxy], k2.andThen K3 (by simp)⟩
    · go_wp2_with fail
      refine (lessT _ _ _).mono ?_
      rintro e w3 ⟨rfl, K3⟩
      have k3 := k2.andThen K3 (by simp)
      have c0 := cell_kept K3 C0.out (by simp)
      have hA := K3.blk HA.out (by simp)
      have hB := K3.blk HB.out (by simp)
      obtain ⟨p0, p1, p2⟩ := reads3 hA
      obtain ⟨q0, q1, q2⟩ := reads3 hB
      clear HA HB C0
      have HA := Lib.hid hA
      have HB := Lib.hid hB
      clear hA hB
      go_wp2_with fail
      go_still_tail 8, (by kernel_rfl)
      refine name_drew_list (w := w3) ?_
      rintro w4 K4 -
      clear c0 p0 p1 p2 q0 q1 q2
      have hA := K4.blk HA.out (by simp)
      have hB := K4.blk HB.out (by simp)
      clear HA HB
      have HA := Lib.hid hA
      have HB := Lib.hid hB
      clear hA hB
      have k4 := k3.andThen K4 (by simp)
      by_cases hyx : y.1 < x.1
      · go_wp2_with (go_at_call 21; refine (lessT _ _ _).mono ?_; rintro e w5 ⟨rfl, K5⟩)
        go_ret
        exact ⟨ret_bool_eq (by simp; omega), k4.andThen K5 (by simp)⟩
      · go_wp2_with fail
        refine (lessT _ _ _).mono ?_
        rintro e w5 ⟨rfl, K5⟩
        have k5 := k4.andThen K5 (by simp)
        have hA := K5.blk HA.out (by simp)
        have hB := K5.blk HB.out (by simp)
        obtain ⟨p0, p1, p2⟩ := reads3 hA
        obtain ⟨q0, q1, q2⟩ := reads3 hB
        clear HA HB hA hB
        go_wp2
        go_ret
        exact ⟨ret_bool_eq (decide_eq_decide.2 (by omega)), k5⟩

end Go.Proofs.Ytlcbcagbiiachaa
