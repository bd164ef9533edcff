-- written by a program (wip/dev/print2.sh): functions of the program as plain Lean, with their contracts
import Derived.Test.YtcdmgalhboijcaaDx0
import Derived.Test.YtcdmgalhboijcaaGiven
namespace Go.Proofs.Ytcdmgalhboijcaa.D
open Go.RowKit Go.Proofs.YtcdmgalhboijcaaW.PrintWords Go.Proofs.YtcdmgalhboijcaaW.PrintLast Go.Proofs.YtcdmgalhboijcaaW.PrintMore
attribute [local go_sem] max2_int min2_int max_two min_two max_three min_three max_four min_four   -- for this text's walks alone
set_option linter.unusedVariables false
set_option linter.unusedSimpArgs false

/-! ### cadencyref04_in: function 43 -/
def cadencyref04_in.f (a0 : Int) (a1 : Int) (a2 : Int) : Option (Bool) := if a0 ≥ a1 then (some (decide (a0 ≤ a2))) else (some false)
set_option maxHeartbeats 8000000 in
set_option maxRecDepth 100000 in
theorem cadencyref04_in.calls (a0 : Int) (a1 : Int) (a2 : Int) (r : Bool) (w : World) (h : cadencyref04_in.f a0 a1 a2 = some r) :
    Calls Try.prog 43 #[.int .i64 a0, .int .i64 a1, .int .i64 a2] w fun e w' => e = .returned (.bool r) ∧ Drawn0 w w' := by
  have H : (if a0 ≥ a1 then (some (decide (a0 ≤ a2))) else (some false)) = some r := h
  clear h
  by_cases c4 : a0 ≥ a1
  · rw [if_pos c4] at H
    have c4b0 : decide (a1 ≤ a0) = true := decide_eq_true c4
    clear c4
    obtain rfl := Option.some.inj H
    go_enter Try.func43, Try.ntmps43
    go_wp2
    go_ret
    exact ⟨by first | rfl | (simp; done) | (simp [*]; done), by repeat (first | exact Drawn0.refl _ | apply Drawn0.step)⟩
  · rw [if_neg c4] at H
    have c4b0 : decide (a1 ≤ a0) = false := decide_eq_false c4
    clear c4
    obtain rfl := Option.some.inj H
    go_enter Try.func43, Try.ntmps43
    go_wp2
    go_ret
    exact ⟨by first | rfl | (simp; done) | (simp [*]; done), by repeat (first | exact Drawn0.refl _ | apply Drawn0.step)⟩

/-! ### cadencyref04_Check: function 38 -/
def cadencyref04_Check.j0 : Nat → Bool → ByteArray → Int → Int → Int → Int → Int → Int → Option (Int)
  | 0, _, _, _, _, _, _, _, _ => none
  | k + 1, x60, x165000, x165001, x165002, x165003, x165004, x165005, x165006 => if x60 = true then (some 11) else (if x165005 > x165001 then (some 12) else (if (wrap64 (x165001 + x165004)) > x165003 then (some 12) else (if x165003 > x165002 then (some 12) else (some 0))))
def cadencyref04_Check.f (k : Nat) (a0_0 : ByteArray) (a0_1 : Int) (a0_2 : Int) (a0_3 : Int) (a0_4 : Int) (a0_5 : Int) (a0_6 : Int) : Option (Int) := (cadencyref03_Word.f a0_0).bind fun t165 => (if t165 = true then (if (a0_0.size : Int) > 32 then (cadencyref04_Check.j0 k true a0_0 a0_1 a0_2 a0_3 a0_4 a0_5 a0_6) else ((cadencyref04_in.f a0_1 1 2147483647).bind fun t166 => (if t166 = true then ((cadencyref04_in.f a0_2 1 2147483647).bind fun t167 => (if t167 = true then ((cadencyref04_in.f a0_3 1 2147483647).bind fun t168 => (if t168 = true then ((cadencyref04_in.f a0_5 1 2147483647).bind fun t169 => (if t169 = true then ((cadencyref04_in.f a0_4 0 2147483647).bind fun t170 => (if t170 = true then (if a0_6 < 1 then (cadencyref04_Check.j0 k true a0_0 a0_1 a0_2 a0_3 a0_4 a0_5 a0_6) else (cadencyref04_Check.j0 k (decide (a0_6 > 1048576)) a0_0 a0_1 a0_2 a0_3 a0_4 a0_5 a0_6)) else (cadencyref04_Check.j0 k true a0_0 a0_1 a0_2 a0_3 a0_4 a0_5 a0_6))) else (cadencyref04_Check.j0 k true a0_0 a0_1 a0_2 a0_3 a0_4 a0_5 a0_6))) else (cadencyref04_Check.j0 k true a0_0 a0_1 a0_2 a0_3 a0_4 a0_5 a0_6))) else (cadencyref04_Check.j0 k true a0_0 a0_1 a0_2 a0_3 a0_4 a0_5 a0_6))) else (cadencyref04_Check.j0 k true a0_0 a0_1 a0_2 a0_3 a0_4 a0_5 a0_6)))) else (cadencyref04_Check.j0 k true a0_0 a0_1 a0_2 a0_3 a0_4 a0_5 a0_6))
theorem cadencyref04_Check.mono_l : ∀ k, (∀ y0 y1 y2 y3 y4 y5 y6 y7, LeO (cadencyref04_Check.j0 k y0 y1 y2 y3 y4 y5 y6 y7) (cadencyref04_Check.j0 (k + 1) y0 y1 y2 y3 y4 y5 y6 y7))
  | 0 => fun _ _ _ _ _ _ _ _ r h => by simp [cadencyref04_Check.j0] at h
  | k + 1 => by
    have ih0 := cadencyref04_Check.mono_l k
    · intro y0 y1 y2 y3 y4 y5 y6 y7
      unfold cadencyref04_Check.j0
      repeat' first
      | (with_reducible exact ih0 _ _ _ _ _ _ _ _)
      | (with_reducible exact LeO.refl _)
      | (with_reducible exact LeO.none _)
      | (with_reducible refine LeO.ite ?_ ?_)
      | (with_reducible refine LeO.bind ?_ (fun _ => ?_))
      | exact ih0 _ _ _ _ _ _ _ _
      | exact LeO.none _
      | refine LeO.ite ?_ ?_
      | refine LeO.bind ?_ (fun _ => ?_)
theorem cadencyref04_Check.mono : ∀ a0 a1 a2 a3 a4 a5 a6 k, LeO (cadencyref04_Check.f k a0 a1 a2 a3 a4 a5 a6) (cadencyref04_Check.f (k + 1) a0 a1 a2 a3 a4 a5 a6) := by
  intro a0 a1 a2 a3 a4 a5 a6 k
  have ih0 := cadencyref04_Check.mono_l k
  unfold cadencyref04_Check.f
  repeat' first
      | (with_reducible exact ih0 _ _ _ _ _ _ _ _)
      | (with_reducible exact LeO.refl _)
      | (with_reducible exact LeO.none _)
      | (with_reducible refine LeO.ite ?_ ?_)
      | (with_reducible refine LeO.bind ?_ (fun _ => ?_))
      | exact ih0 _ _ _ _ _ _ _ _
      | exact LeO.none _
      | refine LeO.ite ?_ ?_
      | refine LeO.bind ?_ (fun _ => ?_)
set_option maxHeartbeats 8000000 in
set_option maxRecDepth 100000 in
theorem cadencyref04_Check.calls (k : Nat) (a0_0 : ByteArray) (a0_1 : Int) (a0_2 : Int) (a0_3 : Int) (a0_4 : Int) (a0_5 : Int) (a0_6 : Int) (r : Int) (w : World) (h : cadencyref04_Check.f k a0_0 a0_1 a0_2 a0_3 a0_4 a0_5 a0_6 = some r) :
    Calls Try.prog 38 #[.agg #[.string a0_0, .int .i64 a0_1, .int .i64 a0_2, .int .i64 a0_3, .int .i64 a0_4, .int .i64 a0_5, .int .i64 a0_6]] w fun e w' => e = .returned (.int .i64 r) ∧ Below w.heap.size w w' := by
  have hu46 := Try.underlying46
  have HB := Aside0.mk (Below.refl w.heap.size w)
  have H : ((cadencyref03_Word.f a0_0).bind fun t165 => (if t165 = true then (if (a0_0.size : Int) > 32 then (cadencyref04_Check.j0 k true a0_0 a0_1 a0_2 a0_3 a0_4 a0_5 a0_6) else ((cadencyref04_in.f a0_1 1 2147483647).bind fun t166 => (if t166 = true then ((cadencyref04_in.f a0_2 1 2147483647).bind fun t167 => (if t167 = true then ((cadencyref04_in.f a0_3 1 2147483647).bind fun t168 => (if t168 = true then ((cadencyref04_in.f a0_5 1 2147483647).bind fun t169 => (if t169 = true then ((cadencyref04_in.f a0_4 0 2147483647).bind fun t170 => (if t170 = true then (if a0_6 < 1 then (cadencyref04_Check.j0 k true a0_0 a0_1 a0_2 a0_3 a0_4 a0_5 a0_6) else (cadencyref04_Check.j0 k (decide (a0_6 > 1048576)) a0_0 a0_1 a0_2 a0_3 a0_4 a0_5 a0_6)) else (cadencyref04_Check.j0 k true a0_0 a0_1 a0_2 a0_3 a0_4 a0_5 a0_6))) else (cadencyref04_Check.j0 k true a0_0 a0_1 a0_2 a0_3 a0_4 a0_5 a0_6))) else (cadencyref04_Check.j0 k true a0_0 a0_1 a0_2 a0_3 a0_4 a0_5 a0_6))) else (cadencyref04_Check.j0 k true a0_0 a0_1 a0_2 a0_3 a0_4 a0_5 a0_6))) else (cadencyref04_Check.j0 k true a0_0 a0_1 a0_2 a0_3 a0_4 a0_5 a0_6)))) else (cadencyref04_Check.j0 k true a0_0 a0_1 a0_2 a0_3 a0_4 a0_5 a0_6))) = some r := h
  clear h
  replace H := Option.bind_eq_some_iff.mp H
  obtain ⟨t165, A20, H⟩ := H
  replace H : (if t165 = true then (if (a0_0.size : Int) > 32 then (cadencyref04_Check.j0 k true a0_0 a0_1 a0_2 a0_3 a0_4 a0_5 a0_6) else ((cadencyref04_in.f a0_1 1 2147483647).bind fun t166 => (if t166 = true then ((cadencyref04_in.f a0_2 1 2147483647).bind fun t167 => (if t167 = true then ((cadencyref04_in.f a0_3 1 2147483647).bind fun t168 => (if t168 = true then ((cadencyref04_in.f a0_5 1 2147483647).bind fun t169 => (if t169 = true then ((cadencyref04_in.f a0_4 0 2147483647).bind fun t170 => (if t170 = true then (if a0_6 < 1 then (cadencyref04_Check.j0 k true a0_0 a0_1 a0_2 a0_3 a0_4 a0_5 a0_6) else (cadencyref04_Check.j0 k (decide (a0_6 > 1048576)) a0_0 a0_1 a0_2 a0_3 a0_4 a0_5 a0_6)) else (cadencyref04_Check.j0 k true a0_0 a0_1 a0_2 a0_3 a0_4 a0_5 a0_6))) else (cadencyref04_Check.j0 k true a0_0 a0_1 a0_2 a0_3 a0_4 a0_5 a0_6))) else (cadencyref04_Check.j0 k true a0_0 a0_1 a0_2 a0_3 a0_4 a0_5 a0_6))) else (cadencyref04_Check.j0 k true a0_0 a0_1 a0_2 a0_3 a0_4 a0_5 a0_6))) else (cadencyref04_Check.j0 k true a0_0 a0_1 a0_2 a0_3 a0_4 a0_5 a0_6)))) else (cadencyref04_Check.j0 k true a0_0 a0_1 a0_2 a0_3 a0_4 a0_5 a0_6)) = some r := H
  have A2 := Aside0.mk A20
  clear A20
  have HC3 := Aside0.mk H
  clear H
  go_enter Try.func38, Try.ntmps38
  go_upto_region 3 with (first | ((with_reducible refine gate_dst (N := 1) rfl ?_); (try (refine gate_guard (by rfl) ?_; dsimp only)); refine box_event ?hg (N := 1) ?hd (cs := #[.string a0_0, .int .i64 a0_1, .int .i64 a0_2, .int .i64 a0_3, .int .i64 a0_4, .int .i64 a0_5, .int .i64 a0_6]) (t := 46) ?hr ?_; (case hd => rfl); (case hg => rfl); (case hr => first | (go_simp; done) | (go_simp; rfl)); intro gb164 hg w4 hbox hb; have n0_ := Aside0.mk (below_step (by repeat (first | (with_reducible first | exact HB.out | apply below_alloc | apply pw_below_drewN | apply below_drew1) | exact HB.out)) hb); have n1_ := Aside0.mk (hbox); have n2_ := Aside0.mk ((by rw [hg]; exact (below_size (by repeat (first | (with_reducible first | exact HB.out | apply below_alloc | apply pw_below_drewN | apply below_drew1) | exact HB.out))) : w.heap.size ≤ gb164)); have n3_ := Aside0.mk ((by rw [hg]; exact (below_size (by repeat (first | (with_reducible first | exact HB.out | apply below_alloc | apply pw_below_drewN | apply below_drew1) | exact HB.out))) : w.heap.size ≤ gb164)); clear HB; have HB := n0_; have BK164 := n1_; have GW164 := n2_; have GE164 := n3_; clear n0_ n1_ n2_ n3_; clear hb hbox hg; have hcz5_0 : w4.cell? ⟨gb164, 0, none⟩ = some (.string a0_0) := (blk_cell BK164.out 0).trans rfl; have hcz5_1 : w4.cell? ⟨gb164, 1, none⟩ = some (.int .i64 a0_1) := (blk_cell BK164.out 1).trans rfl; have hcz5_2 : w4.cell? ⟨gb164, 2, none⟩ = some (.int .i64 a0_2) := (blk_cell BK164.out 2).trans rfl; have hcz5_3 : w4.cell? ⟨gb164, 3, none⟩ = some (.int .i64 a0_3) := (blk_cell BK164.out 3).trans rfl; have hcz5_4 : w4.cell? ⟨gb164, 4, none⟩ = some (.int .i64 a0_4) := (blk_cell BK164.out 4).trans rfl; have hcz5_5 : w4.cell? ⟨gb164, 5, none⟩ = some (.int .i64 a0_5) := (blk_cell BK164.out 5).trans rfl; have hcz5_6 : w4.cell? ⟨gb164, 6, none⟩ = some (.int .i64 a0_6) := (blk_cell BK164.out 6).trans rfl; have hfz5_0 := blk_frozen BK164.out 0; have hfz5_1 := blk_frozen BK164.out 1; have hfz5_2 := blk_frozen BK164.out 2; have hfz5_3 := blk_frozen BK164.out 3; have hfz5_4 := blk_frozen BK164.out 4; have hfz5_5 := blk_frozen BK164.out 5; have hfz5_6 := blk_frozen BK164.out 6) | ((with_reducible refine gate_callee (f := 42) rfl ?_); refine goesL_ (some 7) rfl rfl Try.func42 (by kernel_rfl) rfl #[.string a0_0] rfl (by (try simp only [List.map_toArray, List.map_cons, List.map_nil]); first | done | rfl | (simp only [List.length_drop, List.length_take]; rfl)) ?_; (with_reducible refine (cadencyref03_Word.calls a0_0 t165 _ A2.out).mono ?_); rintro e w6 ⟨rfl, hb⟩; refine ⟨_, rfl, ?_⟩; have n0_ := Aside0.mk (blk_below (g := gb164) (o := .cells #[.string a0_0, .int .i64 a0_1, .int .i64 a0_2, .int .i64 a0_3, .int .i64 a0_4, .int .i64 a0_5, .int .i64 a0_6] 46 (0, 0)) (by (with_reducible repeat (first | refine blk_drewN ?_ _ | refine blk_drew ?_ | refine blk_alloc ?_ _)); exact BK164.out) hb); have n1_ := Aside0.mk (below_step (by repeat (first | (with_reducible first | exact HB.out | apply below_alloc | apply pw_below_drewN | apply below_drew1 | refine below_set ?_ GE164.out) | exact HB.out)) hb); clear BK164; clear HB; have BK164 := n0_; have HB := n1_; clear n0_ n1_; (try clear hb); (try clear hb2); (try clear hk); (try clear hi)))
  (try simp only [Act.put, List.setIfInBounds_toArray, List.set_cons_zero, List.set_cons_succ])
  go_cut [60] (fun v60 wc => ∃ (kq : Nat) (x60_2 : Bool), v60 = .bool x60_2 ∧ Aside0 (cadencyref04_Check.j0 kq x60_2 a0_0 a0_1 a0_2 a0_3 a0_4 a0_5 a0_6 = some r) ∧ Aside0 (kq ≤ k) ∧ Aside0 (wc.heap[gb164]? = some (.cells #[.string a0_0, .int .i64 a0_1, .int .i64 a0_2, .int .i64 a0_3, .int .i64 a0_4, .int .i64 a0_5, .int .i64 a0_6] 46 (0, 0))) ∧ Aside0 (Below w.heap.size w wc))
  case first =>
    have H := HC3.out
    clear HC3
    by_cases c7 : t165 = true
    · subst c7
      have H1 : (if (a0_0.size : Int) > 32 then (cadencyref04_Check.j0 k true a0_0 a0_1 a0_2 a0_3 a0_4 a0_5 a0_6) else ((cadencyref04_in.f a0_1 1 2147483647).bind fun t166 => (if t166 = true then ((cadencyref04_in.f a0_2 1 2147483647).bind fun t167 => (if t167 = true then ((cadencyref04_in.f a0_3 1 2147483647).bind fun t168 => (if t168 = true then ((cadencyref04_in.f a0_5 1 2147483647).bind fun t169 => (if t169 = true then ((cadencyref04_in.f a0_4 0 2147483647).bind fun t170 => (if t170 = true then (if a0_6 < 1 then (cadencyref04_Check.j0 k true a0_0 a0_1 a0_2 a0_3 a0_4 a0_5 a0_6) else (cadencyref04_Check.j0 k (decide (a0_6 > 1048576)) a0_0 a0_1 a0_2 a0_3 a0_4 a0_5 a0_6)) else (cadencyref04_Check.j0 k true a0_0 a0_1 a0_2 a0_3 a0_4 a0_5 a0_6))) else (cadencyref04_Check.j0 k true a0_0 a0_1 a0_2 a0_3 a0_4 a0_5 a0_6))) else (cadencyref04_Check.j0 k true a0_0 a0_1 a0_2 a0_3 a0_4 a0_5 a0_6))) else (cadencyref04_Check.j0 k true a0_0 a0_1 a0_2 a0_3 a0_4 a0_5 a0_6))) else (cadencyref04_Check.j0 k true a0_0 a0_1 a0_2 a0_3 a0_4 a0_5 a0_6)))) = some r := by rw [if_pos rfl] at H; exact H
      clear H
      have H := H1
      clear H1
      by_cases c8 : (a0_0.size : Int) > 32
      · rw [if_pos c8] at H
        have c8b0 : decide (32 < (a0_0.size : Int)) = true := decide_eq_true c8
        have c8b1 : decide (32 < a0_0.size) = true := decide_eq_true (by omega)
        clear c8
        (first | rw [c8b0] | (simp only [i64_w, i32_w]; rw [c8b0]) | skip)
        have H' := Aside0.mk H
        clear H
        have hcz9_0 : w6.cell? ⟨gb164, 0, none⟩ = some (.string a0_0) := (blk_cell BK164.out 0).trans rfl
        have hcz9_1 : w6.cell? ⟨gb164, 1, none⟩ = some (.int .i64 a0_1) := (blk_cell BK164.out 1).trans rfl
        have hcz9_2 : w6.cell? ⟨gb164, 2, none⟩ = some (.int .i64 a0_2) := (blk_cell BK164.out 2).trans rfl
        have hcz9_3 : w6.cell? ⟨gb164, 3, none⟩ = some (.int .i64 a0_3) := (blk_cell BK164.out 3).trans rfl
        have hcz9_4 : w6.cell? ⟨gb164, 4, none⟩ = some (.int .i64 a0_4) := (blk_cell BK164.out 4).trans rfl
        have hcz9_5 : w6.cell? ⟨gb164, 5, none⟩ = some (.int .i64 a0_5) := (blk_cell BK164.out 5).trans rfl
        have hcz9_6 : w6.cell? ⟨gb164, 6, none⟩ = some (.int .i64 a0_6) := (blk_cell BK164.out 6).trans rfl
        have hfz9_0 := blk_frozen BK164.out 0
        have hfz9_1 := blk_frozen BK164.out 1
        have hfz9_2 := blk_frozen BK164.out 2
        have hfz9_3 := blk_frozen BK164.out 3
        have hfz9_4 := blk_frozen BK164.out 4
        have hfz9_5 := blk_frozen BK164.out 5
        have hfz9_6 := blk_frozen BK164.out 6
        go_wp2
        go_meet
        case rel => exact ⟨_, (true), (by first | rfl | (simp; done) | (simp [*]; done)), H', ⟨by first | omega | exact Nat.le_refl _⟩, ⟨by (with_reducible repeat (first | refine blk_drewN ?_ _ | refine blk_drew ?_ | refine blk_alloc ?_ _)); exact BK164.out⟩, ⟨by repeat (first | (with_reducible first | exact HB.out | apply below_alloc | apply pw_below_drewN | apply below_drew1 | refine below_set ?_ GE164.out) | exact HB.out)⟩⟩
      · rw [if_neg c8] at H
        have c8b0 : decide (32 < (a0_0.size : Int)) = false := decide_eq_false c8
        have c8b1 : decide (32 < a0_0.size) = false := decide_eq_false (by omega)
        clear c8
        (first | rw [c8b0] | (simp only [i64_w, i32_w]; rw [c8b0]) | skip)
        replace H := Option.bind_eq_some_iff.mp H
        obtain ⟨t166, A100, H⟩ := H
        replace H : (if t166 = true then ((cadencyref04_in.f a0_2 1 2147483647).bind fun t167 => (if t167 = true then ((cadencyref04_in.f a0_3 1 2147483647).bind fun t168 => (if t168 = true then ((cadencyref04_in.f a0_5 1 2147483647).bind fun t169 => (if t169 = true then ((cadencyref04_in.f a0_4 0 2147483647).bind fun t170 => (if t170 = true then (if a0_6 < 1 then (cadencyref04_Check.j0 k true a0_0 a0_1 a0_2 a0_3 a0_4 a0_5 a0_6) else (cadencyref04_Check.j0 k (decide (a0_6 > 1048576)) a0_0 a0_1 a0_2 a0_3 a0_4 a0_5 a0_6)) else (cadencyref04_Check.j0 k true a0_0 a0_1 a0_2 a0_3 a0_4 a0_5 a0_6))) else (cadencyref04_Check.j0 k true a0_0 a0_1 a0_2 a0_3 a0_4 a0_5 a0_6))) else (cadencyref04_Check.j0 k true a0_0 a0_1 a0_2 a0_3 a0_4 a0_5 a0_6))) else (cadencyref04_Check.j0 k true a0_0 a0_1 a0_2 a0_3 a0_4 a0_5 a0_6))) else (cadencyref04_Check.j0 k true a0_0 a0_1 a0_2 a0_3 a0_4 a0_5 a0_6)) = some r := H
        have A10 := Aside0.mk A100
        clear A100
        by_cases c11 : t166 = true
        · subst c11
          have H1 : ((cadencyref04_in.f a0_2 1 2147483647).bind fun t167 => (if t167 = true then ((cadencyref04_in.f a0_3 1 2147483647).bind fun t168 => (if t168 = true then ((cadencyref04_in.f a0_5 1 2147483647).bind fun t169 => (if t169 = true then ((cadencyref04_in.f a0_4 0 2147483647).bind fun t170 => (if t170 = true then (if a0_6 < 1 then (cadencyref04_Check.j0 k true a0_0 a0_1 a0_2 a0_3 a0_4 a0_5 a0_6) else (cadencyref04_Check.j0 k (decide (a0_6 > 1048576)) a0_0 a0_1 a0_2 a0_3 a0_4 a0_5 a0_6)) else (cadencyref04_Check.j0 k true a0_0 a0_1 a0_2 a0_3 a0_4 a0_5 a0_6))) else (cadencyref04_Check.j0 k true a0_0 a0_1 a0_2 a0_3 a0_4 a0_5 a0_6))) else (cadencyref04_Check.j0 k true a0_0 a0_1 a0_2 a0_3 a0_4 a0_5 a0_6))) else (cadencyref04_Check.j0 k true a0_0 a0_1 a0_2 a0_3 a0_4 a0_5 a0_6))) = some r := by rw [if_pos rfl] at H; exact H
          clear H
          have H := H1
          clear H1
          replace H := Option.bind_eq_some_iff.mp H
          obtain ⟨t167, A120, H⟩ := H
          replace H : (if t167 = true then ((cadencyref04_in.f a0_3 1 2147483647).bind fun t168 => (if t168 = true then ((cadencyref04_in.f a0_5 1 2147483647).bind fun t169 => (if t169 = true then ((cadencyref04_in.f a0_4 0 2147483647).bind fun t170 => (if t170 = true then (if a0_6 < 1 then (cadencyref04_Check.j0 k true a0_0 a0_1 a0_2 a0_3 a0_4 a0_5 a0_6) else (cadencyref04_Check.j0 k (decide (a0_6 > 1048576)) a0_0 a0_1 a0_2 a0_3 a0_4 a0_5 a0_6)) else (cadencyref04_Check.j0 k true a0_0 a0_1 a0_2 a0_3 a0_4 a0_5 a0_6))) else (cadencyref04_Check.j0 k true a0_0 a0_1 a0_2 a0_3 a0_4 a0_5 a0_6))) else (cadencyref04_Check.j0 k true a0_0 a0_1 a0_2 a0_3 a0_4 a0_5 a0_6))) else (cadencyref04_Check.j0 k true a0_0 a0_1 a0_2 a0_3 a0_4 a0_5 a0_6)) = some r := H
          have A12 := Aside0.mk A120
          clear A120
          by_cases c13 : t167 = true
          · subst c13
            have H1 : ((cadencyref04_in.f a0_3 1 2147483647).bind fun t168 => (if t168 = true then ((cadencyref04_in.f a0_5 1 2147483647).bind fun t169 => (if t169 = true then ((cadencyref04_in.f a0_4 0 2147483647).bind fun t170 => (if t170 = true then (if a0_6 < 1 then (cadencyref04_Check.j0 k true a0_0 a0_1 a0_2 a0_3 a0_4 a0_5 a0_6) else (cadencyref04_Check.j0 k (decide (a0_6 > 1048576)) a0_0 a0_1 a0_2 a0_3 a0_4 a0_5 a0_6)) else (cadencyref04_Check.j0 k true a0_0 a0_1 a0_2 a0_3 a0_4 a0_5 a0_6))) else (cadencyref04_Check.j0 k true a0_0 a0_1 a0_2 a0_3 a0_4 a0_5 a0_6))) else (cadencyref04_Check.j0 k true a0_0 a0_1 a0_2 a0_3 a0_4 a0_5 a0_6))) = some r := by rw [if_pos rfl] at H; exact H
            clear H
            have H := H1
            clear H1
            replace H := Option.bind_eq_some_iff.mp H
            obtain ⟨t168, A140, H⟩ := H
            replace H : (if t168 = true then ((cadencyref04_in.f a0_5 1 2147483647).bind fun t169 => (if t169 = true then ((cadencyref04_in.f a0_4 0 2147483647).bind fun t170 => (if t170 = true then (if a0_6 < 1 then (cadencyref04_Check.j0 k true a0_0 a0_1 a0_2 a0_3 a0_4 a0_5 a0_6) else (cadencyref04_Check.j0 k (decide (a0_6 > 1048576)) a0_0 a0_1 a0_2 a0_3 a0_4 a0_5 a0_6)) else (cadencyref04_Check.j0 k true a0_0 a0_1 a0_2 a0_3 a0_4 a0_5 a0_6))) else (cadencyref04_Check.j0 k true a0_0 a0_1 a0_2 a0_3 a0_4 a0_5 a0_6))) else (cadencyref04_Check.j0 k true a0_0 a0_1 a0_2 a0_3 a0_4 a0_5 a0_6)) = some r := H
            have A14 := Aside0.mk A140
            clear A140
            by_cases c15 : t168 = true
            · subst c15
              have H1 : ((cadencyref04_in.f a0_5 1 2147483647).bind fun t169 => (if t169 = true then ((cadencyref04_in.f a0_4 0 2147483647).bind fun t170 => (if t170 = true then (if a0_6 < 1 then (cadencyref04_Check.j0 k true a0_0 a0_1 a0_2 a0_3 a0_4 a0_5 a0_6) else (cadencyref04_Check.j0 k (decide (a0_6 > 1048576)) a0_0 a0_1 a0_2 a0_3 a0_4 a0_5 a0_6)) else (cadencyref04_Check.j0 k true a0_0 a0_1 a0_2 a0_3 a0_4 a0_5 a0_6))) else (cadencyref04_Check.j0 k true a0_0 a0_1 a0_2 a0_3 a0_4 a0_5 a0_6))) = some r := by rw [if_pos rfl] at H; exact H
              clear H
              have H := H1
              clear H1
              replace H := Option.bind_eq_some_iff.mp H
              obtain ⟨t169, A160, H⟩ := H
              replace H : (if t169 = true then ((cadencyref04_in.f a0_4 0 2147483647).bind fun t170 => (if t170 = true then (if a0_6 < 1 then (cadencyref04_Check.j0 k true a0_0 a0_1 a0_2 a0_3 a0_4 a0_5 a0_6) else (cadencyref04_Check.j0 k (decide (a0_6 > 1048576)) a0_0 a0_1 a0_2 a0_3 a0_4 a0_5 a0_6)) else (cadencyref04_Check.j0 k true a0_0 a0_1 a0_2 a0_3 a0_4 a0_5 a0_6))) else (cadencyref04_Check.j0 k true a0_0 a0_1 a0_2 a0_3 a0_4 a0_5 a0_6)) = some r := H
              have A16 := Aside0.mk A160
              clear A160
              by_cases c17 : t169 = true
              · subst c17
                have H1 : ((cadencyref04_in.f a0_4 0 2147483647).bind fun t170 => (if t170 = true then (if a0_6 < 1 then (cadencyref04_Check.j0 k true a0_0 a0_1 a0_2 a0_3 a0_4 a0_5 a0_6) else (cadencyref04_Check.j0 k (decide (a0_6 > 1048576)) a0_0 a0_1 a0_2 a0_3 a0_4 a0_5 a0_6)) else (cadencyref04_Check.j0 k true a0_0 a0_1 a0_2 a0_3 a0_4 a0_5 a0_6))) = some r := by rw [if_pos rfl] at H; exact H
                clear H
                have H := H1
                clear H1
                replace H := Option.bind_eq_some_iff.mp H
                obtain ⟨t170, A180, H⟩ := H
                replace H : (if t170 = true then (if a0_6 < 1 then (cadencyref04_Check.j0 k true a0_0 a0_1 a0_2 a0_3 a0_4 a0_5 a0_6) else (cadencyref04_Check.j0 k (decide (a0_6 > 1048576)) a0_0 a0_1 a0_2 a0_3 a0_4 a0_5 a0_6)) else (cadencyref04_Check.j0 k true a0_0 a0_1 a0_2 a0_3 a0_4 a0_5 a0_6)) = some r := H
                have A18 := Aside0.mk A180
                clear A180
                by_cases c19 : t170 = true
                · subst c19
                  have H1 : (if a0_6 < 1 then (cadencyref04_Check.j0 k true a0_0 a0_1 a0_2 a0_3 a0_4 a0_5 a0_6) else (cadencyref04_Check.j0 k (decide (a0_6 > 1048576)) a0_0 a0_1 a0_2 a0_3 a0_4 a0_5 a0_6)) = some r := by rw [if_pos rfl] at H; exact H
                  clear H
                  have H := H1
                  clear H1
                  by_cases c20 : a0_6 < 1
                  · rw [if_pos c20] at H
                    have c20b0 : decide (a0_6 < 1) = true := decide_eq_true c20
                    clear c20
                    have H' := Aside0.mk H
                    clear H
                    have hcz21_0 : w6.cell? ⟨gb164, 0, none⟩ = some (.string a0_0) := (blk_cell BK164.out 0).trans rfl
                    have hcz21_1 : w6.cell? ⟨gb164, 1, none⟩ = some (.int .i64 a0_1) := (blk_cell BK164.out 1).trans rfl
                    have hcz21_2 : w6.cell? ⟨gb164, 2, none⟩ = some (.int .i64 a0_2) := (blk_cell BK164.out 2).trans rfl
                    have hcz21_3 : w6.cell? ⟨gb164, 3, none⟩ = some (.int .i64 a0_3) := (blk_cell BK164.out 3).trans rfl
                    have hcz21_4 : w6.cell? ⟨gb164, 4, none⟩ = some (.int .i64 a0_4) := (blk_cell BK164.out 4).trans rfl
                    have hcz21_5 : w6.cell? ⟨gb164, 5, none⟩ = some (.int .i64 a0_5) := (blk_cell BK164.out 5).trans rfl
                    have hcz21_6 : w6.cell? ⟨gb164, 6, none⟩ = some (.int .i64 a0_6) := (blk_cell BK164.out 6).trans rfl
                    have hfz21_0 := blk_frozen BK164.out 0
                    have hfz21_1 := blk_frozen BK164.out 1
                    have hfz21_2 := blk_frozen BK164.out 2
                    have hfz21_3 := blk_frozen BK164.out 3
                    have hfz21_4 := blk_frozen BK164.out 4
                    have hfz21_5 := blk_frozen BK164.out 5
                    have hfz21_6 := blk_frozen BK164.out 6
                    go_wp2_with (first | (go_at_call 43; (with_reducible refine (cadencyref04_in.calls a0_1 1 2147483647 true _ A10.out).mono ?_); rintro e w' ⟨rfl, ⟨nd, rfl⟩⟩) | (go_at_call 43; (with_reducible refine (cadencyref04_in.calls a0_2 1 2147483647 true _ A12.out).mono ?_); rintro e w' ⟨rfl, ⟨nd, rfl⟩⟩) | (go_at_call 43; (with_reducible refine (cadencyref04_in.calls a0_3 1 2147483647 true _ A14.out).mono ?_); rintro e w' ⟨rfl, ⟨nd, rfl⟩⟩) | (go_at_call 43; (with_reducible refine (cadencyref04_in.calls a0_5 1 2147483647 true _ A16.out).mono ?_); rintro e w' ⟨rfl, ⟨nd, rfl⟩⟩) | (go_at_call 43; (with_reducible refine (cadencyref04_in.calls a0_4 0 2147483647 true _ A18.out).mono ?_); rintro e w' ⟨rfl, ⟨nd, rfl⟩⟩))
                    go_meet
                    case rel => exact ⟨_, (true), (by first | rfl | (simp; done) | (simp [*]; done)), H', ⟨by first | omega | exact Nat.le_refl _⟩, ⟨by (with_reducible repeat (first | refine blk_drewN ?_ _ | refine blk_drew ?_ | refine blk_alloc ?_ _)); exact BK164.out⟩, ⟨by repeat (first | (with_reducible first | exact HB.out | apply below_alloc | apply pw_below_drewN | apply below_drew1 | refine below_set ?_ GE164.out) | exact HB.out)⟩⟩
                  · rw [if_neg c20] at H
                    have c20b0 : decide (a0_6 < 1) = false := decide_eq_false c20
                    clear c20
                    have H' := Aside0.mk H
                    clear H
                    have hcz22_0 : w6.cell? ⟨gb164, 0, none⟩ = some (.string a0_0) := (blk_cell BK164.out 0).trans rfl
                    have hcz22_1 : w6.cell? ⟨gb164, 1, none⟩ = some (.int .i64 a0_1) := (blk_cell BK164.out 1).trans rfl
                    have hcz22_2 : w6.cell? ⟨gb164, 2, none⟩ = some (.int .i64 a0_2) := (blk_cell BK164.out 2).trans rfl
                    have hcz22_3 : w6.cell? ⟨gb164, 3, none⟩ = some (.int .i64 a0_3) := (blk_cell BK164.out 3).trans rfl
                    have hcz22_4 : w6.cell? ⟨gb164, 4, none⟩ = some (.int .i64 a0_4) := (blk_cell BK164.out 4).trans rfl
                    have hcz22_5 : w6.cell? ⟨gb164, 5, none⟩ = some (.int .i64 a0_5) := (blk_cell BK164.out 5).trans rfl
                    have hcz22_6 : w6.cell? ⟨gb164, 6, none⟩ = some (.int .i64 a0_6) := (blk_cell BK164.out 6).trans rfl
                    have hfz22_0 := blk_frozen BK164.out 0
                    have hfz22_1 := blk_frozen BK164.out 1
                    have hfz22_2 := blk_frozen BK164.out 2
                    have hfz22_3 := blk_frozen BK164.out 3
                    have hfz22_4 := blk_frozen BK164.out 4
                    have hfz22_5 := blk_frozen BK164.out 5
                    have hfz22_6 := blk_frozen BK164.out 6
                    go_wp2_with (first | (go_at_call 43; (with_reducible refine (cadencyref04_in.calls a0_1 1 2147483647 true _ A10.out).mono ?_); rintro e w' ⟨rfl, ⟨nd, rfl⟩⟩) | (go_at_call 43; (with_reducible refine (cadencyref04_in.calls a0_2 1 2147483647 true _ A12.out).mono ?_); rintro e w' ⟨rfl, ⟨nd, rfl⟩⟩) | (go_at_call 43; (with_reducible refine (cadencyref04_in.calls a0_3 1 2147483647 true _ A14.out).mono ?_); rintro e w' ⟨rfl, ⟨nd, rfl⟩⟩) | (go_at_call 43; (with_reducible refine (cadencyref04_in.calls a0_5 1 2147483647 true _ A16.out).mono ?_); rintro e w' ⟨rfl, ⟨nd, rfl⟩⟩) | (go_at_call 43; (with_reducible refine (cadencyref04_in.calls a0_4 0 2147483647 true _ A18.out).mono ?_); rintro e w' ⟨rfl, ⟨nd, rfl⟩⟩))
                    go_meet
                    case rel => exact ⟨_, (decide (a0_6 > 1048576)), (by first | rfl | (simp; done) | (simp [*]; done)), H', ⟨by first | omega | exact Nat.le_refl _⟩, ⟨by (with_reducible repeat (first | refine blk_drewN ?_ _ | refine blk_drew ?_ | refine blk_alloc ?_ _)); exact BK164.out⟩, ⟨by repeat (first | (with_reducible first | exact HB.out | apply below_alloc | apply pw_below_drewN | apply below_drew1 | refine below_set ?_ GE164.out) | exact HB.out)⟩⟩
                · replace c19 := Bool.eq_false_iff.mpr c19
                  subst c19
                  have H1 : (cadencyref04_Check.j0 k true a0_0 a0_1 a0_2 a0_3 a0_4 a0_5 a0_6) = some r := by rw [if_neg (show ¬ (false = true) by decide)] at H; exact H
                  clear H
                  have H := H1
                  clear H1
                  have H' := Aside0.mk H
                  clear H
                  have hcz23_0 : w6.cell? ⟨gb164, 0, none⟩ = some (.string a0_0) := (blk_cell BK164.out 0).trans rfl
                  have hcz23_1 : w6.cell? ⟨gb164, 1, none⟩ = some (.int .i64 a0_1) := (blk_cell BK164.out 1).trans rfl
                  have hcz23_2 : w6.cell? ⟨gb164, 2, none⟩ = some (.int .i64 a0_2) := (blk_cell BK164.out 2).trans rfl
                  have hcz23_3 : w6.cell? ⟨gb164, 3, none⟩ = some (.int .i64 a0_3) := (blk_cell BK164.out 3).trans rfl
                  have hcz23_4 : w6.cell? ⟨gb164, 4, none⟩ = some (.int .i64 a0_4) := (blk_cell BK164.out 4).trans rfl
                  have hcz23_5 : w6.cell? ⟨gb164, 5, none⟩ = some (.int .i64 a0_5) := (blk_cell BK164.out 5).trans rfl
                  have hcz23_6 : w6.cell? ⟨gb164, 6, none⟩ = some (.int .i64 a0_6) := (blk_cell BK164.out 6).trans rfl
                  have hfz23_0 := blk_frozen BK164.out 0
                  have hfz23_1 := blk_frozen BK164.out 1
                  have hfz23_2 := blk_frozen BK164.out 2
                  have hfz23_3 := blk_frozen BK164.out 3
                  have hfz23_4 := blk_frozen BK164.out 4
                  have hfz23_5 := blk_frozen BK164.out 5
                  have hfz23_6 := blk_frozen BK164.out 6
                  go_wp2_with (first | (go_at_call 43; (with_reducible refine (cadencyref04_in.calls a0_1 1 2147483647 true _ A10.out).mono ?_); rintro e w' ⟨rfl, ⟨nd, rfl⟩⟩) | (go_at_call 43; (with_reducible refine (cadencyref04_in.calls a0_2 1 2147483647 true _ A12.out).mono ?_); rintro e w' ⟨rfl, ⟨nd, rfl⟩⟩) | (go_at_call 43; (with_reducible refine (cadencyref04_in.calls a0_3 1 2147483647 true _ A14.out).mono ?_); rintro e w' ⟨rfl, ⟨nd, rfl⟩⟩) | (go_at_call 43; (with_reducible refine (cadencyref04_in.calls a0_5 1 2147483647 true _ A16.out).mono ?_); rintro e w' ⟨rfl, ⟨nd, rfl⟩⟩) | (go_at_call 43; (with_reducible refine (cadencyref04_in.calls a0_4 0 2147483647 false _ A18.out).mono ?_); rintro e w' ⟨rfl, ⟨nd, rfl⟩⟩))
                  go_meet
                  case rel => exact ⟨_, (true), (by first | rfl | (simp; done) | (simp [*]; done)), H', ⟨by first | omega | exact Nat.le_refl _⟩, ⟨by (with_reducible repeat (first | refine blk_drewN ?_ _ | refine blk_drew ?_ | refine blk_alloc ?_ _)); exact BK164.out⟩, ⟨by repeat (first | (with_reducible first | exact HB.out | apply below_alloc | apply pw_below_drewN | apply below_drew1 | refine below_set ?_ GE164.out) | exact HB.out)⟩⟩
              · replace c17 := Bool.eq_false_iff.mpr c17
                subst c17
                have H1 : (cadencyref04_Check.j0 k true a0_0 a0_1 a0_2 a0_3 a0_4 a0_5 a0_6) = some r := by rw [if_neg (show ¬ (false = true) by decide)] at H; exact H
                clear H
                have H := H1
                clear H1
                have H' := Aside0.mk H
                clear H
                have hcz24_0 : w6.cell? ⟨gb164, 0, none⟩ = some (.string a0_0) := (blk_cell BK164.out 0).trans rfl
                have hcz24_1 : w6.cell? ⟨gb164, 1, none⟩ = some (.int .i64 a0_1) := (blk_cell BK164.out 1).trans rfl
                have hcz24_2 : w6.cell? ⟨gb164, 2, none⟩ = some (.int .i64 a0_2) := (blk_cell BK164.out 2).trans rfl
                have hcz24_3 : w6.cell? ⟨gb164, 3, none⟩ = some (.int .i64 a0_3) := (blk_cell BK164.out 3).trans rfl
                have hcz24_4 : w6.cell? ⟨gb164, 4, none⟩ = some (.int .i64 a0_4) := (blk_cell BK164.out 4).trans rfl
                have hcz24_5 : w6.cell? ⟨gb164, 5, none⟩ = some (.int .i64 a0_5) := (blk_cell BK164.out 5).trans rfl
                have hcz24_6 : w6.cell? ⟨gb164, 6, none⟩ = some (.int .i64 a0_6) := (blk_cell BK164.out 6).trans rfl
                have hfz24_0 := blk_frozen BK164.out 0
                have hfz24_1 := blk_frozen BK164.out 1
                have hfz24_2 := blk_frozen BK164.out 2
                have hfz24_3 := blk_frozen BK164.out 3
                have hfz24_4 := blk_frozen BK164.out 4
                have hfz24_5 := blk_frozen BK164.out 5
                have hfz24_6 := blk_frozen BK164.out 6
                go_wp2_with (first | (go_at_call 43; (with_reducible refine (cadencyref04_in.calls a0_1 1 2147483647 true _ A10.out).mono ?_); rintro e w' ⟨rfl, ⟨nd, rfl⟩⟩) | (go_at_call 43; (with_reducible refine (cadencyref04_in.calls a0_2 1 2147483647 true _ A12.out).mono ?_); rintro e w' ⟨rfl, ⟨nd, rfl⟩⟩) | (go_at_call 43; (with_reducible refine (cadencyref04_in.calls a0_3 1 2147483647 true _ A14.out).mono ?_); rintro e w' ⟨rfl, ⟨nd, rfl⟩⟩) | (go_at_call 43; (with_reducible refine (cadencyref04_in.calls a0_5 1 2147483647 false _ A16.out).mono ?_); rintro e w' ⟨rfl, ⟨nd, rfl⟩⟩))
                go_meet
                case rel => exact ⟨_, (true), (by first | rfl | (simp; done) | (simp [*]; done)), H', ⟨by first | omega | exact Nat.le_refl _⟩, ⟨by (with_reducible repeat (first | refine blk_drewN ?_ _ | refine blk_drew ?_ | refine blk_alloc ?_ _)); exact BK164.out⟩, ⟨by repeat (first | (with_reducible first | exact HB.out | apply below_alloc | apply pw_below_drewN | apply below_drew1 | refine below_set ?_ GE164.out) | exact HB.out)⟩⟩
            · replace c15 := Bool.eq_false_iff.mpr c15
              subst c15
              have H1 : (cadencyref04_Check.j0 k true a0_0 a0_1 a0_2 a0_3 a0_4 a0_5 a0_6) = some r := by rw [if_neg (show ¬ (false = true) by decide)] at H; exact H
              clear H
              have H := H1
              clear H1
              have H' := Aside0.mk H
              clear H
              have hcz25_0 : w6.cell? ⟨gb164, 0, none⟩ = some (.string a0_0) := (blk_cell BK164.out 0).trans rfl
              have hcz25_1 : w6.cell? ⟨gb164, 1, none⟩ = some (.int .i64 a0_1) := (blk_cell BK164.out 1).trans rfl
              have hcz25_2 : w6.cell? ⟨gb164, 2, none⟩ = some (.int .i64 a0_2) := (blk_cell BK164.out 2).trans rfl
              have hcz25_3 : w6.cell? ⟨gb164, 3, none⟩ = some (.int .i64 a0_3) := (blk_cell BK164.out 3).trans rfl
              have hcz25_4 : w6.cell? ⟨gb164, 4, none⟩ = some (.int .i64 a0_4) := (blk_cell BK164.out 4).trans rfl
              have hcz25_5 : w6.cell? ⟨gb164, 5, none⟩ = some (.int .i64 a0_5) := (blk_cell BK164.out 5).trans rfl
              have hcz25_6 : w6.cell? ⟨gb164, 6, none⟩ = some (.int .i64 a0_6) := (blk_cell BK164.out 6).trans rfl
              have hfz25_0 := blk_frozen BK164.out 0
              have hfz25_1 := blk_frozen BK164.out 1
              have hfz25_2 := blk_frozen BK164.out 2
              have hfz25_3 := blk_frozen BK164.out 3
              have hfz25_4 := blk_frozen BK164.out 4
              have hfz25_5 := blk_frozen BK164.out 5
              have hfz25_6 := blk_frozen BK164.out 6
              go_wp2_with (first | (go_at_call 43; (with_reducible refine (cadencyref04_in.calls a0_1 1 2147483647 true _ A10.out).mono ?_); rintro e w' ⟨rfl, ⟨nd, rfl⟩⟩) | (go_at_call 43; (with_reducible refine (cadencyref04_in.calls a0_2 1 2147483647 true _ A12.out).mono ?_); rintro e w' ⟨rfl, ⟨nd, rfl⟩⟩) | (go_at_call 43; (with_reducible refine (cadencyref04_in.calls a0_3 1 2147483647 false _ A14.out).mono ?_); rintro e w' ⟨rfl, ⟨nd, rfl⟩⟩))
              go_meet
              case rel => exact ⟨_, (true), (by first | rfl | (simp; done) | (simp [*]; done)), H', ⟨by first | omega | exact Nat.le_refl _⟩, ⟨by (with_reducible repeat (first | refine blk_drewN ?_ _ | refine blk_drew ?_ | refine blk_alloc ?_ _)); exact BK164.out⟩, ⟨by repeat (first | (with_reducible first | exact HB.out | apply below_alloc | apply pw_below_drewN | apply below_drew1 | refine below_set ?_ GE164.out) | exact HB.out)⟩⟩
          · replace c13 := Bool.eq_false_iff.mpr c13
            subst c13
            have H1 : (cadencyref04_Check.j0 k true a0_0 a0_1 a0_2 a0_3 a0_4 a0_5 a0_6) = some r := by rw [if_neg (show ¬ (false = true) by decide)] at H; exact H
            clear H
            have H := H1
            clear H1
            have H' := Aside0.mk H
            clear H
            have hcz26_0 : w6.cell? ⟨gb164, 0, none⟩ = some (.string a0_0) := (blk_cell BK164.out 0).trans rfl
            have hcz26_1 : w6.cell? ⟨gb164, 1, none⟩ = some (.int .i64 a0_1) := (blk_cell BK164.out 1).trans rfl
            have hcz26_2 : w6.cell? ⟨gb164, 2, none⟩ = some (.int .i64 a0_2) := (blk_cell BK164.out 2).trans rfl
            have hcz26_3 : w6.cell? ⟨gb164, 3, none⟩ = some (.int .i64 a0_3) := (blk_cell BK164.out 3).trans rfl
            have hcz26_4 : w6.cell? ⟨gb164, 4, none⟩ = some (.int .i64 a0_4) := (blk_cell BK164.out 4).trans rfl
            have hcz26_5 : w6.cell? ⟨gb164, 5, none⟩ = some (.int .i64 a0_5) := (blk_cell BK164.out 5).trans rfl
            have hcz26_6 : w6.cell? ⟨gb164, 6, none⟩ = some (.int .i64 a0_6) := (blk_cell BK164.out 6).trans rfl
            have hfz26_0 := blk_frozen BK164.out 0
            have hfz26_1 := blk_frozen BK164.out 1
            have hfz26_2 := blk_frozen BK164.out 2
            have hfz26_3 := blk_frozen BK164.out 3
            have hfz26_4 := blk_frozen BK164.out 4
            have hfz26_5 := blk_frozen BK164.out 5
            have hfz26_6 := blk_frozen BK164.out 6
            go_wp2_with (first | (go_at_call 43; (with_reducible refine (cadencyref04_in.calls a0_1 1 2147483647 true _ A10.out).mono ?_); rintro e w' ⟨rfl, ⟨nd, rfl⟩⟩) | (go_at_call 43; (with_reducible refine (cadencyref04_in.calls a0_2 1 2147483647 false _ A12.out).mono ?_); rintro e w' ⟨rfl, ⟨nd, rfl⟩⟩))
            go_meet
            case rel => exact ⟨_, (true), (by first | rfl | (simp; done) | (simp [*]; done)), H', ⟨by first | omega | exact Nat.le_refl _⟩, ⟨by (with_reducible repeat (first | refine blk_drewN ?_ _ | refine blk_drew ?_ | refine blk_alloc ?_ _)); exact BK164.out⟩, ⟨by repeat (first | (with_reducible first | exact HB.out | apply below_alloc | apply pw_below_drewN | apply below_drew1 | refine below_set ?_ GE164.out) | exact HB.out)⟩⟩
        · replace c11 := Bool.eq_false_iff.mpr c11
          subst c11
          have H1 : (cadencyref04_Check.j0 k true a0_0 a0_1 a0_2 a0_3 a0_4 a0_5 a0_6) = some r := by rw [if_neg (show ¬ (false = true) by decide)] at H; exact H
          clear H
          have H := H1
          clear H1
          have H' := Aside0.mk H
          clear H
          have hcz27_0 : w6.cell? ⟨gb164, 0, none⟩ = some (.string a0_0) := (blk_cell BK164.out 0).trans rfl
          have hcz27_1 : w6.cell? ⟨gb164, 1, none⟩ = some (.int .i64 a0_1) := (blk_cell BK164.out 1).trans rfl
          have hcz27_2 : w6.cell? ⟨gb164, 2, none⟩ = some (.int .i64 a0_2) := (blk_cell BK164.out 2).trans rfl
          have hcz27_3 : w6.cell? ⟨gb164, 3, none⟩ = some (.int .i64 a0_3) := (blk_cell BK164.out 3).trans rfl
          have hcz27_4 : w6.cell? ⟨gb164, 4, none⟩ = some (.int .i64 a0_4) := (blk_cell BK164.out 4).trans rfl
          have hcz27_5 : w6.cell? ⟨gb164, 5, none⟩ = some (.int .i64 a0_5) := (blk_cell BK164.out 5).trans rfl
          have hcz27_6 : w6.cell? ⟨gb164, 6, none⟩ = some (.int .i64 a0_6) := (blk_cell BK164.out 6).trans rfl
          have hfz27_0 := blk_frozen BK164.out 0
          have hfz27_1 := blk_frozen BK164.out 1
          have hfz27_2 := blk_frozen BK164.out 2
          have hfz27_3 := blk_frozen BK164.out 3
          have hfz27_4 := blk_frozen BK164.out 4
          have hfz27_5 := blk_frozen BK164.out 5
          have hfz27_6 := blk_frozen BK164.out 6
          go_wp2_with (first | (go_at_call 43; (with_reducible refine (cadencyref04_in.calls a0_1 1 2147483647 false _ A10.out).mono ?_); rintro e w' ⟨rfl, ⟨nd, rfl⟩⟩))
          go_meet
          case rel => exact ⟨_, (true), (by first | rfl | (simp; done) | (simp [*]; done)), H', ⟨by first | omega | exact Nat.le_refl _⟩, ⟨by (with_reducible repeat (first | refine blk_drewN ?_ _ | refine blk_drew ?_ | refine blk_alloc ?_ _)); exact BK164.out⟩, ⟨by repeat (first | (with_reducible first | exact HB.out | apply below_alloc | apply pw_below_drewN | apply below_drew1 | refine below_set ?_ GE164.out) | exact HB.out)⟩⟩
    · replace c7 := Bool.eq_false_iff.mpr c7
      subst c7
      have H1 : (cadencyref04_Check.j0 k true a0_0 a0_1 a0_2 a0_3 a0_4 a0_5 a0_6) = some r := by rw [if_neg (show ¬ (false = true) by decide)] at H; exact H
      clear H
      have H := H1
      clear H1
      have H' := Aside0.mk H
      clear H
      go_wp2
      go_meet
      case rel => exact ⟨_, (true), (by first | rfl | (simp; done) | (simp [*]; done)), H', ⟨by first | omega | exact Nat.le_refl _⟩, ⟨by (with_reducible repeat (first | refine blk_drewN ?_ _ | refine blk_drew ?_ | refine blk_alloc ?_ _)); exact BK164.out⟩, ⟨by repeat (first | (with_reducible first | exact HB.out | apply below_alloc | apply pw_below_drewN | apply below_drew1 | refine below_set ?_ GE164.out) | exact HB.out)⟩⟩
  case rest =>
    clear HC3
    try clear c1
    try clear c2
    try clear p2
    try clear c3
    try clear c4
    try clear c7
    try clear c8
    try clear c8b0
    try clear c8b1
    try clear c11
    try clear c13
    try clear c15
    try clear c17
    try clear c19
    try clear c20
    try clear c20b0
    try clear hcz21_0
    try clear hcz21_1
    try clear hcz21_2
    try clear hcz21_3
    try clear hcz21_4
    try clear hcz21_5
    try clear hcz21_6
    try clear hcz22_0
    try clear hcz22_1
    try clear hcz22_2
    try clear hcz22_3
    try clear hcz22_4
    try clear hcz22_5
    try clear hcz22_6
    try clear hcz23_0
    try clear hcz23_1
    try clear hcz23_2
    try clear hcz23_3
    try clear hcz23_4
    try clear hcz23_5
    try clear hcz23_6
    try clear hcz24_0
    try clear hcz24_1
    try clear hcz24_2
    try clear hcz24_3
    try clear hcz24_4
    try clear hcz24_5
    try clear hcz24_6
    try clear hcz25_0
    try clear hcz25_1
    try clear hcz25_2
    try clear hcz25_3
    try clear hcz25_4
    try clear hcz25_5
    try clear hcz25_6
    try clear hcz26_0
    try clear hcz26_1
    try clear hcz26_2
    try clear hcz26_3
    try clear hcz26_4
    try clear hcz26_5
    try clear hcz26_6
    try clear hcz27_0
    try clear hcz27_1
    try clear hcz27_2
    try clear hcz27_3
    try clear hcz27_4
    try clear hcz27_5
    try clear hcz27_6
    try clear hcz5_0
    try clear hcz5_1
    try clear hcz5_2
    try clear hcz5_3
    try clear hcz5_4
    try clear hcz5_5
    try clear hcz5_6
    try clear hcz9_0
    try clear hcz9_1
    try clear hcz9_2
    try clear hcz9_3
    try clear hcz9_4
    try clear hcz9_5
    try clear hcz9_6
    try clear hfz21_0
    try clear hfz21_1
    try clear hfz21_2
    try clear hfz21_3
    try clear hfz21_4
    try clear hfz21_5
    try clear hfz21_6
    try clear hfz22_0
    try clear hfz22_1
    try clear hfz22_2
    try clear hfz22_3
    try clear hfz22_4
    try clear hfz22_5
    try clear hfz22_6
    try clear hfz23_0
    try clear hfz23_1
    try clear hfz23_2
    try clear hfz23_3
    try clear hfz23_4
    try clear hfz23_5
    try clear hfz23_6
    try clear hfz24_0
    try clear hfz24_1
    try clear hfz24_2
    try clear hfz24_3
    try clear hfz24_4
    try clear hfz24_5
    try clear hfz24_6
    try clear hfz25_0
    try clear hfz25_1
    try clear hfz25_2
    try clear hfz25_3
    try clear hfz25_4
    try clear hfz25_5
    try clear hfz25_6
    try clear hfz26_0
    try clear hfz26_1
    try clear hfz26_2
    try clear hfz26_3
    try clear hfz26_4
    try clear hfz26_5
    try clear hfz26_6
    try clear hfz27_0
    try clear hfz27_1
    try clear hfz27_2
    try clear hfz27_3
    try clear hfz27_4
    try clear hfz27_5
    try clear hfz27_6
    try clear hfz5_0
    try clear hfz5_1
    try clear hfz5_2
    try clear hfz5_3
    try clear hfz5_4
    try clear hfz5_5
    try clear hfz5_6
    try clear hfz9_0
    try clear hfz9_1
    try clear hfz9_2
    try clear hfz9_3
    try clear hfz9_4
    try clear hfz9_5
    try clear hfz9_6
    obtain ⟨kq, x60_2, rfl, HA, HJ2, BK164, HB⟩ := hcut
    cases kq with
    | zero => exact absurd HA.out (by simp [cadencyref04_Check.j0])
    | succ kj2 =>
      have H := HA.out
      clear HA
      simp only [cadencyref04_Check.j0] at H
      by_cases c28 : x60_2 = true
      · subst c28
        have H1 : (some 11) = some r := by rw [if_pos rfl] at H; exact H
        clear H
        have H := H1
        clear H1
        obtain rfl := Option.some.inj H
        go_wp2
        go_ret
        exact ⟨by first | rfl | (simp [errW_none, errW_some] <;> rfl) | (simp [*, errW_none, errW_some] <;> rfl), by repeat (first | (with_reducible first | exact HB.out | apply below_alloc | apply pw_below_drewN | apply below_drew1 | refine below_set ?_ GE164.out) | exact HB.out)⟩
      · replace c28 := Bool.eq_false_iff.mpr c28
        subst c28
        have H1 : (if a0_5 > a0_1 then (some 12) else (if (wrap64 (a0_1 + a0_4)) > a0_3 then (some 12) else (if a0_3 > a0_2 then (some 12) else (some 0)))) = some r := by rw [if_neg (show ¬ (false = true) by decide)] at H; exact H
        clear H
        have H := H1
        clear H1
        by_cases c29 : a0_5 > a0_1
        · rw [if_pos c29] at H
          have c29b0 : decide (a0_1 < a0_5) = true := decide_eq_true c29
          clear c29
          obtain rfl := Option.some.inj H
          have hcz30_0 : wc.cell? ⟨gb164, 0, none⟩ = some (.string a0_0) := (blk_cell BK164.out 0).trans rfl
          have hcz30_1 : wc.cell? ⟨gb164, 1, none⟩ = some (.int .i64 a0_1) := (blk_cell BK164.out 1).trans rfl
          have hcz30_2 : wc.cell? ⟨gb164, 2, none⟩ = some (.int .i64 a0_2) := (blk_cell BK164.out 2).trans rfl
          have hcz30_3 : wc.cell? ⟨gb164, 3, none⟩ = some (.int .i64 a0_3) := (blk_cell BK164.out 3).trans rfl
          have hcz30_4 : wc.cell? ⟨gb164, 4, none⟩ = some (.int .i64 a0_4) := (blk_cell BK164.out 4).trans rfl
          have hcz30_5 : wc.cell? ⟨gb164, 5, none⟩ = some (.int .i64 a0_5) := (blk_cell BK164.out 5).trans rfl
          have hcz30_6 : wc.cell? ⟨gb164, 6, none⟩ = some (.int .i64 a0_6) := (blk_cell BK164.out 6).trans rfl
          have hfz30_0 := blk_frozen BK164.out 0
          have hfz30_1 := blk_frozen BK164.out 1
          have hfz30_2 := blk_frozen BK164.out 2
          have hfz30_3 := blk_frozen BK164.out 3
          have hfz30_4 := blk_frozen BK164.out 4
          have hfz30_5 := blk_frozen BK164.out 5
          have hfz30_6 := blk_frozen BK164.out 6
          go_wp2
          go_ret
          exact ⟨by first | rfl | (simp [errW_none, errW_some] <;> rfl) | (simp [*, errW_none, errW_some] <;> rfl), by repeat (first | (with_reducible first | exact HB.out | apply below_alloc | apply pw_below_drewN | apply below_drew1 | refine below_set ?_ GE164.out) | exact HB.out)⟩
        · rw [if_neg c29] at H
          have c29b0 : decide (a0_1 < a0_5) = false := decide_eq_false c29
          clear c29
          by_cases c31 : (wrap64 (a0_1 + a0_4)) > a0_3
          · rw [if_pos c31] at H
            have c31b0 : decide (a0_3 < (wrap64 (a0_1 + a0_4))) = true := decide_eq_true c31
            clear c31
            obtain rfl := Option.some.inj H
            have hcz32_0 : wc.cell? ⟨gb164, 0, none⟩ = some (.string a0_0) := (blk_cell BK164.out 0).trans rfl
            have hcz32_1 : wc.cell? ⟨gb164, 1, none⟩ = some (.int .i64 a0_1) := (blk_cell BK164.out 1).trans rfl
            have hcz32_2 : wc.cell? ⟨gb164, 2, none⟩ = some (.int .i64 a0_2) := (blk_cell BK164.out 2).trans rfl
            have hcz32_3 : wc.cell? ⟨gb164, 3, none⟩ = some (.int .i64 a0_3) := (blk_cell BK164.out 3).trans rfl
            have hcz32_4 : wc.cell? ⟨gb164, 4, none⟩ = some (.int .i64 a0_4) := (blk_cell BK164.out 4).trans rfl
            have hcz32_5 : wc.cell? ⟨gb164, 5, none⟩ = some (.int .i64 a0_5) := (blk_cell BK164.out 5).trans rfl
            have hcz32_6 : wc.cell? ⟨gb164, 6, none⟩ = some (.int .i64 a0_6) := (blk_cell BK164.out 6).trans rfl
            have hfz32_0 := blk_frozen BK164.out 0
            have hfz32_1 := blk_frozen BK164.out 1
            have hfz32_2 := blk_frozen BK164.out 2
            have hfz32_3 := blk_frozen BK164.out 3
            have hfz32_4 := blk_frozen BK164.out 4
            have hfz32_5 := blk_frozen BK164.out 5
            have hfz32_6 := blk_frozen BK164.out 6
            go_wp2
            go_ret
            exact ⟨by first | rfl | (simp [errW_none, errW_some] <;> rfl) | (simp [*, errW_none, errW_some] <;> rfl), by repeat (first | (with_reducible first | exact HB.out | apply below_alloc | apply pw_below_drewN | apply below_drew1 | refine below_set ?_ GE164.out) | exact HB.out)⟩
          · rw [if_neg c31] at H
            have c31b0 : decide (a0_3 < (wrap64 (a0_1 + a0_4))) = false := decide_eq_false c31
            clear c31
            by_cases c33 : a0_3 > a0_2
            · rw [if_pos c33] at H
              have c33b0 : decide (a0_2 < a0_3) = true := decide_eq_true c33
              clear c33
              obtain rfl := Option.some.inj H
              have hcz34_0 : wc.cell? ⟨gb164, 0, none⟩ = some (.string a0_0) := (blk_cell BK164.out 0).trans rfl
              have hcz34_1 : wc.cell? ⟨gb164, 1, none⟩ = some (.int .i64 a0_1) := (blk_cell BK164.out 1).trans rfl
              have hcz34_2 : wc.cell? ⟨gb164, 2, none⟩ = some (.int .i64 a0_2) := (blk_cell BK164.out 2).trans rfl
              have hcz34_3 : wc.cell? ⟨gb164, 3, none⟩ = some (.int .i64 a0_3) := (blk_cell BK164.out 3).trans rfl
              have hcz34_4 : wc.cell? ⟨gb164, 4, none⟩ = some (.int .i64 a0_4) := (blk_cell BK164.out 4).trans rfl
              have hcz34_5 : wc.cell? ⟨gb164, 5, none⟩ = some (.int .i64 a0_5) := (blk_cell BK164.out 5).trans rfl
              have hcz34_6 : wc.cell? ⟨gb164, 6, none⟩ = some (.int .i64 a0_6) := (blk_cell BK164.out 6).trans rfl
              have hfz34_0 := blk_frozen BK164.out 0
              have hfz34_1 := blk_frozen BK164.out 1
              have hfz34_2 := blk_frozen BK164.out 2
              have hfz34_3 := blk_frozen BK164.out 3
              have hfz34_4 := blk_frozen BK164.out 4
              have hfz34_5 := blk_frozen BK164.out 5
              have hfz34_6 := blk_frozen BK164.out 6
              go_wp2
              go_ret
              exact ⟨by first | rfl | (simp [errW_none, errW_some] <;> rfl) | (simp [*, errW_none, errW_some] <;> rfl), by repeat (first | (with_reducible first | exact HB.out | apply below_alloc | apply pw_below_drewN | apply below_drew1 | refine below_set ?_ GE164.out) | exact HB.out)⟩
            · rw [if_neg c33] at H
              have c33b0 : decide (a0_2 < a0_3) = false := decide_eq_false c33
              clear c33
              obtain rfl := Option.some.inj H
              have hcz35_0 : wc.cell? ⟨gb164, 0, none⟩ = some (.string a0_0) := (blk_cell BK164.out 0).trans rfl
              have hcz35_1 : wc.cell? ⟨gb164, 1, none⟩ = some (.int .i64 a0_1) := (blk_cell BK164.out 1).trans rfl
              have hcz35_2 : wc.cell? ⟨gb164, 2, none⟩ = some (.int .i64 a0_2) := (blk_cell BK164.out 2).trans rfl
              have hcz35_3 : wc.cell? ⟨gb164, 3, none⟩ = some (.int .i64 a0_3) := (blk_cell BK164.out 3).trans rfl
              have hcz35_4 : wc.cell? ⟨gb164, 4, none⟩ = some (.int .i64 a0_4) := (blk_cell BK164.out 4).trans rfl
              have hcz35_5 : wc.cell? ⟨gb164, 5, none⟩ = some (.int .i64 a0_5) := (blk_cell BK164.out 5).trans rfl
              have hcz35_6 : wc.cell? ⟨gb164, 6, none⟩ = some (.int .i64 a0_6) := (blk_cell BK164.out 6).trans rfl
              have hfz35_0 := blk_frozen BK164.out 0
              have hfz35_1 := blk_frozen BK164.out 1
              have hfz35_2 := blk_frozen BK164.out 2
              have hfz35_3 := blk_frozen BK164.out 3
              have hfz35_4 := blk_frozen BK164.out 4
              have hfz35_5 := blk_frozen BK164.out 5
              have hfz35_6 := blk_frozen BK164.out 6
              go_wp2
              go_ret
              exact ⟨by first | rfl | (simp [errW_none, errW_some] <;> rfl) | (simp [*, errW_none, errW_some] <;> rfl), by repeat (first | (with_reducible first | exact HB.out | apply below_alloc | apply pw_below_drewN | apply below_drew1 | refine below_set ?_ GE164.out) | exact HB.out)⟩

end Go.Proofs.Ytcdmgalhboijcaa.D
