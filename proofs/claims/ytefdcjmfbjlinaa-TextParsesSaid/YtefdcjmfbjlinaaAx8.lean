-- written by a program (wip/dev/print2.sh): functions of the program as plain Lean, with their contracts
import Derived.Test.YtefdcjmfbjlinaaAx0
import Derived.Test.YtefdcjmfbjlinaaAx1
import Derived.Test.YtefdcjmfbjlinaaAx7
import Derived.Test.YtefdcjmfbjlinaaGivT
import Derived.Test.YtefdcjmfbjlinaaGivB
namespace Go.Proofs.Ytefdcjmfbjlinaa.A
open Go.RowKit Go.Proofs.YtefdcjmfbjlinaaW.PrintWords Go.Proofs.YtefdcjmfbjlinaaW.PrintLast Go.Proofs.YtefdcjmfbjlinaaW.PrintMore
set_option linter.unusedVariables false
set_option linter.unusedSimpArgs false

attribute [local go_sem high] eqA33
/-! ### cadencyref04_CheckAll: function 32 -/
mutual
def cadencyref04_CheckAll.j0 : Nat → List (S33) → Bool → Option (Int × Int)
  | 0, _, _ => none
  | k + 1, x0, x13 => if x13 = true then (some (0, 14)) else (cadencyref04_CheckAll.l0 k x0 0)
def cadencyref04_CheckAll.l0 : Nat → List (S33) → Int → Option (Int × Int)
  | 0, _, _ => none
  | k + 1, x0, x3 => if x3 < (x0.length : Int) then (if 0 ≤ x3 then ((cadencyref04_Check.f k ((rd_T33 x0 x3).f0) ((rd_T33 x0 x3).f1) ((rd_T33 x0 x3).f2) ((rd_T33 x0 x3).f3) ((rd_T33 x0 x3).f4) ((rd_T33 x0 x3).f5) ((rd_T33 x0 x3).f6)).bind fun t207 => (if t207 = 0 then (cadencyref04_CheckAll.l1 k x0 x3 0) else (some (x3, t207)))) else (none)) else (some ((x0.length : Int), 0))
def cadencyref04_CheckAll.l1 : Nat → List (S33) → Int → Int → Option (Int × Int)
  | 0, _, _, _ => none
  | k + 1, x0, x3, x5 => if x5 < x3 then (if 0 ≤ x5 then (if x5 < (x0.length : Int) then (if 0 ≤ x3 then (if x3 < (x0.length : Int) then (if ((rd_T33 x0 x5).f0).toList = ((rd_T33 x0 x3).f0).toList then (some (x3, 13)) else (if ((rd_T33 x0 x5).f6) = ((rd_T33 x0 x3).f6) then (some (x3, 13)) else (cadencyref04_CheckAll.l1 k x0 x3 (wrap64 (x5 + 1))))) else (none)) else (none)) else (none)) else (none)) else (cadencyref04_CheckAll.l0 k x0 (wrap64 (x3 + 1)))
end
def cadencyref04_CheckAll.f (k : Nat) (l0 : List (S33)) : Option (Int × Int) := if (l0.length : Int) = 0 then (cadencyref04_CheckAll.j0 k l0 true) else (cadencyref04_CheckAll.j0 k l0 (decide ((l0.length : Int) > 1024)))
set_option maxHeartbeats 8000000 in
set_option maxRecDepth 100000 in
theorem cadencyref04_CheckAll.calls (k : Nat) (A0 : Option Addr) (c0 : Nat) (l0 : List (S33)) (r1 : Int) (r2 : Int) (w : World) (hr0 : Kd.C k33 w A0 l0.length l0) (hc0 : l0.length ≤ c0) (h : cadencyref04_CheckAll.f k l0 = some (r1, r2)) :
    Calls Try.prog 32 #[.slice A0 l0.length c0] w fun e w' => e = .returned (.agg #[.int .i64 r1, .int .i64 r2]) ∧ Below w.heap.size w w' := by
  have hu74 := Try.underlying74
  have hu33 := Try.underlying33
  have HR0 := Aside0.mk hr0
  have HC0 := Aside0.mk hc0
  clear hr0 hc0
  have HB := Aside0.mk (Below.refl w.heap.size w)
  have H : (if (l0.length : Int) = 0 then (cadencyref04_CheckAll.j0 k l0 true) else (cadencyref04_CheckAll.j0 k l0 (decide ((l0.length : Int) > 1024)))) = some (r1, r2) := h
  clear h
  have HC2 := Aside0.mk H
  clear H
  go_enter Try.func32, Try.ntmps32
  go_upto_region 1 with (first | ((with_reducible refine gate_dst (N := 2) rfl ?_); (try (refine gate_guard (by rfl) ?_; dsimp only)); refine box_event ?hg (N := 2) ?hd (cs := #[.int .i64 0, .int .i64 0]) (t := 74) ?hr ?_; (case hd => rfl); (case hg => rfl); (case hr => first | (go_simp; done) | (go_simp; rfl)); intro gb205 hg w3 hbox hb; have n0_ := Aside0.mk (below_step (by repeat (first | (with_reducible first | exact HB.out | apply below_alloc | apply pw_below_drewN | apply below_drew1) | exact HB.out)) hb); have n1_ := Aside0.mk (hbox); have n2_ := Aside0.mk ((by rw [hg]; exact (below_size (by repeat (first | (with_reducible first | exact HB.out | apply below_alloc | apply pw_below_drewN | apply below_drew1) | exact HB.out))) : w.heap.size ≤ gb205)); have n3_ := Aside0.mk ((by rw [hg]; exact (below_size (by repeat (first | (with_reducible first | exact HB.out | apply below_alloc | apply pw_below_drewN | apply below_drew1) | exact HB.out))) : w.heap.size ≤ gb205)); clear HB; have HB := n0_; have BK205 := n1_; have GW205 := n2_; have GE205 := n3_; clear n0_ n1_ n2_ n3_; clear hb hbox hg))
  repeat (go_quiet (first | ((with_reducible refine gate_dst (N := 2) rfl ?_); (try (refine gate_guard (by rfl) ?_; dsimp only)); refine box_event ?hg (N := 2) ?hd (cs := #[.int .i64 0, .int .i64 0]) (t := 74) ?hr ?_; (case hd => rfl); (case hg => rfl); (case hr => first | (go_simp; done) | (go_simp; rfl)); intro gb205 hg w3 hbox hb; have n0_ := Aside0.mk (below_step (by repeat (first | (with_reducible first | exact HB.out | apply below_alloc | apply pw_below_drewN | apply below_drew1) | exact HB.out)) hb); have n1_ := Aside0.mk (hbox); have n2_ := Aside0.mk ((by rw [hg]; exact (below_size (by repeat (first | (with_reducible first | exact HB.out | apply below_alloc | apply pw_below_drewN | apply below_drew1) | exact HB.out))) : w.heap.size ≤ gb205)); have n3_ := Aside0.mk ((by rw [hg]; exact (below_size (by repeat (first | (with_reducible first | exact HB.out | apply below_alloc | apply pw_below_drewN | apply below_drew1) | exact HB.out))) : w.heap.size ≤ gb205)); clear HB; have HB := n0_; have BK205 := n1_; have GW205 := n2_; have GE205 := n3_; clear n0_ n1_ n2_ n3_; clear hb hbox hg)); go_upto_region 1 with (first | ((with_reducible refine gate_dst (N := 2) rfl ?_); (try (refine gate_guard (by rfl) ?_; dsimp only)); refine box_event ?hg (N := 2) ?hd (cs := #[.int .i64 0, .int .i64 0]) (t := 74) ?hr ?_; (case hd => rfl); (case hg => rfl); (case hr => first | (go_simp; done) | (go_simp; rfl)); intro gb205 hg w3 hbox hb; have n0_ := Aside0.mk (below_step (by repeat (first | (with_reducible first | exact HB.out | apply below_alloc | apply pw_below_drewN | apply below_drew1) | exact HB.out)) hb); have n1_ := Aside0.mk (hbox); have n2_ := Aside0.mk ((by rw [hg]; exact (below_size (by repeat (first | (with_reducible first | exact HB.out | apply below_alloc | apply pw_below_drewN | apply below_drew1) | exact HB.out))) : w.heap.size ≤ gb205)); have n3_ := Aside0.mk ((by rw [hg]; exact (below_size (by repeat (first | (with_reducible first | exact HB.out | apply below_alloc | apply pw_below_drewN | apply below_drew1) | exact HB.out))) : w.heap.size ≤ gb205)); clear HB; have HB := n0_; have BK205 := n1_; have GW205 := n2_; have GE205 := n3_; clear n0_ n1_ n2_ n3_; clear hb hbox hg)))
  (try simp only [Act.put, List.setIfInBounds_toArray, List.set_cons_zero, List.set_cons_succ])
  go_cut [13] (fun v13 wc => ∃ (kq : Nat) (x13_1 : Bool), v13 = .bool x13_1 ∧ Aside0 (cadencyref04_CheckAll.j0 kq l0 x13_1 = some (r1, r2)) ∧ Aside0 (kq ≤ k) ∧ Aside0 (wc.heap[gb205]? = some (.cells #[.int .i64 0, .int .i64 0] 74 (0, 0))) ∧ Aside0 (Below w.heap.size w wc))
  case first =>
    have H := HC2.out
    clear HC2
    by_cases c4 : (l0.length : Int) = 0
    · rw [if_pos c4] at H
      have c4b0 : ((l0.length : Int) == 0) = true := beq_iff_eq.mpr c4
      have c4b1 : ((l0.length : Int) != 0) = false := bne_eq_false_iff_eq.mpr c4
      clear c4
      (first | rw [c4b0] | (simp only [i64_w, i32_w]; rw [c4b0]) | skip)
      have H' := Aside0.mk H
      clear H
      go_wp2
      repeat (go_quiet (fail); try go_wp2)
      go_meet
      case rel => exact ⟨_, (true), (by first | rfl | (simp; done) | (simp [*]; done)), H', ⟨by first | omega | exact Nat.le_refl _⟩, ⟨by (with_reducible repeat (first | refine blk_drewN ?_ _ | refine blk_drew ?_ | refine blk_alloc ?_ _)); exact BK205.out⟩, ⟨by repeat (first | (with_reducible first | exact HB.out | apply below_alloc | apply pw_below_drewN | apply below_drew1 | refine below_set ?_ GE205.out) | exact HB.out)⟩⟩
    · rw [if_neg c4] at H
      have c4b0 : ((l0.length : Int) == 0) = false := beq_eq_false_iff_ne.mpr c4
      have c4b1 : ((l0.length : Int) != 0) = true := bne_iff_ne.mpr c4
      have c4b2 : ¬ (l0 = []) := fun h_ => c4 (by rw [h_]; rfl)
      (first | rw [c4b0] | (simp only [i64_w, i32_w]; rw [c4b0]) | skip)
      have H' := Aside0.mk H
      clear H
      go_wp2
      repeat (go_quiet (fail); try go_wp2)
      go_meet
      case rel => exact ⟨_, (decide ((l0.length : Int) > 1024)), (by first | rfl | (simp; done) | (simp [*]; done)), H', ⟨by first | omega | exact Nat.le_refl _⟩, ⟨by (with_reducible repeat (first | refine blk_drewN ?_ _ | refine blk_drew ?_ | refine blk_alloc ?_ _)); exact BK205.out⟩, ⟨by repeat (first | (with_reducible first | exact HB.out | apply below_alloc | apply pw_below_drewN | apply below_drew1 | refine below_set ?_ GE205.out) | exact HB.out)⟩⟩
  case rest =>
    clear HC2
    try clear p2
    try clear c3
    try clear c4
    try clear c4b0
    try clear c4b1
    try clear c4b2
    obtain ⟨kq, x13_1, rfl, HA, HJ1, BK205, HB⟩ := hcut
    cases kq with
    | zero => exact absurd HA.out (by simp [cadencyref04_CheckAll.j0])
    | succ kj1 =>
      have H := HA.out
      clear HA
      simp only [cadencyref04_CheckAll.j0] at H
      by_cases c5 : x13_1 = true
      · subst c5
        have H1 : (some (0, 14)) = some (r1, r2) := by rw [if_pos rfl] at H; exact H
        clear H
        have H := H1
        clear H1
        simp only [Option.some.injEq, Prod.mk.injEq] at H
        obtain ⟨rfl, rfl⟩ := H
        have hcz6_0 : wc.cell? ⟨gb205, 0, none⟩ = some (.int .i64 0) := (blk_cell BK205.out 0).trans rfl
        have hcz6_1 : wc.cell? ⟨gb205, 1, none⟩ = some (.int .i64 0) := (blk_cell BK205.out 1).trans rfl
        have hfz6_0 := blk_frozen BK205.out 0
        have hfz6_1 := blk_frozen BK205.out 1
        go_wp2
        repeat (go_quiet (fail); try go_wp2)
        refine bodyPost_ret (results_cell_row rfl _ _ gb205 74 #[.int .i64 0, .int .i64 14] (0, 0) _ rfl (by (with_reducible repeat (first | refine blk_drewN ?_ _ | refine blk_drew ?_ | refine blk_alloc ?_ _)); refine blk_put (cs := #[.int .i64 0, .int .i64 0]) ?_ 1 _ rfl; (with_reducible repeat (first | refine blk_drewN ?_ _ | refine blk_drew ?_ | refine blk_alloc ?_ _)); refine blk_put (cs := #[.int .i64 0, .int .i64 0]) ?_ 0 _ rfl; (with_reducible repeat (first | refine blk_drewN ?_ _ | refine blk_drew ?_ | refine blk_alloc ?_ _)); exact BK205.out) Try.underlying74 rfl (by kernel_rfl)) rfl ?_
        exact ⟨by first | rfl | (simp [errW_none, errW_some] <;> rfl) | (simp [*, errW_none, errW_some] <;> rfl), by repeat (first | (with_reducible first | exact HB.out | apply below_alloc | apply pw_below_drewN | apply below_drew1 | refine below_set ?_ GE205.out) | exact HB.out)⟩
      · replace c5 := Bool.eq_false_iff.mpr c5
        subst c5
        have H1 : (cadencyref04_CheckAll.l0 kj1 l0 0) = some (r1, r2) := by rw [if_neg (show ¬ (false = true) by decide)] at H; exact H
        clear H
        have H := H1
        clear H1
        have H' := Aside0.mk H
        clear H
        go_wp2
        repeat (go_quiet (fail); try go_wp2)
        go_loopg [3] kj1 (fun kq v3 w' => ∃ (x3_2 : Int) (x206000_2 : Int) (x206001_2 : Int), v3 = .int .i64 x3_2 ∧ Aside0 (cadencyref04_CheckAll.l0 kq l0 x3_2 = some (r1, r2)) ∧ Aside0 (kq ≤ kj1) ∧ Aside0 (w'.heap[gb205]? = some (.cells #[.int .i64 x206000_2, .int .i64 x206001_2] 74 (0, 0))) ∧ Aside0 (Below w.heap.size w w'))
        case atStart => exact ⟨(0), (0), (0), (by first | rfl | (simp; done) | (simp [*]; done)), H', ⟨Nat.le_refl _⟩, ⟨by (with_reducible repeat (first | refine blk_drewN ?_ _ | refine blk_drew ?_ | refine blk_alloc ?_ _)); exact BK205.out⟩, ⟨by repeat (first | (with_reducible first | exact HB.out | apply below_alloc | apply pw_below_drewN | apply below_drew1 | refine below_set ?_ GE205.out) | exact HB.out)⟩⟩
        case round =>
          clear H'
          try clear p2
          try clear c3
          try clear c4
          try clear c4b0
          try clear c4b1
          try clear c4b2
          try clear c5
          try clear hcz6_0
          try clear hcz6_1
          try clear hfz6_0
          try clear hfz6_1
          try clear p2
          obtain ⟨x3_2, x206000_2, x206001_2, rfl, HA, HK2, BK205, HB⟩ := hrel
          cases gk with
          | zero => exact absurd HA.out (by simp [cadencyref04_CheckAll.l0])
          | succ k2 =>
            have H := HA.out
            clear HA
            simp only [cadencyref04_CheckAll.l0] at H
            by_cases c7 : x3_2 < (l0.length : Int)
            · rw [if_pos c7] at H
              have c7b0 : decide (x3_2 < (l0.length : Int)) = true := decide_eq_true c7
              clear c7
              by_cases c8 : 0 ≤ x3_2
              rotate_left
              · rw [if_neg c8] at H
                exact absurd H (by simp)
              rw [if_pos c8] at H
              have c8b0 : decide (0 ≤ x3_2) = true := decide_eq_true c8
              clear c8
              replace H := Option.bind_eq_some_iff.mp H
              obtain ⟨t207, A90, H⟩ := H
              replace H : (if t207 = 0 then (cadencyref04_CheckAll.l1 k2 l0 x3_2 0) else (some (x3_2, t207))) = some (r1, r2) := H
              have A9 := Aside0.mk A90
              clear A90
              by_cases c10 : t207 = 0
              · rw [if_pos c10] at H
                have c10b0 : (t207 == 0) = true := beq_iff_eq.mpr c10
                have c10b1 : (t207 != 0) = false := bne_eq_false_iff_eq.mpr c10
                clear c10
                have H' := Aside0.mk H
                clear H
                have p206 : 0 ≤ (x3_2 : Int) := of_decide_eq_true (by first | (with_reducible assumption) | assumption)
                have q206 : x3_2 < (l0.length : Int) := of_decide_eq_true (by first | (with_reducible assumption) | assumption)
                obtain ⟨ad206, e206, hx206_0, hx206_1, hx206_2, hx206_3, hx206_4, hx206_5, hx206_6⟩ := at_T33 HR0.out x3_2 p206 q206
                cases e206
                replace hx206_0 := (HB.out.cell (World.block_lt_of_cell? w _ hx206_0)).trans hx206_0
                replace hx206_1 := (HB.out.cell (World.block_lt_of_cell? w _ hx206_1)).trans hx206_1
                replace hx206_2 := (HB.out.cell (World.block_lt_of_cell? w _ hx206_2)).trans hx206_2
                replace hx206_3 := (HB.out.cell (World.block_lt_of_cell? w _ hx206_3)).trans hx206_3
                replace hx206_4 := (HB.out.cell (World.block_lt_of_cell? w _ hx206_4)).trans hx206_4
                replace hx206_5 := (HB.out.cell (World.block_lt_of_cell? w _ hx206_5)).trans hx206_5
                replace hx206_6 := (HB.out.cell (World.block_lt_of_cell? w _ hx206_6)).trans hx206_6
                replace p206 := eq_true p206
                replace q206 := eq_true q206
                go_wp2_with (first | (go_at_call 42; (with_reducible refine (cadencyref04_Check.calls k2 ((rd_T33 l0 x3_2).f0) ((rd_T33 l0 x3_2).f1) ((rd_T33 l0 x3_2).f2) ((rd_T33 l0 x3_2).f3) ((rd_T33 l0 x3_2).f4) ((rd_T33 l0 x3_2).f5) ((rd_T33 l0 x3_2).f6) t207 _ A9.out).mono ?_); rintro e w11 ⟨rfl, hb⟩; have n0_ := Aside0.mk (blk_below (g := gb205) (o := .cells #[.int .i64 x206000_2, .int .i64 x206001_2] 74 (0, 0)) (by (with_reducible repeat (first | refine blk_drewN ?_ _ | refine blk_drew ?_ | refine blk_alloc ?_ _)); exact BK205.out) hb); have n1_ := Aside0.mk (below_step (by repeat (first | (with_reducible first | exact HB.out | apply below_alloc | apply pw_below_drewN | apply below_drew1 | refine below_set ?_ GE205.out) | exact HB.out)) hb); clear BK205; clear HB; have BK205 := n0_; have HB := n1_; clear n0_ n1_; (try clear hb); (try clear hb2); (try clear hk); (try clear hi)))
                repeat (go_quiet (first | (go_at_call 42; (with_reducible refine (cadencyref04_Check.calls k2 ((rd_T33 l0 x3_2).f0) ((rd_T33 l0 x3_2).f1) ((rd_T33 l0 x3_2).f2) ((rd_T33 l0 x3_2).f3) ((rd_T33 l0 x3_2).f4) ((rd_T33 l0 x3_2).f5) ((rd_T33 l0 x3_2).f6) t207 _ A9.out).mono ?_); rintro e w11 ⟨rfl, hb⟩; have n0_ := Aside0.mk (blk_below (g := gb205) (o := .cells #[.int .i64 x206000_2, .int .i64 x206001_2] 74 (0, 0)) (by (with_reducible repeat (first | refine blk_drewN ?_ _ | refine blk_drew ?_ | refine blk_alloc ?_ _)); exact BK205.out) hb); have n1_ := Aside0.mk (below_step (by repeat (first | (with_reducible first | exact HB.out | apply below_alloc | apply pw_below_drewN | apply below_drew1 | refine below_set ?_ GE205.out) | exact HB.out)) hb); clear BK205; clear HB; have BK205 := n0_; have HB := n1_; clear n0_ n1_; (try clear hb); (try clear hb2); (try clear hk); (try clear hi))); try go_wp2_with (first | (go_at_call 42; (with_reducible refine (cadencyref04_Check.calls k2 ((rd_T33 l0 x3_2).f0) ((rd_T33 l0 x3_2).f1) ((rd_T33 l0 x3_2).f2) ((rd_T33 l0 x3_2).f3) ((rd_T33 l0 x3_2).f4) ((rd_T33 l0 x3_2).f5) ((rd_T33 l0 x3_2).f6) t207 _ A9.out).mono ?_); rintro e w11 ⟨rfl, hb⟩; have n0_ := Aside0.mk (blk_below (g := gb205) (o := .cells #[.int .i64 x206000_2, .int .i64 x206001_2] 74 (0, 0)) (by (with_reducible repeat (first | refine blk_drewN ?_ _ | refine blk_drew ?_ | refine blk_alloc ?_ _)); exact BK205.out) hb); have n1_ := Aside0.mk (below_step (by repeat (first | (with_reducible first | exact HB.out | apply below_alloc | apply pw_below_drewN | apply below_drew1 | refine below_set ?_ GE205.out) | exact HB.out)) hb); clear BK205; clear HB; have BK205 := n0_; have HB := n1_; clear n0_ n1_; (try clear hb); (try clear hb2); (try clear hk); (try clear hi))))
                go_loopg [5] k2 (fun kq v5 w' => ∃ (x5_3 : Int) (x206000_3 : Int) (x206001_3 : Int), v5 = .int .i64 x5_3 ∧ Aside0 (cadencyref04_CheckAll.l1 kq l0 x3_2 x5_3 = some (r1, r2)) ∧ Aside0 (kq ≤ k2) ∧ Aside0 (w'.heap[gb205]? = some (.cells #[.int .i64 x206000_3, .int .i64 x206001_3] 74 (0, 0))) ∧ Aside0 (Below w.heap.size w w'))
                case atStart => exact ⟨(0), (x206000_2), (x206001_2), (by first | rfl | (simp; done) | (simp [*]; done)), H', ⟨Nat.le_refl _⟩, ⟨by (with_reducible repeat (first | refine blk_drewN ?_ _ | refine blk_drew ?_ | refine blk_alloc ?_ _)); exact BK205.out⟩, ⟨by repeat (first | (with_reducible first | exact HB.out | apply below_alloc | apply pw_below_drewN | apply below_drew1 | refine below_set ?_ GE205.out) | exact HB.out)⟩⟩
                case round =>
                  clear H'
                  try clear c1
                  try clear p2
                  try clear q2
                  try clear hx2
                  try clear c3
                  try clear c4
                  try clear c4b0
                  try clear c4b1
                  try clear c4b2
                  try clear c5
                  try clear c7
                  try clear c7b0
                  try clear c8
                  try clear c8b0
                  try clear c10
                  try clear c10b0
                  try clear c10b1
                  try clear hcz6_0
                  try clear hcz6_1
                  try clear hfz6_0
                  try clear hfz6_1
                  try clear hx206_0
                  try clear hx206_1
                  try clear hx206_2
                  try clear hx206_3
                  try clear hx206_4
                  try clear hx206_5
                  try clear hx206_6
                  try clear p2
                  try clear p206
                  try clear q206
                  obtain ⟨x5_3, x206000_3, x206001_3, rfl, HA, HK3, BK205, HB⟩ := hrel
                  cases gk with
                  | zero => exact absurd HA.out (by simp [cadencyref04_CheckAll.l1])
                  | succ k3 =>
                    have H := HA.out
                    clear HA
                    simp only [cadencyref04_CheckAll.l1] at H
                    by_cases c12 : x5_3 < x3_2
                    · rw [if_pos c12] at H
                      have c12b0 : decide (x5_3 < x3_2) = true := decide_eq_true c12
                      clear c12
                      by_cases c13 : 0 ≤ x5_3
                      rotate_left
                      · rw [if_neg c13] at H
                        exact absurd H (by simp)
                      rw [if_pos c13] at H
                      have c13b0 : decide (0 ≤ x5_3) = true := decide_eq_true c13
                      clear c13
                      by_cases c14 : x5_3 < (l0.length : Int)
                      rotate_left
                      · rw [if_neg c14] at H
                        exact absurd H (by simp)
                      rw [if_pos c14] at H
                      have c14b0 : decide (x5_3 < (l0.length : Int)) = true := decide_eq_true c14
                      clear c14
                      by_cases c15 : 0 ≤ x3_2
                      rotate_left
                      · rw [if_neg c15] at H
                        exact absurd H (by simp)
                      rw [if_pos c15] at H
                      have c15b0 : decide (0 ≤ x3_2) = true := decide_eq_true c15
                      clear c15
                      by_cases c16 : x3_2 < (l0.length : Int)
                      rotate_left
                      · rw [if_neg c16] at H
                        exact absurd H (by simp)
                      rw [if_pos c16] at H
                      have c16b0 : decide (x3_2 < (l0.length : Int)) = true := decide_eq_true c16
                      clear c16
                      by_cases c17 : ((rd_T33 l0 x5_3).f0).toList = ((rd_T33 l0 x3_2).f0).toList
                      · rw [if_pos c17] at H
                        have c17b0 : (((rd_T33 l0 x5_3).f0).toList == ((rd_T33 l0 x3_2).f0).toList) = true := beq_iff_eq.mpr c17
                        have c17b1 : (((rd_T33 l0 x5_3).f0).toList != ((rd_T33 l0 x3_2).f0).toList) = false := bne_eq_false_iff_eq.mpr c17
                        clear c17
                        simp only [Option.some.injEq, Prod.mk.injEq] at H
                        obtain ⟨rfl, rfl⟩ := H
                        have p208 : 0 ≤ (x5_3 : Int) := of_decide_eq_true (by first | (with_reducible assumption) | assumption)
                        have q208 : x5_3 < (l0.length : Int) := of_decide_eq_true (by first | (with_reducible assumption) | assumption)
                        obtain ⟨ad208, e208, hx208_0, hx208_1, hx208_2, hx208_3, hx208_4, hx208_5, hx208_6⟩ := at_T33 HR0.out x5_3 p208 q208
                        obtain rfl : ad206 = ad208 := (by injection e208)
                        replace hx208_0 := (HB.out.cell (World.block_lt_of_cell? w _ hx208_0)).trans hx208_0
                        replace hx208_1 := (HB.out.cell (World.block_lt_of_cell? w _ hx208_1)).trans hx208_1
                        replace hx208_2 := (HB.out.cell (World.block_lt_of_cell? w _ hx208_2)).trans hx208_2
                        replace hx208_3 := (HB.out.cell (World.block_lt_of_cell? w _ hx208_3)).trans hx208_3
                        replace hx208_4 := (HB.out.cell (World.block_lt_of_cell? w _ hx208_4)).trans hx208_4
                        replace hx208_5 := (HB.out.cell (World.block_lt_of_cell? w _ hx208_5)).trans hx208_5
                        replace hx208_6 := (HB.out.cell (World.block_lt_of_cell? w _ hx208_6)).trans hx208_6
                        replace p208 := eq_true p208
                        replace q208 := eq_true q208
                        have p209 : 0 ≤ (x3_2 : Int) := of_decide_eq_true (by first | (with_reducible assumption) | assumption)
                        have q209 : x3_2 < (l0.length : Int) := of_decide_eq_true (by first | (with_reducible assumption) | assumption)
                        obtain ⟨ad209, e209, hx209_0, hx209_1, hx209_2, hx209_3, hx209_4, hx209_5, hx209_6⟩ := at_T33 HR0.out x3_2 p209 q209
                        obtain rfl : ad206 = ad209 := (by injection e209)
                        replace hx209_0 := (HB.out.cell (World.block_lt_of_cell? w _ hx209_0)).trans hx209_0
                        replace hx209_1 := (HB.out.cell (World.block_lt_of_cell? w _ hx209_1)).trans hx209_1
                        replace hx209_2 := (HB.out.cell (World.block_lt_of_cell? w _ hx209_2)).trans hx209_2
                        replace hx209_3 := (HB.out.cell (World.block_lt_of_cell? w _ hx209_3)).trans hx209_3
                        replace hx209_4 := (HB.out.cell (World.block_lt_of_cell? w _ hx209_4)).trans hx209_4
                        replace hx209_5 := (HB.out.cell (World.block_lt_of_cell? w _ hx209_5)).trans hx209_5
                        replace hx209_6 := (HB.out.cell (World.block_lt_of_cell? w _ hx209_6)).trans hx209_6
                        replace p209 := eq_true p209
                        replace q209 := eq_true q209
                        have hcz18_0 : wr.cell? ⟨gb205, 0, none⟩ = some (.int .i64 x206000_3) := (blk_cell BK205.out 0).trans rfl
                        have hcz18_1 : wr.cell? ⟨gb205, 1, none⟩ = some (.int .i64 x206001_3) := (blk_cell BK205.out 1).trans rfl
                        have hfz18_0 := blk_frozen BK205.out 0
                        have hfz18_1 := blk_frozen BK205.out 1
                        go_wp2
                        repeat (go_quiet (fail); try go_wp2)
                        refine bodyPost_ret (results_cell_row rfl _ _ gb205 74 #[.int .i64 x3_2, .int .i64 13] (0, 0) _ rfl (by (with_reducible repeat (first | refine blk_drewN ?_ _ | refine blk_drew ?_ | refine blk_alloc ?_ _)); refine blk_put (cs := #[.int .i64 x3_2, .int .i64 x206001_3]) ?_ 1 _ rfl; (with_reducible repeat (first | refine blk_drewN ?_ _ | refine blk_drew ?_ | refine blk_alloc ?_ _)); refine blk_put (cs := #[.int .i64 x206000_3, .int .i64 x206001_3]) ?_ 0 _ rfl; (with_reducible repeat (first | refine blk_drewN ?_ _ | refine blk_drew ?_ | refine blk_alloc ?_ _)); exact BK205.out) Try.underlying74 rfl (by kernel_rfl)) rfl ?_
                        exact ⟨by first | rfl | (simp [errW_none, errW_some] <;> rfl) | (simp [*, errW_none, errW_some] <;> rfl), by repeat (first | (with_reducible first | exact HB.out | apply below_alloc | apply pw_below_drewN | apply below_drew1 | refine below_set ?_ GE205.out) | exact HB.out)⟩
                      · rw [if_neg c17] at H
                        have c17b0 : (((rd_T33 l0 x5_3).f0).toList == ((rd_T33 l0 x3_2).f0).toList) = false := beq_eq_false_iff_ne.mpr c17
                        have c17b1 : (((rd_T33 l0 x5_3).f0).toList != ((rd_T33 l0 x3_2).f0).toList) = true := bne_iff_ne.mpr c17
                        by_cases c19 : ((rd_T33 l0 x5_3).f6) = ((rd_T33 l0 x3_2).f6)
                        · rw [if_pos c19] at H
                          have c19b0 : (((rd_T33 l0 x5_3).f6) == ((rd_T33 l0 x3_2).f6)) = true := beq_iff_eq.mpr c19
                          have c19b1 : (((rd_T33 l0 x5_3).f6) != ((rd_T33 l0 x3_2).f6)) = false := bne_eq_false_iff_eq.mpr c19
                          clear c19
                          simp only [Option.some.injEq, Prod.mk.injEq] at H
                          obtain ⟨rfl, rfl⟩ := H
                          have p208 : 0 ≤ (x5_3 : Int) := of_decide_eq_true (by first | (with_reducible assumption) | assumption)
                          have q208 : x5_3 < (l0.length : Int) := of_decide_eq_true (by first | (with_reducible assumption) | assumption)
                          obtain ⟨ad208, e208, hx208_0, hx208_1, hx208_2, hx208_3, hx208_4, hx208_5, hx208_6⟩ := at_T33 HR0.out x5_3 p208 q208
                          obtain rfl : ad206 = ad208 := (by injection e208)
                          replace hx208_0 := (HB.out.cell (World.block_lt_of_cell? w _ hx208_0)).trans hx208_0
                          replace hx208_1 := (HB.out.cell (World.block_lt_of_cell? w _ hx208_1)).trans hx208_1
                          replace hx208_2 := (HB.out.cell (World.block_lt_of_cell? w _ hx208_2)).trans hx208_2
                          replace hx208_3 := (HB.out.cell (World.block_lt_of_cell? w _ hx208_3)).trans hx208_3
                          replace hx208_4 := (HB.out.cell (World.block_lt_of_cell? w _ hx208_4)).trans hx208_4
                          replace hx208_5 := (HB.out.cell (World.block_lt_of_cell? w _ hx208_5)).trans hx208_5
                          replace hx208_6 := (HB.out.cell (World.block_lt_of_cell? w _ hx208_6)).trans hx208_6
                          replace p208 := eq_true p208
                          replace q208 := eq_true q208
                          have p209 : 0 ≤ (x3_2 : Int) := of_decide_eq_true (by first | (with_reducible assumption) | assumption)
                          have q209 : x3_2 < (l0.length : Int) := of_decide_eq_true (by first | (with_reducible assumption) | assumption)
                          obtain ⟨ad209, e209, hx209_0, hx209_1, hx209_2, hx209_3, hx209_4, hx209_5, hx209_6⟩ := at_T33 HR0.out x3_2 p209 q209
                          obtain rfl : ad206 = ad209 := (by injection e209)
                          replace hx209_0 := (HB.out.cell (World.block_lt_of_cell? w _ hx209_0)).trans hx209_0
                          replace hx209_1 := (HB.out.cell (World.block_lt_of_cell? w _ hx209_1)).trans hx209_1
                          replace hx209_2 := (HB.out.cell (World.block_lt_of_cell? w _ hx209_2)).trans hx209_2
                          replace hx209_3 := (HB.out.cell (World.block_lt_of_cell? w _ hx209_3)).trans hx209_3
                          replace hx209_4 := (HB.out.cell (World.block_lt_of_cell? w _ hx209_4)).trans hx209_4
                          replace hx209_5 := (HB.out.cell (World.block_lt_of_cell? w _ hx209_5)).trans hx209_5
                          replace hx209_6 := (HB.out.cell (World.block_lt_of_cell? w _ hx209_6)).trans hx209_6
                          replace p209 := eq_true p209
                          replace q209 := eq_true q209
                          have p210 : 0 ≤ (x5_3 : Int) := of_decide_eq_true (by first | (with_reducible assumption) | assumption)
                          have q210 : x5_3 < (l0.length : Int) := of_decide_eq_true (by first | (with_reducible assumption) | assumption)
                          obtain ⟨ad210, e210, hx210_0, hx210_1, hx210_2, hx210_3, hx210_4, hx210_5, hx210_6⟩ := at_T33 HR0.out x5_3 p210 q210
                          obtain rfl : ad206 = ad210 := (by injection e210)
                          replace hx210_0 := (HB.out.cell (World.block_lt_of_cell? w _ hx210_0)).trans hx210_0
                          replace hx210_1 := (HB.out.cell (World.block_lt_of_cell? w _ hx210_1)).trans hx210_1
                          replace hx210_2 := (HB.out.cell (World.block_lt_of_cell? w _ hx210_2)).trans hx210_2
                          replace hx210_3 := (HB.out.cell (World.block_lt_of_cell? w _ hx210_3)).trans hx210_3
                          replace hx210_4 := (HB.out.cell (World.block_lt_of_cell? w _ hx210_4)).trans hx210_4
                          replace hx210_5 := (HB.out.cell (World.block_lt_of_cell? w _ hx210_5)).trans hx210_5
                          replace hx210_6 := (HB.out.cell (World.block_lt_of_cell? w _ hx210_6)).trans hx210_6
                          replace p210 := eq_true p210
                          replace q210 := eq_true q210
                          have p211 : 0 ≤ (x3_2 : Int) := of_decide_eq_true (by first | (with_reducible assumption) | assumption)
                          have q211 : x3_2 < (l0.length : Int) := of_decide_eq_true (by first | (with_reducible assumption) | assumption)
                          obtain ⟨ad211, e211, hx211_0, hx211_1, hx211_2, hx211_3, hx211_4, hx211_5, hx211_6⟩ := at_T33 HR0.out x3_2 p211 q211
                          obtain rfl : ad206 = ad211 := (by injection e211)
                          replace hx211_0 := (HB.out.cell (World.block_lt_of_cell? w _ hx211_0)).trans hx211_0
                          replace hx211_1 := (HB.out.cell (World.block_lt_of_cell? w _ hx211_1)).trans hx211_1
                          replace hx211_2 := (HB.out.cell (World.block_lt_of_cell? w _ hx211_2)).trans hx211_2
                          replace hx211_3 := (HB.out.cell (World.block_lt_of_cell? w _ hx211_3)).trans hx211_3
                          replace hx211_4 := (HB.out.cell (World.block_lt_of_cell? w _ hx211_4)).trans hx211_4
                          replace hx211_5 := (HB.out.cell (World.block_lt_of_cell? w _ hx211_5)).trans hx211_5
                          replace hx211_6 := (HB.out.cell (World.block_lt_of_cell? w _ hx211_6)).trans hx211_6
                          replace p211 := eq_true p211
                          replace q211 := eq_true q211
                          have hcz20_0 : wr.cell? ⟨gb205, 0, none⟩ = some (.int .i64 x206000_3) := (blk_cell BK205.out 0).trans rfl
                          have hcz20_1 : wr.cell? ⟨gb205, 1, none⟩ = some (.int .i64 x206001_3) := (blk_cell BK205.out 1).trans rfl
                          have hfz20_0 := blk_frozen BK205.out 0
                          have hfz20_1 := blk_frozen BK205.out 1
                          go_wp2
                          repeat (go_quiet (fail); try go_wp2)
                          refine bodyPost_ret (results_cell_row rfl _ _ gb205 74 #[.int .i64 x3_2, .int .i64 13] (0, 0) _ rfl (by (with_reducible repeat (first | refine blk_drewN ?_ _ | refine blk_drew ?_ | refine blk_alloc ?_ _)); refine blk_put (cs := #[.int .i64 x3_2, .int .i64 x206001_3]) ?_ 1 _ rfl; (with_reducible repeat (first | refine blk_drewN ?_ _ | refine blk_drew ?_ | refine blk_alloc ?_ _)); refine blk_put (cs := #[.int .i64 x206000_3, .int .i64 x206001_3]) ?_ 0 _ rfl; (with_reducible repeat (first | refine blk_drewN ?_ _ | refine blk_drew ?_ | refine blk_alloc ?_ _)); exact BK205.out) Try.underlying74 rfl (by kernel_rfl)) rfl ?_
                          exact ⟨by first | rfl | (simp [errW_none, errW_some] <;> rfl) | (simp [*, errW_none, errW_some] <;> rfl), by repeat (first | (with_reducible first | exact HB.out | apply below_alloc | apply pw_below_drewN | apply below_drew1 | refine below_set ?_ GE205.out) | exact HB.out)⟩
                        · rw [if_neg c19] at H
                          have c19b0 : (((rd_T33 l0 x5_3).f6) == ((rd_T33 l0 x3_2).f6)) = false := beq_eq_false_iff_ne.mpr c19
                          have c19b1 : (((rd_T33 l0 x5_3).f6) != ((rd_T33 l0 x3_2).f6)) = true := bne_iff_ne.mpr c19
                          have H' := Aside0.mk H
                          clear H
                          have p208 : 0 ≤ (x5_3 : Int) := of_decide_eq_true (by first | (with_reducible assumption) | assumption)
                          have q208 : x5_3 < (l0.length : Int) := of_decide_eq_true (by first | (with_reducible assumption) | assumption)
                          obtain ⟨ad208, e208, hx208_0, hx208_1, hx208_2, hx208_3, hx208_4, hx208_5, hx208_6⟩ := at_T33 HR0.out x5_3 p208 q208
                          obtain rfl : ad206 = ad208 := (by injection e208)
                          replace hx208_0 := (HB.out.cell (World.block_lt_of_cell? w _ hx208_0)).trans hx208_0
                          replace hx208_1 := (HB.out.cell (World.block_lt_of_cell? w _ hx208_1)).trans hx208_1
                          replace hx208_2 := (HB.out.cell (World.block_lt_of_cell? w _ hx208_2)).trans hx208_2
                          replace hx208_3 := (HB.out.cell (World.block_lt_of_cell? w _ hx208_3)).trans hx208_3
                          replace hx208_4 := (HB.out.cell (World.block_lt_of_cell? w _ hx208_4)).trans hx208_4
                          replace hx208_5 := (HB.out.cell (World.block_lt_of_cell? w _ hx208_5)).trans hx208_5
                          replace hx208_6 := (HB.out.cell (World.block_lt_of_cell? w _ hx208_6)).trans hx208_6
                          replace p208 := eq_true p208
                          replace q208 := eq_true q208
                          have p209 : 0 ≤ (x3_2 : Int) := of_decide_eq_true (by first | (with_reducible assumption) | assumption)
                          have q209 : x3_2 < (l0.length : Int) := of_decide_eq_true (by first | (with_reducible assumption) | assumption)
                          obtain ⟨ad209, e209, hx209_0, hx209_1, hx209_2, hx209_3, hx209_4, hx209_5, hx209_6⟩ := at_T33 HR0.out x3_2 p209 q209
                          obtain rfl : ad206 = ad209 := (by injection e209)
                          replace hx209_0 := (HB.out.cell (World.block_lt_of_cell? w _ hx209_0)).trans hx209_0
                          replace hx209_1 := (HB.out.cell (World.block_lt_of_cell? w _ hx209_1)).trans hx209_1
                          replace hx209_2 := (HB.out.cell (World.block_lt_of_cell? w _ hx209_2)).trans hx209_2
                          replace hx209_3 := (HB.out.cell (World.block_lt_of_cell? w _ hx209_3)).trans hx209_3
                          replace hx209_4 := (HB.out.cell (World.block_lt_of_cell? w _ hx209_4)).trans hx209_4
                          replace hx209_5 := (HB.out.cell (World.block_lt_of_cell? w _ hx209_5)).trans hx209_5
                          replace hx209_6 := (HB.out.cell (World.block_lt_of_cell? w _ hx209_6)).trans hx209_6
                          replace p209 := eq_true p209
                          replace q209 := eq_true q209
                          have p210 : 0 ≤ (x5_3 : Int) := of_decide_eq_true (by first | (with_reducible assumption) | assumption)
                          have q210 : x5_3 < (l0.length : Int) := of_decide_eq_true (by first | (with_reducible assumption) | assumption)
                          obtain ⟨ad210, e210, hx210_0, hx210_1, hx210_2, hx210_3, hx210_4, hx210_5, hx210_6⟩ := at_T33 HR0.out x5_3 p210 q210
                          obtain rfl : ad206 = ad210 := (by injection e210)
                          replace hx210_0 := (HB.out.cell (World.block_lt_of_cell? w _ hx210_0)).trans hx210_0
                          replace hx210_1 := (HB.out.cell (World.block_lt_of_cell? w _ hx210_1)).trans hx210_1
                          replace hx210_2 := (HB.out.cell (World.block_lt_of_cell? w _ hx210_2)).trans hx210_2
                          replace hx210_3 := (HB.out.cell (World.block_lt_of_cell? w _ hx210_3)).trans hx210_3
                          replace hx210_4 := (HB.out.cell (World.block_lt_of_cell? w _ hx210_4)).trans hx210_4
                          replace hx210_5 := (HB.out.cell (World.block_lt_of_cell? w _ hx210_5)).trans hx210_5
                          replace hx210_6 := (HB.out.cell (World.block_lt_of_cell? w _ hx210_6)).trans hx210_6
                          replace p210 := eq_true p210
                          replace q210 := eq_true q210
                          have p211 : 0 ≤ (x3_2 : Int) := of_decide_eq_true (by first | (with_reducible assumption) | assumption)
                          have q211 : x3_2 < (l0.length : Int) := of_decide_eq_true (by first | (with_reducible assumption) | assumption)
                          obtain ⟨ad211, e211, hx211_0, hx211_1, hx211_2, hx211_3, hx211_4, hx211_5, hx211_6⟩ := at_T33 HR0.out x3_2 p211 q211
                          obtain rfl : ad206 = ad211 := (by injection e211)
                          replace hx211_0 := (HB.out.cell (World.block_lt_of_cell? w _ hx211_0)).trans hx211_0
                          replace hx211_1 := (HB.out.cell (World.block_lt_of_cell? w _ hx211_1)).trans hx211_1
                          replace hx211_2 := (HB.out.cell (World.block_lt_of_cell? w _ hx211_2)).trans hx211_2
                          replace hx211_3 := (HB.out.cell (World.block_lt_of_cell? w _ hx211_3)).trans hx211_3
                          replace hx211_4 := (HB.out.cell (World.block_lt_of_cell? w _ hx211_4)).trans hx211_4
                          replace hx211_5 := (HB.out.cell (World.block_lt_of_cell? w _ hx211_5)).trans hx211_5
                          replace hx211_6 := (HB.out.cell (World.block_lt_of_cell? w _ hx211_6)).trans hx211_6
                          replace p211 := eq_true p211
                          replace q211 := eq_true q211
                          go_wp2
                          repeat (go_quiet (fail); try go_wp2)
                          go_roundg k3
                          case measure => have := HJ1.out; have := HK2.out; have := HK3.out; omega
                          case rel => exact ⟨(wrap64 (x5_3 + 1)), (x206000_3), (x206001_3), (by first | rfl | (simp; done) | (simp [*]; done)), H', ⟨by have := HJ1.out; have := HK2.out; have := HK3.out; omega⟩, ⟨by (with_reducible repeat (first | refine blk_drewN ?_ _ | refine blk_drew ?_ | refine blk_alloc ?_ _)); exact BK205.out⟩, ⟨by repeat (first | (with_reducible first | exact HB.out | apply below_alloc | apply pw_below_drewN | apply below_drew1 | refine below_set ?_ GE205.out) | exact HB.out)⟩⟩
                    · rw [if_neg c12] at H
                      have c12b0 : decide (x5_3 < x3_2) = false := decide_eq_false c12
                      clear c12
                      have H' := Aside0.mk H
                      clear H
                      go_wp2
                      repeat (go_quiet (fail); try go_wp2)
                      go_roundg k3
                      case measure => have := HJ1.out; have := HK2.out; have := HK3.out; omega
                      case rel => exact ⟨(wrap64 (x3_2 + 1)), (x206000_3), (x206001_3), (by first | rfl | (simp; done) | (simp [*]; done)), H', ⟨by have := HJ1.out; have := HK2.out; have := HK3.out; omega⟩, ⟨by (with_reducible repeat (first | refine blk_drewN ?_ _ | refine blk_drew ?_ | refine blk_alloc ?_ _)); exact BK205.out⟩, ⟨by repeat (first | (with_reducible first | exact HB.out | apply below_alloc | apply pw_below_drewN | apply below_drew1 | refine below_set ?_ GE205.out) | exact HB.out)⟩⟩
              · rw [if_neg c10] at H
                have c10b0 : (t207 == 0) = false := beq_eq_false_iff_ne.mpr c10
                have c10b1 : (t207 != 0) = true := bne_iff_ne.mpr c10
                simp only [Option.some.injEq, Prod.mk.injEq] at H
                obtain ⟨rfl, rfl⟩ := H
                have p206 : 0 ≤ (x3_2 : Int) := of_decide_eq_true (by first | (with_reducible assumption) | assumption)
                have q206 : x3_2 < (l0.length : Int) := of_decide_eq_true (by first | (with_reducible assumption) | assumption)
                obtain ⟨ad206, e206, hx206_0, hx206_1, hx206_2, hx206_3, hx206_4, hx206_5, hx206_6⟩ := at_T33 HR0.out x3_2 p206 q206
                cases e206
                replace hx206_0 := (HB.out.cell (World.block_lt_of_cell? w _ hx206_0)).trans hx206_0
                replace hx206_1 := (HB.out.cell (World.block_lt_of_cell? w _ hx206_1)).trans hx206_1
                replace hx206_2 := (HB.out.cell (World.block_lt_of_cell? w _ hx206_2)).trans hx206_2
                replace hx206_3 := (HB.out.cell (World.block_lt_of_cell? w _ hx206_3)).trans hx206_3
                replace hx206_4 := (HB.out.cell (World.block_lt_of_cell? w _ hx206_4)).trans hx206_4
                replace hx206_5 := (HB.out.cell (World.block_lt_of_cell? w _ hx206_5)).trans hx206_5
                replace hx206_6 := (HB.out.cell (World.block_lt_of_cell? w _ hx206_6)).trans hx206_6
                replace p206 := eq_true p206
                replace q206 := eq_true q206
                go_wp2_with (first | (go_at_call 42; (with_reducible refine (cadencyref04_Check.calls k2 ((rd_T33 l0 x3_2).f0) ((rd_T33 l0 x3_2).f1) ((rd_T33 l0 x3_2).f2) ((rd_T33 l0 x3_2).f3) ((rd_T33 l0 x3_2).f4) ((rd_T33 l0 x3_2).f5) ((rd_T33 l0 x3_2).f6) t207 _ A9.out).mono ?_); rintro e w21 ⟨rfl, hb⟩; have n0_ := Aside0.mk (blk_below (g := gb205) (o := .cells #[.int .i64 x206000_2, .int .i64 x206001_2] 74 (0, 0)) (by (with_reducible repeat (first | refine blk_drewN ?_ _ | refine blk_drew ?_ | refine blk_alloc ?_ _)); exact BK205.out) hb); have n1_ := Aside0.mk (below_step (by repeat (first | (with_reducible first | exact HB.out | apply below_alloc | apply pw_below_drewN | apply below_drew1 | refine below_set ?_ GE205.out) | exact HB.out)) hb); clear BK205; clear HB; have BK205 := n0_; have HB := n1_; clear n0_ n1_; (try clear hb); (try clear hb2); (try clear hk); (try clear hi); have hcz22_0 : w21.cell? ⟨gb205, 0, none⟩ = some (.int .i64 x206000_2) := (blk_cell BK205.out 0).trans rfl; have hcz22_1 : w21.cell? ⟨gb205, 1, none⟩ = some (.int .i64 x206001_2) := (blk_cell BK205.out 1).trans rfl; have hfz22_0 := blk_frozen BK205.out 0; have hfz22_1 := blk_frozen BK205.out 1))
                repeat (go_quiet (first | (go_at_call 42; (with_reducible refine (cadencyref04_Check.calls k2 ((rd_T33 l0 x3_2).f0) ((rd_T33 l0 x3_2).f1) ((rd_T33 l0 x3_2).f2) ((rd_T33 l0 x3_2).f3) ((rd_T33 l0 x3_2).f4) ((rd_T33 l0 x3_2).f5) ((rd_T33 l0 x3_2).f6) t207 _ A9.out).mono ?_); rintro e w21 ⟨rfl, hb⟩; have n0_ := Aside0.mk (blk_below (g := gb205) (o := .cells #[.int .i64 x206000_2, .int .i64 x206001_2] 74 (0, 0)) (by (with_reducible repeat (first | refine blk_drewN ?_ _ | refine blk_drew ?_ | refine blk_alloc ?_ _)); exact BK205.out) hb); have n1_ := Aside0.mk (below_step (by repeat (first | (with_reducible first | exact HB.out | apply below_alloc | apply pw_below_drewN | apply below_drew1 | refine below_set ?_ GE205.out) | exact HB.out)) hb); clear BK205; clear HB; have BK205 := n0_; have HB := n1_; clear n0_ n1_; (try clear hb); (try clear hb2); (try clear hk); (try clear hi); have hcz22_0 : w21.cell? ⟨gb205, 0, none⟩ = some (.int .i64 x206000_2) := (blk_cell BK205.out 0).trans rfl; have hcz22_1 : w21.cell? ⟨gb205, 1, none⟩ = some (.int .i64 x206001_2) := (blk_cell BK205.out 1).trans rfl; have hfz22_0 := blk_frozen BK205.out 0; have hfz22_1 := blk_frozen BK205.out 1)); try go_wp2_with (first | (go_at_call 42; (with_reducible refine (cadencyref04_Check.calls k2 ((rd_T33 l0 x3_2).f0) ((rd_T33 l0 x3_2).f1) ((rd_T33 l0 x3_2).f2) ((rd_T33 l0 x3_2).f3) ((rd_T33 l0 x3_2).f4) ((rd_T33 l0 x3_2).f5) ((rd_T33 l0 x3_2).f6) t207 _ A9.out).mono ?_); rintro e w21 ⟨rfl, hb⟩; have n0_ := Aside0.mk (blk_below (g := gb205) (o := .cells #[.int .i64 x206000_2, .int .i64 x206001_2] 74 (0, 0)) (by (with_reducible repeat (first | refine blk_drewN ?_ _ | refine blk_drew ?_ | refine blk_alloc ?_ _)); exact BK205.out) hb); have n1_ := Aside0.mk (below_step (by repeat (first | (with_reducible first | exact HB.out | apply below_alloc | apply pw_below_drewN | apply below_drew1 | refine below_set ?_ GE205.out) | exact HB.out)) hb); clear BK205; clear HB; have BK205 := n0_; have HB := n1_; clear n0_ n1_; (try clear hb); (try clear hb2); (try clear hk); (try clear hi); have hcz22_0 : w21.cell? ⟨gb205, 0, none⟩ = some (.int .i64 x206000_2) := (blk_cell BK205.out 0).trans rfl; have hcz22_1 : w21.cell? ⟨gb205, 1, none⟩ = some (.int .i64 x206001_2) := (blk_cell BK205.out 1).trans rfl; have hfz22_0 := blk_frozen BK205.out 0; have hfz22_1 := blk_frozen BK205.out 1)))
                refine bodyPost_ret (results_cell_row rfl _ _ gb205 74 #[.int .i64 x3_2, .int .i64 t207] (0, 0) _ rfl (by (with_reducible repeat (first | refine blk_drewN ?_ _ | refine blk_drew ?_ | refine blk_alloc ?_ _)); refine blk_put (cs := #[.int .i64 x3_2, .int .i64 x206001_2]) ?_ 1 _ rfl; (with_reducible repeat (first | refine blk_drewN ?_ _ | refine blk_drew ?_ | refine blk_alloc ?_ _)); refine blk_put (cs := #[.int .i64 x206000_2, .int .i64 x206001_2]) ?_ 0 _ rfl; (with_reducible repeat (first | refine blk_drewN ?_ _ | refine blk_drew ?_ | refine blk_alloc ?_ _)); exact BK205.out) Try.underlying74 rfl (by kernel_rfl)) rfl ?_
                exact ⟨by first | rfl | (simp [errW_none, errW_some] <;> rfl) | (simp [*, errW_none, errW_some] <;> rfl), by repeat (first | (with_reducible first | exact HB.out | apply below_alloc | apply pw_below_drewN | apply below_drew1 | refine below_set ?_ GE205.out) | exact HB.out)⟩
            · rw [if_neg c7] at H
              have c7b0 : decide (x3_2 < (l0.length : Int)) = false := decide_eq_false c7
              clear c7
              simp only [Option.some.injEq, Prod.mk.injEq] at H
              obtain ⟨rfl, rfl⟩ := H
              have hcz23_0 : wr.cell? ⟨gb205, 0, none⟩ = some (.int .i64 x206000_2) := (blk_cell BK205.out 0).trans rfl
              have hcz23_1 : wr.cell? ⟨gb205, 1, none⟩ = some (.int .i64 x206001_2) := (blk_cell BK205.out 1).trans rfl
              have hfz23_0 := blk_frozen BK205.out 0
              have hfz23_1 := blk_frozen BK205.out 1
              go_wp2
              repeat (go_quiet (fail); try go_wp2)
              refine bodyPost_ret (results_cell_row rfl _ _ gb205 74 #[.int .i64 (l0.length : Int), .int .i64 0] (0, 0) _ rfl (by (with_reducible repeat (first | refine blk_drewN ?_ _ | refine blk_drew ?_ | refine blk_alloc ?_ _)); refine blk_put (cs := #[.int .i64 (l0.length : Int), .int .i64 x206001_2]) ?_ 1 _ rfl; (with_reducible repeat (first | refine blk_drewN ?_ _ | refine blk_drew ?_ | refine blk_alloc ?_ _)); refine blk_put (cs := #[.int .i64 x206000_2, .int .i64 x206001_2]) ?_ 0 _ rfl; (with_reducible repeat (first | refine blk_drewN ?_ _ | refine blk_drew ?_ | refine blk_alloc ?_ _)); exact BK205.out) Try.underlying74 rfl (by kernel_rfl)) rfl ?_
              exact ⟨by first | rfl | (simp [errW_none, errW_some] <;> rfl) | (simp [*, errW_none, errW_some] <;> rfl), by repeat (first | (with_reducible first | exact HB.out | apply below_alloc | apply pw_below_drewN | apply below_drew1 | refine below_set ?_ GE205.out) | exact HB.out)⟩

/-! ### cadencyref05_Parse: function 21 -/
def cadencyref05_Parse.f (k : Nat) (a0 : ByteArray) : Option ((List (S33)) × Int × Int) := (cadencyref05_Read.f a0).bind fun bt213 => (if bt213.2.2 = 0 then ((cadencyref04_CheckAll.f k bt213.1).bind fun bt219 => (if bt219.2 = 0 then (some (bt213.1, bt219.1, 0)) else (some (([] : List (S33)), bt219.1, bt219.2)))) else (some (bt213.1, bt213.2.1, bt213.2.2)))
set_option maxHeartbeats 8000000 in
set_option maxRecDepth 100000 in
theorem cadencyref05_Parse.calls (k : Nat) (a0 : ByteArray) (r1 : List (S33)) (r2 : Int) (r3 : Int) (w : World) (h : cadencyref05_Parse.f k a0 = some (r1, r2, r3)) :
    Calls Try.prog 21 #[.string a0] w fun e w' => ∃ v0_ : Value, e = .returned (.agg #[v0_, .int .i64 r2, .int .i64 r3]) ∧ Kd.R k33 33 w' w.heap.size (fun _ => True) v0_ r1 ∧ Below w.heap.size w w' := by
  have hu46 := Try.underlying46
  have hu74 := Try.underlying74
  have HB := Aside0.mk (Below.refl w.heap.size w)
  have H : ((cadencyref05_Read.f a0).bind fun bt213 => (if bt213.2.2 = 0 then ((cadencyref04_CheckAll.f k bt213.1).bind fun bt219 => (if bt219.2 = 0 then (some (bt213.1, bt219.1, 0)) else (some (([] : List (S33)), bt219.1, bt219.2)))) else (some (bt213.1, bt213.2.1, bt213.2.2)))) = some (r1, r2, r3) := h
  clear h
  replace H := Option.bind_eq_some_iff.mp H
  obtain ⟨⟨t213, t216, t217⟩, A20, H⟩ := H
  replace H : (if t217 = 0 then ((cadencyref04_CheckAll.f k t213).bind fun bt219 => (if bt219.2 = 0 then (some (t213, bt219.1, 0)) else (some (([] : List (S33)), bt219.1, bt219.2)))) else (some (t213, t216, t217))) = some (r1, r2, r3) := H
  have A2 := Aside0.mk A20
  clear A20
  by_cases c3 : t217 = 0
  · rw [if_pos c3] at H
    have c3b0 : (t217 == 0) = true := beq_iff_eq.mpr c3
    have c3b1 : (t217 != 0) = false := bne_eq_false_iff_eq.mpr c3
    clear c3
    replace H := Option.bind_eq_some_iff.mp H
    obtain ⟨⟨t219, t220⟩, A40, H⟩ := H
    replace H : (if t220 = 0 then (some (t213, t219, 0)) else (some (([] : List (S33)), t219, t220))) = some (r1, r2, r3) := H
    have A4 := Aside0.mk A40
    clear A40
    by_cases c5 : t220 = 0
    · rw [if_pos c5] at H
      have c5b0 : (t220 == 0) = true := beq_iff_eq.mpr c5
      have c5b1 : (t220 != 0) = false := bne_eq_false_iff_eq.mpr c5
      clear c5
      simp only [Option.some.injEq, Prod.mk.injEq] at H
      obtain ⟨rfl, rfl, rfl⟩ := H
      go_enter Try.func21, Try.ntmps21
      go_wp2_with (first | ((with_reducible refine gate_dst (N := 2) rfl ?_); refine box_event ?hg (N := 2) ?hd (cs := #[.slice none 0 0, .int .i64 0, .int .i64 0]) (t := 46) ?hr ?_; (case hd => rfl); (case hg => rfl); (case hr => first | (go_simp; done) | (go_simp; rfl)); intro gb212 hg w6 hbox hb; have n0_ := Aside0.mk (below_step (by repeat (first | (with_reducible first | exact HB.out | apply below_alloc | apply pw_below_drewN | apply below_drew1) | exact HB.out)) hb); have n1_ := Aside0.mk (hbox); have n2_ := Aside0.mk ((by rw [hg]; exact (below_size (by repeat (first | (with_reducible first | exact HB.out | apply below_alloc | apply pw_below_drewN | apply below_drew1) | exact HB.out))) : w.heap.size ≤ gb212)); have n3_ := Aside0.mk ((by rw [hg]; exact (below_size (by repeat (first | (with_reducible first | exact HB.out | apply below_alloc | apply pw_below_drewN | apply below_drew1) | exact HB.out))) : w.heap.size ≤ gb212)); clear HB; have HB := n0_; have BK212 := n1_; have GW212 := n2_; have GE212 := n3_; clear n0_ n1_ n2_ n3_; clear hb hbox hg) | ((with_reducible refine gate_callee (f := 20) rfl ?_); refine goesL_ (some 6) rfl rfl Try.func20 (by kernel_rfl) rfl #[.string a0] rfl (by (try simp only [List.map_toArray, List.map_cons, List.map_nil]); first | done | rfl | (simp only [List.length_drop, List.length_take]; rfl)) ?_; (with_reducible refine (cadencyref05_Read.calls a0 t213 t216 t217 _ A2.out).mono ?_); rintro e w7 ⟨v214, rfl, ho0, hb⟩; refine ⟨_, rfl, ?_⟩; have n0_ := Aside0.mk (Kd.R_lower ho0 (below_size (by repeat (first | (with_reducible first | exact HB.out | apply below_alloc | apply pw_below_drewN | apply below_drew1 | refine below_set ?_ GE212.out) | exact HB.out)))); have n1_ := Aside0.mk (blk_below (g := gb212) (o := .cells #[.slice none 0 0, .int .i64 0, .int .i64 0] 46 (0, 0)) (by (with_reducible repeat (first | refine blk_drewN ?_ _ | refine blk_drew ?_ | refine blk_alloc ?_ _)); exact BK212.out) hb); have n2_ := Aside0.mk (below_step (by repeat (first | (with_reducible first | exact HB.out | apply below_alloc | apply pw_below_drewN | apply below_drew1 | refine below_set ?_ GE212.out) | exact HB.out)) hb); clear BK212; clear HB; have HO215 := n0_; have BK212 := n1_; have HB := n2_; clear n0_ n1_ n2_; (try clear hb); (try clear hb2); (try clear hk); (try clear hi); (try clear ho0)) | ((with_reducible refine gate_dst (N := 3) rfl ?_); refine box_event ?hg (N := 3) ?hd (cs := #[.slice none 0 0, .int .i64 0, .int .i64 0]) (t := 46) ?hr ?_; (case hd => rfl); (case hg => rfl); (case hr => first | (go_simp; done) | (go_simp; rfl)); intro gb218 hg w8 hbox hb; have n0_ := Aside0.mk (Kd.R_below (by (with_reducible repeat (first | apply Kd.R_alloc | apply Kd.R_drewN | apply Kd.R_drew)); exact HO215.out) hb); have n1_ := Aside0.mk (blk_below (g := gb212) (o := .cells #[.slice none 0 0, .int .i64 0, .int .i64 0] 46 (0, 0)) (by (with_reducible repeat (first | refine blk_drewN ?_ _ | refine blk_drew ?_ | refine blk_alloc ?_ _)); exact BK212.out) hb); have n2_ := Aside0.mk (below_step (by repeat (first | (with_reducible first | exact HB.out | apply below_alloc | apply pw_below_drewN | apply below_drew1 | refine below_set ?_ GE212.out) | exact HB.out)) hb); have n3_ := Aside0.mk (hbox); have n4_ := Aside0.mk ((by rw [hg]; exact (below_size (by repeat (first | (with_reducible first | exact HB.out | apply below_alloc | apply pw_below_drewN | apply below_drew1 | refine below_set ?_ GE212.out) | exact HB.out))) : w.heap.size ≤ gb218)); have n5_ := Aside0.mk ((by rw [hg]; exact (below_size (by repeat (first | (with_reducible first | exact HB.out | apply below_alloc | apply pw_below_drewN | apply below_drew1 | refine below_set ?_ GE212.out) | exact HB.out))) : w.heap.size ≤ gb218)); have n6_ := Aside0.mk ((by rw [hg]; exact Nat.ne_of_lt (blk_lt (g := gb212) (o := .cells #[.slice none 0 0, .int .i64 0, .int .i64 0] 46 (0, 0)) (by (with_reducible repeat (first | refine blk_drewN ?_ _ | refine blk_drew ?_ | refine blk_alloc ?_ _)); exact BK212.out)) : gb212 ≠ gb218)); have n7_ := Aside0.mk ((by rw [hg]; exact Nat.ne_of_gt (blk_lt (g := gb212) (o := .cells #[.slice none 0 0, .int .i64 0, .int .i64 0] 46 (0, 0)) (by (with_reducible repeat (first | refine blk_drewN ?_ _ | refine blk_drew ?_ | refine blk_alloc ?_ _)); exact BK212.out)) : gb218 ≠ gb212)); clear HO215; clear BK212; clear HB; have HO215 := n0_; have BK212 := n1_; have HB := n2_; have BK218 := n3_; have GW218 := n4_; have GE218 := n5_; have NB212_218 := n6_; have NB218_212 := n7_; clear n0_ n1_ n2_ n3_ n4_ n5_ n6_ n7_; clear hb hbox hg; obtain ⟨Ao9, co9, eo9⟩ := Kd.R_slice HO215.out; subst eo9; have hnb10 := NB218_212.out; have hnc10 := NB212_218.out; have hcz11_0 : w8.cell? ⟨gb218, 0, none⟩ = some (.slice none 0 0) := (blk_cell BK218.out 0).trans rfl; have hcz11_1 : w8.cell? ⟨gb218, 1, none⟩ = some (.int .i64 0) := (blk_cell BK218.out 1).trans rfl; have hcz11_2 : w8.cell? ⟨gb218, 2, none⟩ = some (.int .i64 0) := (blk_cell BK218.out 2).trans rfl; have hfz11_0 := blk_frozen BK218.out 0; have hfz11_1 := blk_frozen BK218.out 1; have hfz11_2 := blk_frozen BK218.out 2) | ((with_reducible refine gate_callee (f := 32) rfl ?_); refine goesL_ (some 13) rfl rfl Try.func32 (by kernel_rfl) rfl #[.slice Ao9 t213.length co9] rfl (by (try simp only [List.map_toArray, List.map_cons, List.map_nil]); first | done | rfl | (simp only [List.length_drop, List.length_take]; rfl)) ?_; (with_reducible refine (cadencyref04_CheckAll.calls k _ _ t213 t219 t220 _ ?side1 ?side2 A4.out).mono ?_); (case side1 => refine (Kd.R_reads' (e := 33) (base := w.heap.size) (ok := fun k_ => True) (n := t213.length) (c := co9) ?_).2.2; exact (by (with_reducible repeat (first | apply Kd.R_alloc | apply Kd.R_drewN | apply Kd.R_drew)); exact (Kd.R_mono (Kd.R_far (p := ⟨gb218, 2, none⟩) (Kd.R_far (p := ⟨gb218, 1, none⟩) (Kd.R_far (p := ⟨gb218, 0, none⟩) (Kd.R_types HO215.out BK218.out (by decide)) (fun _ hk => hk.2) (.slice Ao9 t213.length co9)) (fun _ hk => hk.2) (.int .i64 t216)) (fun _ hk => hk.2) (.int .i64 t217)) (fun _ h_ => h_.1)))); (case side2 => exact (Kd.R_reads' HO215.out).2.1); rintro e w12 ⟨rfl, hb⟩; refine ⟨_, rfl, ?_⟩; have n0_ := Aside0.mk (Kd.R_below (by (with_reducible repeat (first | apply Kd.R_alloc | apply Kd.R_drewN | apply Kd.R_drew)); exact (Kd.R_mono (Kd.R_far (p := ⟨gb218, 2, none⟩) (Kd.R_far (p := ⟨gb218, 1, none⟩) (Kd.R_far (p := ⟨gb218, 0, none⟩) (Kd.R_types HO215.out BK218.out (by decide)) (fun _ hk => hk.2) (.slice Ao9 t213.length co9)) (fun _ hk => hk.2) (.int .i64 t216)) (fun _ hk => hk.2) (.int .i64 t217)) (fun _ h_ => h_.1))) hb); have n1_ := Aside0.mk (blk_below (g := gb212) (o := .cells #[.slice none 0 0, .int .i64 0, .int .i64 0] 46 (0, 0)) (by (with_reducible repeat (first | refine blk_drewN ?_ _ | refine blk_drew ?_ | refine blk_alloc ?_ _)); refine blk_far ?_ NB212_218.out _; (with_reducible repeat (first | refine blk_drewN ?_ _ | refine blk_drew ?_ | refine blk_alloc ?_ _)); refine blk_far ?_ NB212_218.out _; (with_reducible repeat (first | refine blk_drewN ?_ _ | refine blk_drew ?_ | refine blk_alloc ?_ _)); refine blk_far ?_ NB212_218.out _; (with_reducible repeat (first | refine blk_drewN ?_ _ | refine blk_drew ?_ | refine blk_alloc ?_ _)); exact BK212.out) hb); have n2_ := Aside0.mk (blk_below (g := gb218) (o := .cells #[.slice Ao9 t213.length co9, .int .i64 t216, .int .i64 t217] 46 (0, 0)) (by (with_reducible repeat (first | refine blk_drewN ?_ _ | refine blk_drew ?_ | refine blk_alloc ?_ _)); refine blk_put (cs := #[.slice Ao9 t213.length co9, .int .i64 t216, .int .i64 0]) ?_ 2 _ rfl; (with_reducible repeat (first | refine blk_drewN ?_ _ | refine blk_drew ?_ | refine blk_alloc ?_ _)); refine blk_put (cs := #[.slice Ao9 t213.length co9, .int .i64 0, .int .i64 0]) ?_ 1 _ rfl; (with_reducible repeat (first | refine blk_drewN ?_ _ | refine blk_drew ?_ | refine blk_alloc ?_ _)); refine blk_put (cs := #[.slice none 0 0, .int .i64 0, .int .i64 0]) ?_ 0 _ rfl; (with_reducible repeat (first | refine blk_drewN ?_ _ | refine blk_drew ?_ | refine blk_alloc ?_ _)); exact BK218.out) hb); have n3_ := Aside0.mk (below_step (by repeat (first | (with_reducible first | exact HB.out | apply below_alloc | apply pw_below_drewN | apply below_drew1 | refine below_set ?_ GE212.out | refine below_set ?_ GE218.out) | exact HB.out)) hb); clear HO215; clear BK212; clear BK218; clear HB; have HO215 := n0_; have BK212 := n1_; have BK218 := n2_; have HB := n3_; clear n0_ n1_ n2_ n3_; (try clear hb); (try clear hb2); (try clear hk); (try clear hi)) | ((with_reducible refine gate_dst (N := 4) rfl ?_); refine box_event ?hg (N := 4) ?hd (cs := #[.int .i64 0, .int .i64 0]) (t := 74) ?hr ?_; (case hd => rfl); (case hg => rfl); (case hr => first | (go_simp; done) | (go_simp; rfl)); intro gb221 hg w13 hbox hb; have n0_ := Aside0.mk (Kd.R_below (by (with_reducible repeat (first | apply Kd.R_alloc | apply Kd.R_drewN | apply Kd.R_drew)); exact HO215.out) hb); have n1_ := Aside0.mk (blk_below (g := gb212) (o := .cells #[.slice none 0 0, .int .i64 0, .int .i64 0] 46 (0, 0)) (by (with_reducible repeat (first | refine blk_drewN ?_ _ | refine blk_drew ?_ | refine blk_alloc ?_ _)); exact BK212.out) hb); have n2_ := Aside0.mk (blk_below (g := gb218) (o := .cells #[.slice Ao9 t213.length co9, .int .i64 t216, .int .i64 t217] 46 (0, 0)) (by (with_reducible repeat (first | refine blk_drewN ?_ _ | refine blk_drew ?_ | refine blk_alloc ?_ _)); exact BK218.out) hb); have n3_ := Aside0.mk (below_step (by repeat (first | (with_reducible first | exact HB.out | apply below_alloc | apply pw_below_drewN | apply below_drew1 | refine below_set ?_ GE212.out | refine below_set ?_ GE218.out) | exact HB.out)) hb); have n4_ := Aside0.mk (hbox); have n5_ := Aside0.mk ((by rw [hg]; exact (below_size (by repeat (first | (with_reducible first | exact HB.out | apply below_alloc | apply pw_below_drewN | apply below_drew1 | refine below_set ?_ GE212.out | refine below_set ?_ GE218.out) | exact HB.out))) : w.heap.size ≤ gb221)); have n6_ := Aside0.mk ((by rw [hg]; exact (below_size (by repeat (first | (with_reducible first | exact HB.out | apply below_alloc | apply pw_below_drewN | apply below_drew1 | refine below_set ?_ GE212.out | refine below_set ?_ GE218.out) | exact HB.out))) : w.heap.size ≤ gb221)); have n7_ := Aside0.mk ((by rw [hg]; exact Nat.ne_of_lt (blk_lt (g := gb212) (o := .cells #[.slice none 0 0, .int .i64 0, .int .i64 0] 46 (0, 0)) (by (with_reducible repeat (first | refine blk_drewN ?_ _ | refine blk_drew ?_ | refine blk_alloc ?_ _)); exact BK212.out)) : gb212 ≠ gb221)); have n8_ := Aside0.mk ((by rw [hg]; exact Nat.ne_of_gt (blk_lt (g := gb212) (o := .cells #[.slice none 0 0, .int .i64 0, .int .i64 0] 46 (0, 0)) (by (with_reducible repeat (first | refine blk_drewN ?_ _ | refine blk_drew ?_ | refine blk_alloc ?_ _)); exact BK212.out)) : gb221 ≠ gb212)); have n9_ := Aside0.mk ((by rw [hg]; exact Nat.ne_of_lt (blk_lt (g := gb218) (o := .cells #[.slice Ao9 t213.length co9, .int .i64 t216, .int .i64 t217] 46 (0, 0)) (by (with_reducible repeat (first | refine blk_drewN ?_ _ | refine blk_drew ?_ | refine blk_alloc ?_ _)); exact BK218.out)) : gb218 ≠ gb221)); have n10_ := Aside0.mk ((by rw [hg]; exact Nat.ne_of_gt (blk_lt (g := gb218) (o := .cells #[.slice Ao9 t213.length co9, .int .i64 t216, .int .i64 t217] 46 (0, 0)) (by (with_reducible repeat (first | refine blk_drewN ?_ _ | refine blk_drew ?_ | refine blk_alloc ?_ _)); exact BK218.out)) : gb221 ≠ gb218)); clear HO215; clear BK212; clear BK218; clear HB; have HO215 := n0_; have BK212 := n1_; have BK218 := n2_; have HB := n3_; have BK221 := n4_; have GW221 := n5_; have GE221 := n6_; have NB212_221 := n7_; have NB221_212 := n8_; have NB218_221 := n9_; have NB221_218 := n10_; clear n0_ n1_ n2_ n3_ n4_ n5_ n6_ n7_ n8_ n9_ n10_; clear hb hbox hg; have hnb14 := NB221_212.out; have hnc14 := NB212_221.out; have hnb15 := NB221_218.out; have hnc15 := NB218_221.out; have hcz16_0 : w13.cell? ⟨gb221, 0, none⟩ = some (.int .i64 0) := (blk_cell BK221.out 0).trans rfl; have hcz16_1 : w13.cell? ⟨gb221, 1, none⟩ = some (.int .i64 0) := (blk_cell BK221.out 1).trans rfl; have hfz16_0 := blk_frozen BK221.out 0; have hfz16_1 := blk_frozen BK221.out 1; have hcz17_0 : w13.cell? ⟨gb218, 0, none⟩ = some (.slice Ao9 t213.length co9) := (blk_cell BK218.out 0).trans rfl; have hcz17_1 : w13.cell? ⟨gb218, 1, none⟩ = some (.int .i64 t216) := (blk_cell BK218.out 1).trans rfl; have hcz17_2 : w13.cell? ⟨gb218, 2, none⟩ = some (.int .i64 t217) := (blk_cell BK218.out 2).trans rfl; have hfz17_0 := blk_frozen BK218.out 0; have hfz17_1 := blk_frozen BK218.out 1; have hfz17_2 := blk_frozen BK218.out 2; have hcz18_0 : w13.cell? ⟨gb212, 0, none⟩ = some (.slice none 0 0) := (blk_cell BK212.out 0).trans rfl; have hcz18_1 : w13.cell? ⟨gb212, 1, none⟩ = some (.int .i64 0) := (blk_cell BK212.out 1).trans rfl; have hcz18_2 : w13.cell? ⟨gb212, 2, none⟩ = some (.int .i64 0) := (blk_cell BK212.out 2).trans rfl; have hfz18_0 := blk_frozen BK212.out 0; have hfz18_1 := blk_frozen BK212.out 1; have hfz18_2 := blk_frozen BK212.out 2))
      refine bodyPost_ret (results_cell_row rfl _ _ gb212 46 #[.slice Ao9 t213.length co9, .int .i64 t219, .int .i64 0] (0, 0) _ rfl (by (with_reducible repeat (first | refine blk_drewN ?_ _ | refine blk_drew ?_ | refine blk_alloc ?_ _)); refine blk_put (cs := #[.slice Ao9 t213.length co9, .int .i64 t219, .int .i64 0]) ?_ 2 _ rfl; (with_reducible repeat (first | refine blk_drewN ?_ _ | refine blk_drew ?_ | refine blk_alloc ?_ _)); refine blk_put (cs := #[.slice Ao9 t213.length co9, .int .i64 0, .int .i64 0]) ?_ 1 _ rfl; (with_reducible repeat (first | refine blk_drewN ?_ _ | refine blk_drew ?_ | refine blk_alloc ?_ _)); refine blk_put (cs := #[.slice none 0 0, .int .i64 0, .int .i64 0]) ?_ 0 _ rfl; (with_reducible repeat (first | refine blk_drewN ?_ _ | refine blk_drew ?_ | refine blk_alloc ?_ _)); refine blk_far ?_ NB212_221.out _; (with_reducible repeat (first | refine blk_drewN ?_ _ | refine blk_drew ?_ | refine blk_alloc ?_ _)); refine blk_far ?_ NB212_221.out _; (with_reducible repeat (first | refine blk_drewN ?_ _ | refine blk_drew ?_ | refine blk_alloc ?_ _)); exact BK212.out) Try.underlying46 rfl (by kernel_rfl)) rfl ?_
      exact ⟨_, by first | rfl | (simp [errW_none, errW_some] <;> rfl) | (simp [*, errW_none, errW_some] <;> rfl), by (with_reducible repeat (first | apply Kd.R_alloc | apply Kd.R_drewN | apply Kd.R_drew)); exact Kd.R_mono (Kd.R_far (p := ⟨gb212, 2, none⟩) (Kd.R_far (p := ⟨gb212, 1, none⟩) (Kd.R_far (p := ⟨gb212, 0, none⟩) (Kd.R_far (p := ⟨gb221, 1, none⟩) (Kd.R_far (p := ⟨gb221, 0, none⟩) (Kd.R_types (Kd.R_types HO215.out BK221.out (by decide)) BK212.out (by decide)) (fun _ hk => hk.1.2) (.int .i64 t219)) (fun _ hk => hk.1.2) (.int .i64 t220)) (fun _ hk => hk.2) (.slice Ao9 t213.length co9)) (fun _ hk => hk.2) (.int .i64 t219)) (fun _ hk => hk.2) (.int .i64 0)) (fun _ hk => trivial), by repeat (first | (with_reducible first | exact HB.out | apply below_alloc | apply pw_below_drewN | apply below_drew1 | refine below_set ?_ GE212.out | refine below_set ?_ GE218.out | refine below_set ?_ GE221.out) | exact HB.out)⟩
    · rw [if_neg c5] at H
      have c5b0 : (t220 == 0) = false := beq_eq_false_iff_ne.mpr c5
      have c5b1 : (t220 != 0) = true := bne_iff_ne.mpr c5
      simp only [Option.some.injEq, Prod.mk.injEq] at H
      obtain ⟨rfl, rfl, rfl⟩ := H
      go_enter Try.func21, Try.ntmps21
      go_wp2_with (first | ((with_reducible refine gate_dst (N := 2) rfl ?_); refine box_event ?hg (N := 2) ?hd (cs := #[.slice none 0 0, .int .i64 0, .int .i64 0]) (t := 46) ?hr ?_; (case hd => rfl); (case hg => rfl); (case hr => first | (go_simp; done) | (go_simp; rfl)); intro gb212 hg w19 hbox hb; have n0_ := Aside0.mk (below_step (by repeat (first | (with_reducible first | exact HB.out | apply below_alloc | apply pw_below_drewN | apply below_drew1) | exact HB.out)) hb); have n1_ := Aside0.mk (hbox); have n2_ := Aside0.mk ((by rw [hg]; exact (below_size (by repeat (first | (with_reducible first | exact HB.out | apply below_alloc | apply pw_below_drewN | apply below_drew1) | exact HB.out))) : w.heap.size ≤ gb212)); have n3_ := Aside0.mk ((by rw [hg]; exact (below_size (by repeat (first | (with_reducible first | exact HB.out | apply below_alloc | apply pw_below_drewN | apply below_drew1) | exact HB.out))) : w.heap.size ≤ gb212)); clear HB; have HB := n0_; have BK212 := n1_; have GW212 := n2_; have GE212 := n3_; clear n0_ n1_ n2_ n3_; clear hb hbox hg) | ((with_reducible refine gate_callee (f := 20) rfl ?_); refine goesL_ (some 6) rfl rfl Try.func20 (by kernel_rfl) rfl #[.string a0] rfl (by (try simp only [List.map_toArray, List.map_cons, List.map_nil]); first | done | rfl | (simp only [List.length_drop, List.length_take]; rfl)) ?_; (with_reducible refine (cadencyref05_Read.calls a0 t213 t216 t217 _ A2.out).mono ?_); rintro e w20 ⟨v214, rfl, ho0, hb⟩; refine ⟨_, rfl, ?_⟩; have n0_ := Aside0.mk (Kd.R_lower ho0 (below_size (by repeat (first | (with_reducible first | exact HB.out | apply below_alloc | apply pw_below_drewN | apply below_drew1 | refine below_set ?_ GE212.out) | exact HB.out)))); have n1_ := Aside0.mk (blk_below (g := gb212) (o := .cells #[.slice none 0 0, .int .i64 0, .int .i64 0] 46 (0, 0)) (by (with_reducible repeat (first | refine blk_drewN ?_ _ | refine blk_drew ?_ | refine blk_alloc ?_ _)); exact BK212.out) hb); have n2_ := Aside0.mk (below_step (by repeat (first | (with_reducible first | exact HB.out | apply below_alloc | apply pw_below_drewN | apply below_drew1 | refine below_set ?_ GE212.out) | exact HB.out)) hb); clear BK212; clear HB; have HO215 := n0_; have BK212 := n1_; have HB := n2_; clear n0_ n1_ n2_; (try clear hb); (try clear hb2); (try clear hk); (try clear hi); (try clear ho0)) | ((with_reducible refine gate_dst (N := 3) rfl ?_); refine box_event ?hg (N := 3) ?hd (cs := #[.slice none 0 0, .int .i64 0, .int .i64 0]) (t := 46) ?hr ?_; (case hd => rfl); (case hg => rfl); (case hr => first | (go_simp; done) | (go_simp; rfl)); intro gb218 hg w21 hbox hb; have n0_ := Aside0.mk (Kd.R_below (by (with_reducible repeat (first | apply Kd.R_alloc | apply Kd.R_drewN | apply Kd.R_drew)); exact HO215.out) hb); have n1_ := Aside0.mk (blk_below (g := gb212) (o := .cells #[.slice none 0 0, .int .i64 0, .int .i64 0] 46 (0, 0)) (by (with_reducible repeat (first | refine blk_drewN ?_ _ | refine blk_drew ?_ | refine blk_alloc ?_ _)); exact BK212.out) hb); have n2_ := Aside0.mk (below_step (by repeat (first | (with_reducible first | exact HB.out | apply below_alloc | apply pw_below_drewN | apply below_drew1 | refine below_set ?_ GE212.out) | exact HB.out)) hb); have n3_ := Aside0.mk (hbox); have n4_ := Aside0.mk ((by rw [hg]; exact (below_size (by repeat (first | (with_reducible first | exact HB.out | apply below_alloc | apply pw_below_drewN | apply below_drew1 | refine below_set ?_ GE212.out) | exact HB.out))) : w.heap.size ≤ gb218)); have n5_ := Aside0.mk ((by rw [hg]; exact (below_size (by repeat (first | (with_reducible first | exact HB.out | apply below_alloc | apply pw_below_drewN | apply below_drew1 | refine below_set ?_ GE212.out) | exact HB.out))) : w.heap.size ≤ gb218)); have n6_ := Aside0.mk ((by rw [hg]; exact Nat.ne_of_lt (blk_lt (g := gb212) (o := .cells #[.slice none 0 0, .int .i64 0, .int .i64 0] 46 (0, 0)) (by (with_reducible repeat (first | refine blk_drewN ?_ _ | refine blk_drew ?_ | refine blk_alloc ?_ _)); exact BK212.out)) : gb212 ≠ gb218)); have n7_ := Aside0.mk ((by rw [hg]; exact Nat.ne_of_gt (blk_lt (g := gb212) (o := .cells #[.slice none 0 0, .int .i64 0, .int .i64 0] 46 (0, 0)) (by (with_reducible repeat (first | refine blk_drewN ?_ _ | refine blk_drew ?_ | refine blk_alloc ?_ _)); exact BK212.out)) : gb218 ≠ gb212)); clear HO215; clear BK212; clear HB; have HO215 := n0_; have BK212 := n1_; have HB := n2_; have BK218 := n3_; have GW218 := n4_; have GE218 := n5_; have NB212_218 := n6_; have NB218_212 := n7_; clear n0_ n1_ n2_ n3_ n4_ n5_ n6_ n7_; clear hb hbox hg; obtain ⟨Ao22, co22, eo22⟩ := Kd.R_slice HO215.out; subst eo22; have hnb23 := NB218_212.out; have hnc23 := NB212_218.out; have hcz24_0 : w21.cell? ⟨gb218, 0, none⟩ = some (.slice none 0 0) := (blk_cell BK218.out 0).trans rfl; have hcz24_1 : w21.cell? ⟨gb218, 1, none⟩ = some (.int .i64 0) := (blk_cell BK218.out 1).trans rfl; have hcz24_2 : w21.cell? ⟨gb218, 2, none⟩ = some (.int .i64 0) := (blk_cell BK218.out 2).trans rfl; have hfz24_0 := blk_frozen BK218.out 0; have hfz24_1 := blk_frozen BK218.out 1; have hfz24_2 := blk_frozen BK218.out 2) | ((with_reducible refine gate_callee (f := 32) rfl ?_); refine goesL_ (some 13) rfl rfl Try.func32 (by kernel_rfl) rfl #[.slice Ao22 t213.length co22] rfl (by (try simp only [List.map_toArray, List.map_cons, List.map_nil]); first | done | rfl | (simp only [List.length_drop, List.length_take]; rfl)) ?_; (with_reducible refine (cadencyref04_CheckAll.calls k _ _ t213 t219 t220 _ ?side1 ?side2 A4.out).mono ?_); (case side1 => refine (Kd.R_reads' (e := 33) (base := w.heap.size) (ok := fun k_ => True) (n := t213.length) (c := co22) ?_).2.2; exact (by (with_reducible repeat (first | apply Kd.R_alloc | apply Kd.R_drewN | apply Kd.R_drew)); exact (Kd.R_mono (Kd.R_far (p := ⟨gb218, 2, none⟩) (Kd.R_far (p := ⟨gb218, 1, none⟩) (Kd.R_far (p := ⟨gb218, 0, none⟩) (Kd.R_types HO215.out BK218.out (by decide)) (fun _ hk => hk.2) (.slice Ao22 t213.length co22)) (fun _ hk => hk.2) (.int .i64 t216)) (fun _ hk => hk.2) (.int .i64 t217)) (fun _ h_ => h_.1)))); (case side2 => exact (Kd.R_reads' HO215.out).2.1); rintro e w25 ⟨rfl, hb⟩; refine ⟨_, rfl, ?_⟩; have n0_ := Aside0.mk (Kd.R_below (by (with_reducible repeat (first | apply Kd.R_alloc | apply Kd.R_drewN | apply Kd.R_drew)); exact (Kd.R_mono (Kd.R_far (p := ⟨gb218, 2, none⟩) (Kd.R_far (p := ⟨gb218, 1, none⟩) (Kd.R_far (p := ⟨gb218, 0, none⟩) (Kd.R_types HO215.out BK218.out (by decide)) (fun _ hk => hk.2) (.slice Ao22 t213.length co22)) (fun _ hk => hk.2) (.int .i64 t216)) (fun _ hk => hk.2) (.int .i64 t217)) (fun _ h_ => h_.1))) hb); have n1_ := Aside0.mk (blk_below (g := gb212) (o := .cells #[.slice none 0 0, .int .i64 0, .int .i64 0] 46 (0, 0)) (by (with_reducible repeat (first | refine blk_drewN ?_ _ | refine blk_drew ?_ | refine blk_alloc ?_ _)); refine blk_far ?_ NB212_218.out _; (with_reducible repeat (first | refine blk_drewN ?_ _ | refine blk_drew ?_ | refine blk_alloc ?_ _)); refine blk_far ?_ NB212_218.out _; (with_reducible repeat (first | refine blk_drewN ?_ _ | refine blk_drew ?_ | refine blk_alloc ?_ _)); refine blk_far ?_ NB212_218.out _; (with_reducible repeat (first | refine blk_drewN ?_ _ | refine blk_drew ?_ | refine blk_alloc ?_ _)); exact BK212.out) hb); have n2_ := Aside0.mk (blk_below (g := gb218) (o := .cells #[.slice Ao22 t213.length co22, .int .i64 t216, .int .i64 t217] 46 (0, 0)) (by (with_reducible repeat (first | refine blk_drewN ?_ _ | refine blk_drew ?_ | refine blk_alloc ?_ _)); refine blk_put (cs := #[.slice Ao22 t213.length co22, .int .i64 t216, .int .i64 0]) ?_ 2 _ rfl; (with_reducible repeat (first | refine blk_drewN ?_ _ | refine blk_drew ?_ | refine blk_alloc ?_ _)); refine blk_put (cs := #[.slice Ao22 t213.length co22, .int .i64 0, .int .i64 0]) ?_ 1 _ rfl; (with_reducible repeat (first | refine blk_drewN ?_ _ | refine blk_drew ?_ | refine blk_alloc ?_ _)); refine blk_put (cs := #[.slice none 0 0, .int .i64 0, .int .i64 0]) ?_ 0 _ rfl; (with_reducible repeat (first | refine blk_drewN ?_ _ | refine blk_drew ?_ | refine blk_alloc ?_ _)); exact BK218.out) hb); have n3_ := Aside0.mk (below_step (by repeat (first | (with_reducible first | exact HB.out | apply below_alloc | apply pw_below_drewN | apply below_drew1 | refine below_set ?_ GE212.out | refine below_set ?_ GE218.out) | exact HB.out)) hb); clear HO215; clear BK212; clear BK218; clear HB; have HO215 := n0_; have BK212 := n1_; have BK218 := n2_; have HB := n3_; clear n0_ n1_ n2_ n3_; (try clear hb); (try clear hb2); (try clear hk); (try clear hi)) | ((with_reducible refine gate_dst (N := 4) rfl ?_); refine box_event ?hg (N := 4) ?hd (cs := #[.int .i64 0, .int .i64 0]) (t := 74) ?hr ?_; (case hd => rfl); (case hg => rfl); (case hr => first | (go_simp; done) | (go_simp; rfl)); intro gb221 hg w26 hbox hb; have n0_ := Aside0.mk (Kd.R_below (by (with_reducible repeat (first | apply Kd.R_alloc | apply Kd.R_drewN | apply Kd.R_drew)); exact HO215.out) hb); have n1_ := Aside0.mk (blk_below (g := gb212) (o := .cells #[.slice none 0 0, .int .i64 0, .int .i64 0] 46 (0, 0)) (by (with_reducible repeat (first | refine blk_drewN ?_ _ | refine blk_drew ?_ | refine blk_alloc ?_ _)); exact BK212.out) hb); have n2_ := Aside0.mk (blk_below (g := gb218) (o := .cells #[.slice Ao22 t213.length co22, .int .i64 t216, .int .i64 t217] 46 (0, 0)) (by (with_reducible repeat (first | refine blk_drewN ?_ _ | refine blk_drew ?_ | refine blk_alloc ?_ _)); exact BK218.out) hb); have n3_ := Aside0.mk (below_step (by repeat (first | (with_reducible first | exact HB.out | apply below_alloc | apply pw_below_drewN | apply below_drew1 | refine below_set ?_ GE212.out | refine below_set ?_ GE218.out) | exact HB.out)) hb); have n4_ := Aside0.mk (hbox); have n5_ := Aside0.mk ((by rw [hg]; exact (below_size (by repeat (first | (with_reducible first | exact HB.out | apply below_alloc | apply pw_below_drewN | apply below_drew1 | refine below_set ?_ GE212.out | refine below_set ?_ GE218.out) | exact HB.out))) : w.heap.size ≤ gb221)); have n6_ := Aside0.mk ((by rw [hg]; exact (below_size (by repeat (first | (with_reducible first | exact HB.out | apply below_alloc | apply pw_below_drewN | apply below_drew1 | refine below_set ?_ GE212.out | refine below_set ?_ GE218.out) | exact HB.out))) : w.heap.size ≤ gb221)); have n7_ := Aside0.mk ((by rw [hg]; exact Nat.ne_of_lt (blk_lt (g := gb212) (o := .cells #[.slice none 0 0, .int .i64 0, .int .i64 0] 46 (0, 0)) (by (with_reducible repeat (first | refine blk_drewN ?_ _ | refine blk_drew ?_ | refine blk_alloc ?_ _)); exact BK212.out)) : gb212 ≠ gb221)); have n8_ := Aside0.mk ((by rw [hg]; exact Nat.ne_of_gt (blk_lt (g := gb212) (o := .cells #[.slice none 0 0, .int .i64 0, .int .i64 0] 46 (0, 0)) (by (with_reducible repeat (first | refine blk_drewN ?_ _ | refine blk_drew ?_ | refine blk_alloc ?_ _)); exact BK212.out)) : gb221 ≠ gb212)); have n9_ := Aside0.mk ((by rw [hg]; exact Nat.ne_of_lt (blk_lt (g := gb218) (o := .cells #[.slice Ao22 t213.length co22, .int .i64 t216, .int .i64 t217] 46 (0, 0)) (by (with_reducible repeat (first | refine blk_drewN ?_ _ | refine blk_drew ?_ | refine blk_alloc ?_ _)); exact BK218.out)) : gb218 ≠ gb221)); have n10_ := Aside0.mk ((by rw [hg]; exact Nat.ne_of_gt (blk_lt (g := gb218) (o := .cells #[.slice Ao22 t213.length co22, .int .i64 t216, .int .i64 t217] 46 (0, 0)) (by (with_reducible repeat (first | refine blk_drewN ?_ _ | refine blk_drew ?_ | refine blk_alloc ?_ _)); exact BK218.out)) : gb221 ≠ gb218)); clear HO215; clear BK212; clear BK218; clear HB; have HO215 := n0_; have BK212 := n1_; have BK218 := n2_; have HB := n3_; have BK221 := n4_; have GW221 := n5_; have GE221 := n6_; have NB212_221 := n7_; have NB221_212 := n8_; have NB218_221 := n9_; have NB221_218 := n10_; clear n0_ n1_ n2_ n3_ n4_ n5_ n6_ n7_ n8_ n9_ n10_; clear hb hbox hg; have hnb27 := NB221_212.out; have hnc27 := NB212_221.out; have hnb28 := NB221_218.out; have hnc28 := NB218_221.out; have hcz29_0 : w26.cell? ⟨gb221, 0, none⟩ = some (.int .i64 0) := (blk_cell BK221.out 0).trans rfl; have hcz29_1 : w26.cell? ⟨gb221, 1, none⟩ = some (.int .i64 0) := (blk_cell BK221.out 1).trans rfl; have hfz29_0 := blk_frozen BK221.out 0; have hfz29_1 := blk_frozen BK221.out 1; have hcz30_0 : w26.cell? ⟨gb212, 0, none⟩ = some (.slice none 0 0) := (blk_cell BK212.out 0).trans rfl; have hcz30_1 : w26.cell? ⟨gb212, 1, none⟩ = some (.int .i64 0) := (blk_cell BK212.out 1).trans rfl; have hcz30_2 : w26.cell? ⟨gb212, 2, none⟩ = some (.int .i64 0) := (blk_cell BK212.out 2).trans rfl; have hfz30_0 := blk_frozen BK212.out 0; have hfz30_1 := blk_frozen BK212.out 1; have hfz30_2 := blk_frozen BK212.out 2))
      refine bodyPost_ret (results_cell_row rfl _ _ gb212 46 #[.slice none 0 0, .int .i64 t219, .int .i64 t220] (0, 0) _ rfl (by (with_reducible repeat (first | refine blk_drewN ?_ _ | refine blk_drew ?_ | refine blk_alloc ?_ _)); refine blk_put (cs := #[.slice none 0 0, .int .i64 t219, .int .i64 0]) ?_ 2 _ rfl; (with_reducible repeat (first | refine blk_drewN ?_ _ | refine blk_drew ?_ | refine blk_alloc ?_ _)); refine blk_put (cs := #[.slice none 0 0, .int .i64 0, .int .i64 0]) ?_ 1 _ rfl; (with_reducible repeat (first | refine blk_drewN ?_ _ | refine blk_drew ?_ | refine blk_alloc ?_ _)); refine blk_put (cs := #[.slice none 0 0, .int .i64 0, .int .i64 0]) ?_ 0 _ rfl; (with_reducible repeat (first | refine blk_drewN ?_ _ | refine blk_drew ?_ | refine blk_alloc ?_ _)); refine blk_far ?_ NB212_221.out _; (with_reducible repeat (first | refine blk_drewN ?_ _ | refine blk_drew ?_ | refine blk_alloc ?_ _)); refine blk_far ?_ NB212_221.out _; (with_reducible repeat (first | refine blk_drewN ?_ _ | refine blk_drew ?_ | refine blk_alloc ?_ _)); exact BK212.out) Try.underlying46 rfl (by kernel_rfl)) rfl ?_
      exact ⟨_, by first | rfl | (simp [errW_none, errW_some] <;> rfl) | (simp [*, errW_none, errW_some] <;> rfl), by first | exact Kd.R_nil _ _ _ _ _ | exact Kd.N_nil _ _ _ _ _ | exact Kd.V_nil _ _ _ _ _ | exact Kd.Q_nil _ _ _ _ _ | exact Kd.S_nil _ _ _ _ _, by repeat (first | (with_reducible first | exact HB.out | apply below_alloc | apply pw_below_drewN | apply below_drew1 | refine below_set ?_ GE212.out | refine below_set ?_ GE218.out | refine below_set ?_ GE221.out) | exact HB.out)⟩
  · rw [if_neg c3] at H
    have c3b0 : (t217 == 0) = false := beq_eq_false_iff_ne.mpr c3
    have c3b1 : (t217 != 0) = true := bne_iff_ne.mpr c3
    simp only [Option.some.injEq, Prod.mk.injEq] at H
    obtain ⟨rfl, rfl, rfl⟩ := H
    go_enter Try.func21, Try.ntmps21
    go_wp2_with (first | ((with_reducible refine gate_dst (N := 2) rfl ?_); refine box_event ?hg (N := 2) ?hd (cs := #[.slice none 0 0, .int .i64 0, .int .i64 0]) (t := 46) ?hr ?_; (case hd => rfl); (case hg => rfl); (case hr => first | (go_simp; done) | (go_simp; rfl)); intro gb212 hg w31 hbox hb; have n0_ := Aside0.mk (below_step (by repeat (first | (with_reducible first | exact HB.out | apply below_alloc | apply pw_below_drewN | apply below_drew1) | exact HB.out)) hb); have n1_ := Aside0.mk (hbox); have n2_ := Aside0.mk ((by rw [hg]; exact (below_size (by repeat (first | (with_reducible first | exact HB.out | apply below_alloc | apply pw_below_drewN | apply below_drew1) | exact HB.out))) : w.heap.size ≤ gb212)); have n3_ := Aside0.mk ((by rw [hg]; exact (below_size (by repeat (first | (with_reducible first | exact HB.out | apply below_alloc | apply pw_below_drewN | apply below_drew1) | exact HB.out))) : w.heap.size ≤ gb212)); clear HB; have HB := n0_; have BK212 := n1_; have GW212 := n2_; have GE212 := n3_; clear n0_ n1_ n2_ n3_; clear hb hbox hg) | ((with_reducible refine gate_callee (f := 20) rfl ?_); refine goesL_ (some 6) rfl rfl Try.func20 (by kernel_rfl) rfl #[.string a0] rfl (by (try simp only [List.map_toArray, List.map_cons, List.map_nil]); first | done | rfl | (simp only [List.length_drop, List.length_take]; rfl)) ?_; (with_reducible refine (cadencyref05_Read.calls a0 t213 t216 t217 _ A2.out).mono ?_); rintro e w32 ⟨v214, rfl, ho0, hb⟩; refine ⟨_, rfl, ?_⟩; have n0_ := Aside0.mk (Kd.R_lower ho0 (below_size (by repeat (first | (with_reducible first | exact HB.out | apply below_alloc | apply pw_below_drewN | apply below_drew1 | refine below_set ?_ GE212.out) | exact HB.out)))); have n1_ := Aside0.mk (blk_below (g := gb212) (o := .cells #[.slice none 0 0, .int .i64 0, .int .i64 0] 46 (0, 0)) (by (with_reducible repeat (first | refine blk_drewN ?_ _ | refine blk_drew ?_ | refine blk_alloc ?_ _)); exact BK212.out) hb); have n2_ := Aside0.mk (below_step (by repeat (first | (with_reducible first | exact HB.out | apply below_alloc | apply pw_below_drewN | apply below_drew1 | refine below_set ?_ GE212.out) | exact HB.out)) hb); clear BK212; clear HB; have HO215 := n0_; have BK212 := n1_; have HB := n2_; clear n0_ n1_ n2_; (try clear hb); (try clear hb2); (try clear hk); (try clear hi); (try clear ho0)) | ((with_reducible refine gate_dst (N := 3) rfl ?_); refine box_event ?hg (N := 3) ?hd (cs := #[.slice none 0 0, .int .i64 0, .int .i64 0]) (t := 46) ?hr ?_; (case hd => rfl); (case hg => rfl); (case hr => first | (go_simp; done) | (go_simp; rfl)); intro gb218 hg w33 hbox hb; have n0_ := Aside0.mk (Kd.R_below (by (with_reducible repeat (first | apply Kd.R_alloc | apply Kd.R_drewN | apply Kd.R_drew)); exact HO215.out) hb); have n1_ := Aside0.mk (blk_below (g := gb212) (o := .cells #[.slice none 0 0, .int .i64 0, .int .i64 0] 46 (0, 0)) (by (with_reducible repeat (first | refine blk_drewN ?_ _ | refine blk_drew ?_ | refine blk_alloc ?_ _)); exact BK212.out) hb); have n2_ := Aside0.mk (below_step (by repeat (first | (with_reducible first | exact HB.out | apply below_alloc | apply pw_below_drewN | apply below_drew1 | refine below_set ?_ GE212.out) | exact HB.out)) hb); have n3_ := Aside0.mk (hbox); have n4_ := Aside0.mk ((by rw [hg]; exact (below_size (by repeat (first | (with_reducible first | exact HB.out | apply below_alloc | apply pw_below_drewN | apply below_drew1 | refine below_set ?_ GE212.out) | exact HB.out))) : w.heap.size ≤ gb218)); have n5_ := Aside0.mk ((by rw [hg]; exact (below_size (by repeat (first | (with_reducible first | exact HB.out | apply below_alloc | apply pw_below_drewN | apply below_drew1 | refine below_set ?_ GE212.out) | exact HB.out))) : w.heap.size ≤ gb218)); have n6_ := Aside0.mk ((by rw [hg]; exact Nat.ne_of_lt (blk_lt (g := gb212) (o := .cells #[.slice none 0 0, .int .i64 0, .int .i64 0] 46 (0, 0)) (by (with_reducible repeat (first | refine blk_drewN ?_ _ | refine blk_drew ?_ | refine blk_alloc ?_ _)); exact BK212.out)) : gb212 ≠ gb218)); have n7_ := Aside0.mk ((by rw [hg]; exact Nat.ne_of_gt (blk_lt (g := gb212) (o := .cells #[.slice none 0 0, .int .i64 0, .int .i64 0] 46 (0, 0)) (by (with_reducible repeat (first | refine blk_drewN ?_ _ | refine blk_drew ?_ | refine blk_alloc ?_ _)); exact BK212.out)) : gb218 ≠ gb212)); clear HO215; clear BK212; clear HB; have HO215 := n0_; have BK212 := n1_; have HB := n2_; have BK218 := n3_; have GW218 := n4_; have GE218 := n5_; have NB212_218 := n6_; have NB218_212 := n7_; clear n0_ n1_ n2_ n3_ n4_ n5_ n6_ n7_; clear hb hbox hg; obtain ⟨Ao34, co34, eo34⟩ := Kd.R_slice HO215.out; subst eo34; have hnb35 := NB218_212.out; have hnc35 := NB212_218.out; have hcz36_0 : w33.cell? ⟨gb218, 0, none⟩ = some (.slice none 0 0) := (blk_cell BK218.out 0).trans rfl; have hcz36_1 : w33.cell? ⟨gb218, 1, none⟩ = some (.int .i64 0) := (blk_cell BK218.out 1).trans rfl; have hcz36_2 : w33.cell? ⟨gb218, 2, none⟩ = some (.int .i64 0) := (blk_cell BK218.out 2).trans rfl; have hfz36_0 := blk_frozen BK218.out 0; have hfz36_1 := blk_frozen BK218.out 1; have hfz36_2 := blk_frozen BK218.out 2; have hcz37_0 : w33.cell? ⟨gb212, 0, none⟩ = some (.slice none 0 0) := (blk_cell BK212.out 0).trans rfl; have hcz37_1 : w33.cell? ⟨gb212, 1, none⟩ = some (.int .i64 0) := (blk_cell BK212.out 1).trans rfl; have hcz37_2 : w33.cell? ⟨gb212, 2, none⟩ = some (.int .i64 0) := (blk_cell BK212.out 2).trans rfl; have hfz37_0 := blk_frozen BK212.out 0; have hfz37_1 := blk_frozen BK212.out 1; have hfz37_2 := blk_frozen BK212.out 2))
    refine bodyPost_ret (results_cell_row rfl _ _ gb212 46 #[.slice Ao34 t213.length co34, .int .i64 t216, .int .i64 t217] (0, 0) _ rfl (by (with_reducible repeat (first | refine blk_drewN ?_ _ | refine blk_drew ?_ | refine blk_alloc ?_ _)); refine blk_put (cs := #[.slice Ao34 t213.length co34, .int .i64 t216, .int .i64 0]) ?_ 2 _ rfl; (with_reducible repeat (first | refine blk_drewN ?_ _ | refine blk_drew ?_ | refine blk_alloc ?_ _)); refine blk_put (cs := #[.slice Ao34 t213.length co34, .int .i64 0, .int .i64 0]) ?_ 1 _ rfl; (with_reducible repeat (first | refine blk_drewN ?_ _ | refine blk_drew ?_ | refine blk_alloc ?_ _)); refine blk_put (cs := #[.slice none 0 0, .int .i64 0, .int .i64 0]) ?_ 0 _ rfl; (with_reducible repeat (first | refine blk_drewN ?_ _ | refine blk_drew ?_ | refine blk_alloc ?_ _)); refine blk_far ?_ NB212_218.out _; (with_reducible repeat (first | refine blk_drewN ?_ _ | refine blk_drew ?_ | refine blk_alloc ?_ _)); refine blk_far ?_ NB212_218.out _; (with_reducible repeat (first | refine blk_drewN ?_ _ | refine blk_drew ?_ | refine blk_alloc ?_ _)); refine blk_far ?_ NB212_218.out _; (with_reducible repeat (first | refine blk_drewN ?_ _ | refine blk_drew ?_ | refine blk_alloc ?_ _)); exact BK212.out) Try.underlying46 rfl (by kernel_rfl)) rfl ?_
    exact ⟨_, by first | rfl | (simp [errW_none, errW_some] <;> rfl) | (simp [*, errW_none, errW_some] <;> rfl), by (with_reducible repeat (first | apply Kd.R_alloc | apply Kd.R_drewN | apply Kd.R_drew)); exact Kd.R_mono (Kd.R_far (p := ⟨gb212, 2, none⟩) (Kd.R_far (p := ⟨gb212, 1, none⟩) (Kd.R_far (p := ⟨gb212, 0, none⟩) (Kd.R_far (p := ⟨gb218, 2, none⟩) (Kd.R_far (p := ⟨gb218, 1, none⟩) (Kd.R_far (p := ⟨gb218, 0, none⟩) (Kd.R_types (Kd.R_types HO215.out BK218.out (by decide)) BK212.out (by decide)) (fun _ hk => hk.1.2) (.slice Ao34 t213.length co34)) (fun _ hk => hk.1.2) (.int .i64 t216)) (fun _ hk => hk.1.2) (.int .i64 t217)) (fun _ hk => hk.2) (.slice Ao34 t213.length co34)) (fun _ hk => hk.2) (.int .i64 t216)) (fun _ hk => hk.2) (.int .i64 t217)) (fun _ hk => trivial), by repeat (first | (with_reducible first | exact HB.out | apply below_alloc | apply pw_below_drewN | apply below_drew1 | refine below_set ?_ GE212.out | refine below_set ?_ GE218.out) | exact HB.out)⟩

/-! ### cadencyref05_Same: function 22 -/
def cadencyref05_Same.l0 : Nat → List (S33) → List (S33) → Int → Option (Bool)
  | 0, _, _, _ => none
  | k + 1, x0, x1, x5 => if x5 < (x0.length : Int) then (if 0 ≤ x5 then (if x5 < (x1.length : Int) then (if (!((((rd_T33 x0 x5).f0).toList) == (((rd_T33 x1 x5).f0).toList)) || (!(((rd_T33 x0 x5).f1) == ((rd_T33 x1 x5).f1)) || (!(((rd_T33 x0 x5).f2) == ((rd_T33 x1 x5).f2)) || (!(((rd_T33 x0 x5).f3) == ((rd_T33 x1 x5).f3)) || (!(((rd_T33 x0 x5).f4) == ((rd_T33 x1 x5).f4)) || (!(((rd_T33 x0 x5).f5) == ((rd_T33 x1 x5).f5)) || (!(((rd_T33 x0 x5).f6) == ((rd_T33 x1 x5).f6))))))))) = true then (some false) else (cadencyref05_Same.l0 k x0 x1 (wrap64 (x5 + 1)))) else (none)) else (none)) else (some true)
def cadencyref05_Same.f (k : Nat) (l0 : List (S33)) (l1 : List (S33)) : Option (Bool) := if (l0.length : Int) = (l1.length : Int) then (cadencyref05_Same.l0 k l0 l1 0) else (some false)
set_option maxHeartbeats 8000000 in
set_option maxRecDepth 100000 in
theorem cadencyref05_Same.calls (k : Nat) (A0 : Option Addr) (c0 : Nat) (l0 : List (S33)) (A1 : Option Addr) (c1 : Nat) (l1 : List (S33)) (r : Bool) (w : World) (hr0 : Kd.C k33 w A0 l0.length l0) (hc0 : l0.length ≤ c0) (hr1 : Kd.C k33 w A1 l1.length l1) (hc1 : l1.length ≤ c1) (h : cadencyref05_Same.f k l0 l1 = some r) :
    Calls Try.prog 22 #[.slice A0 l0.length c0, .slice A1 l1.length c1] w fun e w' => e = .returned (.bool r) ∧ Drawn0 w w' := by
  have hu33 := Try.underlying33
  have HR0 := Aside0.mk hr0
  have HC0 := Aside0.mk hc0
  clear hr0 hc0
  have HR1 := Aside0.mk hr1
  have HC1 := Aside0.mk hc1
  clear hr1 hc1
  have H : (if (l0.length : Int) = (l1.length : Int) then (cadencyref05_Same.l0 k l0 l1 0) else (some false)) = some r := h
  clear h
  by_cases c3 : (l0.length : Int) = (l1.length : Int)
  · rw [if_pos c3] at H
    have c3b0 : ((l0.length : Int) == (l1.length : Int)) = true := beq_iff_eq.mpr c3
    have c3b1 : ((l0.length : Int) != (l1.length : Int)) = false := bne_eq_false_iff_eq.mpr c3
    have c3b2 : (l0.length == l1.length) = true := by first | simpa using c3 | (simp at c3 ⊢; omega)
    clear c3
    have H' := Aside0.mk H
    clear H
    go_enter Try.func22, Try.ntmps22
    go_wp2
    repeat (go_quiet (fail); try go_wp2)
    go_loopg [5] k (fun kq v5 w' => ∃ (x5_1 : Int), v5 = .int .i64 x5_1 ∧ Aside0 (cadencyref05_Same.l0 kq l0 l1 x5_1 = some r) ∧ Aside0 (kq ≤ k) ∧ Drawn0 w w')
    case atStart => exact ⟨(0), (by first | rfl | (simp; done) | (simp [*]; done)), H', ⟨Nat.le_refl _⟩, by repeat (first | exact Drawn0.refl _ | apply Drawn0.step)⟩
    case round =>
      clear H'
      try clear c1
      try clear c2
      try clear p2
      try clear c3
      try clear c3b0
      try clear c3b1
      try clear c3b2
      obtain ⟨x5_1, rfl, HA, HK1, ⟨m1, rfl⟩⟩ := hrel
      cases gk with
      | zero => exact absurd HA.out (by simp [cadencyref05_Same.l0])
      | succ k1 =>
        have H := HA.out
        clear HA
        simp only [cadencyref05_Same.l0] at H
        by_cases c4 : x5_1 < (l0.length : Int)
        · rw [if_pos c4] at H
          have c4b0 : decide (x5_1 < (l0.length : Int)) = true := decide_eq_true c4
          clear c4
          by_cases c5 : 0 ≤ x5_1
          rotate_left
          · rw [if_neg c5] at H
            exact absurd H (by simp)
          rw [if_pos c5] at H
          have c5b0 : decide (0 ≤ x5_1) = true := decide_eq_true c5
          clear c5
          by_cases c6 : x5_1 < (l1.length : Int)
          rotate_left
          · rw [if_neg c6] at H
            exact absurd H (by simp)
          rw [if_pos c6] at H
          have c6b0 : decide (x5_1 < (l1.length : Int)) = true := decide_eq_true c6
          clear c6
          by_cases c7 : (!((((rd_T33 l0 x5_1).f0).toList) == (((rd_T33 l1 x5_1).f0).toList)) || (!(((rd_T33 l0 x5_1).f1) == ((rd_T33 l1 x5_1).f1)) || (!(((rd_T33 l0 x5_1).f2) == ((rd_T33 l1 x5_1).f2)) || (!(((rd_T33 l0 x5_1).f3) == ((rd_T33 l1 x5_1).f3)) || (!(((rd_T33 l0 x5_1).f4) == ((rd_T33 l1 x5_1).f4)) || (!(((rd_T33 l0 x5_1).f5) == ((rd_T33 l1 x5_1).f5)) || (!(((rd_T33 l0 x5_1).f6) == ((rd_T33 l1 x5_1).f6))))))))) = true
          · rw [if_pos c7] at H
            have c7b0 : (!((((rd_T33 l0 x5_1).f0).toList) == (((rd_T33 l1 x5_1).f0).toList)) || (!(((rd_T33 l0 x5_1).f1) == ((rd_T33 l1 x5_1).f1)) || (!(((rd_T33 l0 x5_1).f2) == ((rd_T33 l1 x5_1).f2)) || (!(((rd_T33 l0 x5_1).f3) == ((rd_T33 l1 x5_1).f3)) || (!(((rd_T33 l0 x5_1).f4) == ((rd_T33 l1 x5_1).f4)) || (!(((rd_T33 l0 x5_1).f5) == ((rd_T33 l1 x5_1).f5)) || (!(((rd_T33 l0 x5_1).f6) == ((rd_T33 l1 x5_1).f6))))))))) = true := c7
            clear c7
            obtain rfl := Option.some.inj H
            have p222 : 0 ≤ (x5_1 : Int) := of_decide_eq_true (by first | (with_reducible assumption) | assumption)
            have q222 : x5_1 < (l0.length : Int) := of_decide_eq_true (by first | (with_reducible assumption) | assumption)
            obtain ⟨ad222, e222, hx222_0, hx222_1, hx222_2, hx222_3, hx222_4, hx222_5, hx222_6⟩ := at_T33 HR0.out x5_1 p222 q222
            cases e222
            replace p222 := eq_true p222
            replace q222 := eq_true q222
            have p223 : 0 ≤ (x5_1 : Int) := of_decide_eq_true (by first | (with_reducible assumption) | assumption)
            have q223 : x5_1 < (l1.length : Int) := of_decide_eq_true (by first | (with_reducible assumption) | assumption)
            obtain ⟨ad223, e223, hx223_0, hx223_1, hx223_2, hx223_3, hx223_4, hx223_5, hx223_6⟩ := at_T33 HR1.out x5_1 p223 q223
            cases e223
            replace p223 := eq_true p223
            replace q223 := eq_true q223
            go_wp2
            repeat (go_quiet (fail); try go_wp2)
            go_ret
            exact ⟨by first | rfl | (simp; done) | (simp [*]; done), by repeat (first | exact Drawn0.refl _ | apply Drawn0.step)⟩
          · rw [if_neg c7] at H
            have c7b0 : (!((((rd_T33 l0 x5_1).f0).toList) == (((rd_T33 l1 x5_1).f0).toList)) || (!(((rd_T33 l0 x5_1).f1) == ((rd_T33 l1 x5_1).f1)) || (!(((rd_T33 l0 x5_1).f2) == ((rd_T33 l1 x5_1).f2)) || (!(((rd_T33 l0 x5_1).f3) == ((rd_T33 l1 x5_1).f3)) || (!(((rd_T33 l0 x5_1).f4) == ((rd_T33 l1 x5_1).f4)) || (!(((rd_T33 l0 x5_1).f5) == ((rd_T33 l1 x5_1).f5)) || (!(((rd_T33 l0 x5_1).f6) == ((rd_T33 l1 x5_1).f6))))))))) = false := by simpa using c7
            clear c7
            have H' := Aside0.mk H
            clear H
            have p222 : 0 ≤ (x5_1 : Int) := of_decide_eq_true (by first | (with_reducible assumption) | assumption)
            have q222 : x5_1 < (l0.length : Int) := of_decide_eq_true (by first | (with_reducible assumption) | assumption)
            obtain ⟨ad222, e222, hx222_0, hx222_1, hx222_2, hx222_3, hx222_4, hx222_5, hx222_6⟩ := at_T33 HR0.out x5_1 p222 q222
            cases e222
            replace p222 := eq_true p222
            replace q222 := eq_true q222
            have p223 : 0 ≤ (x5_1 : Int) := of_decide_eq_true (by first | (with_reducible assumption) | assumption)
            have q223 : x5_1 < (l1.length : Int) := of_decide_eq_true (by first | (with_reducible assumption) | assumption)
            obtain ⟨ad223, e223, hx223_0, hx223_1, hx223_2, hx223_3, hx223_4, hx223_5, hx223_6⟩ := at_T33 HR1.out x5_1 p223 q223
            cases e223
            replace p223 := eq_true p223
            replace q223 := eq_true q223
            go_wp2
            repeat (go_quiet (fail); try go_wp2)
            go_roundg k1
            case measure => have := HK1.out; omega
            case rel => exact ⟨(wrap64 (x5_1 + 1)), (by first | rfl | (simp; done) | (simp [*]; done)), H', ⟨by have := HK1.out; omega⟩, by repeat (first | exact Drawn0.refl _ | apply Drawn0.step)⟩
        · rw [if_neg c4] at H
          have c4b0 : decide (x5_1 < (l0.length : Int)) = false := decide_eq_false c4
          clear c4
          obtain rfl := Option.some.inj H
          go_wp2
          repeat (go_quiet (fail); try go_wp2)
          go_ret
          exact ⟨by first | rfl | (simp; done) | (simp [*]; done), by repeat (first | exact Drawn0.refl _ | apply Drawn0.step)⟩
  · rw [if_neg c3] at H
    have c3b0 : ((l0.length : Int) == (l1.length : Int)) = false := beq_eq_false_iff_ne.mpr c3
    have c3b1 : ((l0.length : Int) != (l1.length : Int)) = true := bne_iff_ne.mpr c3
    have c3b2 : (l0.length == l1.length) = false := by first | simpa using c3 | (simp at c3 ⊢; omega)
    obtain rfl := Option.some.inj H
    go_enter Try.func22, Try.ntmps22
    go_wp2
    repeat (go_quiet (fail); try go_wp2)
    go_ret
    exact ⟨by first | rfl | (simp; done) | (simp [*]; done), by repeat (first | exact Drawn0.refl _ | apply Drawn0.step)⟩

/-! ### cadencylaw05_parses: function 9 -/
def cadencylaw05_parses.f (k : Nat) (a0 : ByteArray) : Option (Bool) := (text_Read.f a0).bind fun bt224 => ((text_Parse.f a0).bind fun bt229 => ((cadencyref05_Read.f a0).bind fun bt234 => ((cadencyref05_Parse.f k a0).bind fun bt240 => ((cadencyref05_Same.f k bt224.1 bt234.1).bind fun t246 => ((cadencyref05_Same.f k bt229.1 bt240.1).bind fun t247 => (if t246 = true then (if t247 = true then (if bt224.2.1 = bt234.2.1 then (if bt224.2.2 = bt234.2.2 then (if bt229.2.1 = bt240.2.1 then (some (bt229.2.2 == bt240.2.2)) else (some false)) else (some false)) else (some false)) else (some false)) else (some false)))))))
set_option maxHeartbeats 8000000 in
set_option maxRecDepth 100000 in
theorem cadencylaw05_parses.calls (k : Nat) (a0 : ByteArray) (r : Bool) (w : World) (hr : Aside0 (r = true)) (h : cadencylaw05_parses.f k a0 = some r) :
    Calls Try.prog 9 #[.string a0] w fun e w' => e = .returned (.bool r) ∧ Below w.heap.size w w' := by
  have hu46 := Try.underlying46
  have HB := Aside0.mk (Below.refl w.heap.size w)
  have H : ((text_Read.f a0).bind fun bt224 => ((text_Parse.f a0).bind fun bt229 => ((cadencyref05_Read.f a0).bind fun bt234 => ((cadencyref05_Parse.f k a0).bind fun bt240 => ((cadencyref05_Same.f k bt224.1 bt234.1).bind fun t246 => ((cadencyref05_Same.f k bt229.1 bt240.1).bind fun t247 => (if t246 = true then (if t247 = true then (if bt224.2.1 = bt234.2.1 then (if bt224.2.2 = bt234.2.2 then (if bt229.2.1 = bt240.2.1 then (some (bt229.2.2 == bt240.2.2)) else (some false)) else (some false)) else (some false)) else (some false)) else (some false)))))))) = some r := h
  clear h
  replace H := Option.bind_eq_some_iff.mp H
  obtain ⟨⟨t224, t225, t226⟩, A20, H⟩ := H
  replace H : ((text_Parse.f a0).bind fun bt229 => ((cadencyref05_Read.f a0).bind fun bt234 => ((cadencyref05_Parse.f k a0).bind fun bt240 => ((cadencyref05_Same.f k t224 bt234.1).bind fun t246 => ((cadencyref05_Same.f k bt229.1 bt240.1).bind fun t247 => (if t246 = true then (if t247 = true then (if t225 = bt234.2.1 then (if t226 = bt234.2.2 then (if bt229.2.1 = bt240.2.1 then (some (bt229.2.2 == bt240.2.2)) else (some false)) else (some false)) else (some false)) else (some false)) else (some false))))))) = some r := H
  have A2 := Aside0.mk A20
  clear A20
  replace H := Option.bind_eq_some_iff.mp H
  obtain ⟨⟨t229, t230, t231⟩, A30, H⟩ := H
  replace H : ((cadencyref05_Read.f a0).bind fun bt234 => ((cadencyref05_Parse.f k a0).bind fun bt240 => ((cadencyref05_Same.f k t224 bt234.1).bind fun t246 => ((cadencyref05_Same.f k t229 bt240.1).bind fun t247 => (if t246 = true then (if t247 = true then (if t225 = bt234.2.1 then (if t226 = bt234.2.2 then (if t230 = bt240.2.1 then (some (t231 == bt240.2.2)) else (some false)) else (some false)) else (some false)) else (some false)) else (some false)))))) = some r := H
  have A3 := Aside0.mk A30
  clear A30
  replace H := Option.bind_eq_some_iff.mp H
  obtain ⟨⟨t234, t237, t238⟩, A40, H⟩ := H
  replace H : ((cadencyref05_Parse.f k a0).bind fun bt240 => ((cadencyref05_Same.f k t224 t234).bind fun t246 => ((cadencyref05_Same.f k t229 bt240.1).bind fun t247 => (if t246 = true then (if t247 = true then (if t225 = t237 then (if t226 = t238 then (if t230 = bt240.2.1 then (some (t231 == bt240.2.2)) else (some false)) else (some false)) else (some false)) else (some false)) else (some false))))) = some r := H
  have A4 := Aside0.mk A40
  clear A40
  replace H := Option.bind_eq_some_iff.mp H
  obtain ⟨⟨t240, t243, t244⟩, A50, H⟩ := H
  replace H : ((cadencyref05_Same.f k t224 t234).bind fun t246 => ((cadencyref05_Same.f k t229 t240).bind fun t247 => (if t246 = true then (if t247 = true then (if t225 = t237 then (if t226 = t238 then (if t230 = t243 then (some (t231 == t244)) else (some false)) else (some false)) else (some false)) else (some false)) else (some false)))) = some r := H
  have A5 := Aside0.mk A50
  clear A50
  replace H := Option.bind_eq_some_iff.mp H
  obtain ⟨t246, A60, H⟩ := H
  replace H : ((cadencyref05_Same.f k t229 t240).bind fun t247 => (if t246 = true then (if t247 = true then (if t225 = t237 then (if t226 = t238 then (if t230 = t243 then (some (t231 == t244)) else (some false)) else (some false)) else (some false)) else (some false)) else (some false))) = some r := H
  have A6 := Aside0.mk A60
  clear A60
  replace H := Option.bind_eq_some_iff.mp H
  obtain ⟨t247, A70, H⟩ := H
  replace H : (if t246 = true then (if t247 = true then (if t225 = t237 then (if t226 = t238 then (if t230 = t243 then (some (t231 == t244)) else (some false)) else (some false)) else (some false)) else (some false)) else (some false)) = some r := H
  have A7 := Aside0.mk A70
  clear A70
  by_cases c8 : t246 = true
  · subst c8
    have H1 : (if t247 = true then (if t225 = t237 then (if t226 = t238 then (if t230 = t243 then (some (t231 == t244)) else (some false)) else (some false)) else (some false)) else (some false)) = some r := by rw [if_pos rfl] at H; exact H
    clear H
    have H := H1
    clear H1
    by_cases c9 : t247 = true
    · subst c9
      have H1 : (if t225 = t237 then (if t226 = t238 then (if t230 = t243 then (some (t231 == t244)) else (some false)) else (some false)) else (some false)) = some r := by rw [if_pos rfl] at H; exact H
      clear H
      have H := H1
      clear H1
      by_cases c10 : t225 = t237
      · rw [if_pos c10] at H
        have c10b0 : (t225 == t237) = true := beq_iff_eq.mpr c10
        have c10b1 : (t225 != t237) = false := bne_eq_false_iff_eq.mpr c10
        clear c10
        by_cases c11 : t226 = t238
        · rw [if_pos c11] at H
          have c11b0 : (t226 == t238) = true := beq_iff_eq.mpr c11
          have c11b1 : (t226 != t238) = false := bne_eq_false_iff_eq.mpr c11
          clear c11
          by_cases c12 : t230 = t243
          · rw [if_pos c12] at H
            have c12b0 : (t230 == t243) = true := beq_iff_eq.mpr c12
            have c12b1 : (t230 != t243) = false := bne_eq_false_iff_eq.mpr c12
            clear c12
            obtain rfl := Option.some.inj H
            go_enter Try.func9, Try.ntmps9
            go_wp2_with (first | ((with_reducible refine gate_callee (f := 14) rfl ?_); refine goesL_ (some 15) rfl rfl Try.func14 (by kernel_rfl) rfl #[.string a0] rfl (by (try simp only [List.map_toArray, List.map_cons, List.map_nil]); first | done | rfl | (simp only [List.length_drop, List.length_take]; rfl)) ?_; (with_reducible refine (text_Read.calls a0 t224 t225 t226 _ A2.out).mono ?_); rintro e w13 ⟨v227, rfl, ho0, hb⟩; refine ⟨_, rfl, ?_⟩; have n0_ := Aside0.mk (Kd.R_lower ho0 (below_size (by repeat (first | (with_reducible first | exact HB.out | apply below_alloc | apply pw_below_drewN | apply below_drew1) | exact HB.out)))); have n1_ := Aside0.mk (below_step (by repeat (first | (with_reducible first | exact HB.out | apply below_alloc | apply pw_below_drewN | apply below_drew1) | exact HB.out)) hb); clear HB; have HO228 := n0_; have HB := n1_; clear n0_ n1_; (try clear hb); (try clear hb2); (try clear hk); (try clear hi); (try clear ho0)) | ((with_reducible refine gate_callee (f := 16) rfl ?_); refine goesL_ (some 21) rfl rfl Try.func16 (by kernel_rfl) rfl #[.string a0] rfl (by (try simp only [List.map_toArray, List.map_cons, List.map_nil]); first | done | rfl | (simp only [List.length_drop, List.length_take]; rfl)) ?_; (with_reducible refine (text_Parse.calls a0 t229 t230 t231 _ A3.out).mono ?_); rintro e w14 ⟨v232, rfl, ho0, hb⟩; refine ⟨_, rfl, ?_⟩; have n0_ := Aside0.mk (Kd.R_elder' (by (with_reducible repeat (first | apply Kd.R_alloc | apply Kd.R_drewN | apply Kd.R_drew)); exact HO228.out) (Kd.R_base ho0) hb); have n1_ := Aside0.mk (Kd.R_lower (Kd.R_new' ho0 (Kd.R_lt (by (with_reducible repeat (first | apply Kd.R_alloc | apply Kd.R_drewN | apply Kd.R_drew)); exact HO228.out))) (below_size (by repeat (first | (with_reducible first | exact HB.out | apply below_alloc | apply pw_below_drewN | apply below_drew1) | exact HB.out)))); have n2_ := Aside0.mk (below_step (by repeat (first | (with_reducible first | exact HB.out | apply below_alloc | apply pw_below_drewN | apply below_drew1) | exact HB.out)) hb); clear HO228; clear HB; have HO228 := n0_; have HO233 := n1_; have HB := n2_; clear n0_ n1_ n2_; (try clear hb); (try clear hb2); (try clear hk); (try clear hi); (try clear ho0)) | ((with_reducible refine gate_callee (f := 20) rfl ?_); refine goesL_ (some 26) rfl rfl Try.func20 (by kernel_rfl) rfl #[.string a0] rfl (by (try simp only [List.map_toArray, List.map_cons, List.map_nil]); first | done | rfl | (simp only [List.length_drop, List.length_take]; rfl)) ?_; (with_reducible refine (cadencyref05_Read.calls a0 t234 t237 t238 _ A4.out).mono ?_); rintro e w15 ⟨v235, rfl, ho0, hb⟩; refine ⟨_, rfl, ?_⟩; have n0_ := Aside0.mk (Kd.R_elder' (by (with_reducible repeat (first | apply Kd.R_alloc | apply Kd.R_drewN | apply Kd.R_drew)); exact HO228.out) (Kd.R_base ho0) hb); have n1_ := Aside0.mk (Kd.R_elder' (by (with_reducible repeat (first | apply Kd.R_alloc | apply Kd.R_drewN | apply Kd.R_drew)); exact HO233.out) (Kd.R_base ho0) hb); have n2_ := Aside0.mk (Kd.R_lower (Kd.R_new' (Kd.R_new' ho0 (Kd.R_lt (by (with_reducible repeat (first | apply Kd.R_alloc | apply Kd.R_drewN | apply Kd.R_drew)); exact HO228.out))) (Kd.R_lt (by (with_reducible repeat (first | apply Kd.R_alloc | apply Kd.R_drewN | apply Kd.R_drew)); exact HO233.out))) (below_size (by repeat (first | (with_reducible first | exact HB.out | apply below_alloc | apply pw_below_drewN | apply below_drew1) | exact HB.out)))); have n3_ := Aside0.mk (below_step (by repeat (first | (with_reducible first | exact HB.out | apply below_alloc | apply pw_below_drewN | apply below_drew1) | exact HB.out)) hb); clear HO228; clear HO233; clear HB; have HO228 := n0_; have HO233 := n1_; have HO236 := n2_; have HB := n3_; clear n0_ n1_ n2_ n3_; (try clear hb); (try clear hb2); (try clear hk); (try clear hi); (try clear ho0)) | ((with_reducible refine gate_dst (N := 9) rfl ?_); refine box_event ?hg (N := 9) ?hd (cs := #[.slice none 0 0, .int .i64 0, .int .i64 0]) (t := 46) ?hr ?_; (case hd => rfl); (case hg => rfl); (case hr => first | (go_simp; done) | (go_simp; rfl)); intro gb239 hg w16 hbox hb; have n0_ := Aside0.mk (Kd.R_below (by (with_reducible repeat (first | apply Kd.R_alloc | apply Kd.R_drewN | apply Kd.R_drew)); exact HO228.out) hb); have n1_ := Aside0.mk (Kd.R_below (by (with_reducible repeat (first | apply Kd.R_alloc | apply Kd.R_drewN | apply Kd.R_drew)); exact HO233.out) hb); have n2_ := Aside0.mk (Kd.R_below (by (with_reducible repeat (first | apply Kd.R_alloc | apply Kd.R_drewN | apply Kd.R_drew)); exact HO236.out) hb); have n3_ := Aside0.mk (below_step (by repeat (first | (with_reducible first | exact HB.out | apply below_alloc | apply pw_below_drewN | apply below_drew1) | exact HB.out)) hb); have n4_ := Aside0.mk (hbox); have n5_ := Aside0.mk ((by rw [hg]; exact (below_size (by repeat (first | (with_reducible first | exact HB.out | apply below_alloc | apply pw_below_drewN | apply below_drew1) | exact HB.out))) : w.heap.size ≤ gb239)); have n6_ := Aside0.mk ((by rw [hg]; exact (below_size (by repeat (first | (with_reducible first | exact HB.out | apply below_alloc | apply pw_below_drewN | apply below_drew1) | exact HB.out))) : w.heap.size ≤ gb239)); clear HO228; clear HO233; clear HO236; clear HB; have HO228 := n0_; have HO233 := n1_; have HO236 := n2_; have HB := n3_; have BK239 := n4_; have GW239 := n5_; have GE239 := n6_; clear n0_ n1_ n2_ n3_ n4_ n5_ n6_; clear hb hbox hg; obtain ⟨Ao17, co17, eo17⟩ := Kd.R_slice HO236.out; subst eo17; have hcz18_0 : w16.cell? ⟨gb239, 0, none⟩ = some (.slice none 0 0) := (blk_cell BK239.out 0).trans rfl; have hcz18_1 : w16.cell? ⟨gb239, 1, none⟩ = some (.int .i64 0) := (blk_cell BK239.out 1).trans rfl; have hcz18_2 : w16.cell? ⟨gb239, 2, none⟩ = some (.int .i64 0) := (blk_cell BK239.out 2).trans rfl; have hfz18_0 := blk_frozen BK239.out 0; have hfz18_1 := blk_frozen BK239.out 1; have hfz18_2 := blk_frozen BK239.out 2) | ((with_reducible refine gate_callee (f := 21) rfl ?_); refine goesL_ (some 28) rfl rfl Try.func21 (by kernel_rfl) rfl #[.string a0] rfl (by (try simp only [List.map_toArray, List.map_cons, List.map_nil]); first | done | rfl | (simp only [List.length_drop, List.length_take]; rfl)) ?_; (with_reducible refine (cadencyref05_Parse.calls k a0 t240 t243 t244 _ A5.out).mono ?_); rintro e w19 ⟨v241, rfl, ho0, hb⟩; refine ⟨_, rfl, ?_⟩; have n0_ := Aside0.mk (Kd.R_elder' (by (with_reducible repeat (first | apply Kd.R_alloc | apply Kd.R_drewN | apply Kd.R_drew)); exact (Kd.R_mono (Kd.R_far (p := ⟨gb239, 2, none⟩) (Kd.R_far (p := ⟨gb239, 1, none⟩) (Kd.R_far (p := ⟨gb239, 0, none⟩) (Kd.R_types HO228.out BK239.out (by decide)) (fun _ hk => hk.2) (.slice Ao17 t234.length co17)) (fun _ hk => hk.2) (.int .i64 t237)) (fun _ hk => hk.2) (.int .i64 t238)) (fun _ h_ => h_.1))) (Kd.R_base ho0) hb); have n1_ := Aside0.mk (Kd.R_elder' (by (with_reducible repeat (first | apply Kd.R_alloc | apply Kd.R_drewN | apply Kd.R_drew)); exact (Kd.R_mono (Kd.R_far (p := ⟨gb239, 2, none⟩) (Kd.R_far (p := ⟨gb239, 1, none⟩) (Kd.R_far (p := ⟨gb239, 0, none⟩) (Kd.R_types HO233.out BK239.out (by decide)) (fun _ hk => hk.2) (.slice Ao17 t234.length co17)) (fun _ hk => hk.2) (.int .i64 t237)) (fun _ hk => hk.2) (.int .i64 t238)) (fun _ h_ => h_.1))) (Kd.R_base ho0) hb); have n2_ := Aside0.mk (Kd.R_elder' (by (with_reducible repeat (first | apply Kd.R_alloc | apply Kd.R_drewN | apply Kd.R_drew)); exact (Kd.R_mono (Kd.R_far (p := ⟨gb239, 2, none⟩) (Kd.R_far (p := ⟨gb239, 1, none⟩) (Kd.R_far (p := ⟨gb239, 0, none⟩) (Kd.R_types HO236.out BK239.out (by decide)) (fun _ hk => hk.2) (.slice Ao17 t234.length co17)) (fun _ hk => hk.2) (.int .i64 t237)) (fun _ hk => hk.2) (.int .i64 t238)) (fun _ h_ => h_.1))) (Kd.R_base ho0) hb); have n3_ := Aside0.mk (Kd.R_lower (Kd.R_new' (Kd.R_new' (Kd.R_new' ho0 (Kd.R_lt (by (with_reducible repeat (first | apply Kd.R_alloc | apply Kd.R_drewN | apply Kd.R_drew)); exact (Kd.R_mono (Kd.R_far (p := ⟨gb239, 2, none⟩) (Kd.R_far (p := ⟨gb239, 1, none⟩) (Kd.R_far (p := ⟨gb239, 0, none⟩) (Kd.R_types HO228.out BK239.out (by decide)) (fun _ hk => hk.2) (.slice Ao17 t234.length co17)) (fun _ hk => hk.2) (.int .i64 t237)) (fun _ hk => hk.2) (.int .i64 t238)) (fun _ h_ => h_.1))))) (Kd.R_lt (by (with_reducible repeat (first | apply Kd.R_alloc | apply Kd.R_drewN | apply Kd.R_drew)); exact (Kd.R_mono (Kd.R_far (p := ⟨gb239, 2, none⟩) (Kd.R_far (p := ⟨gb239, 1, none⟩) (Kd.R_far (p := ⟨gb239, 0, none⟩) (Kd.R_types HO233.out BK239.out (by decide)) (fun _ hk => hk.2) (.slice Ao17 t234.length co17)) (fun _ hk => hk.2) (.int .i64 t237)) (fun _ hk => hk.2) (.int .i64 t238)) (fun _ h_ => h_.1))))) (Kd.R_lt (by (with_reducible repeat (first | apply Kd.R_alloc | apply Kd.R_drewN | apply Kd.R_drew)); exact (Kd.R_mono (Kd.R_far (p := ⟨gb239, 2, none⟩) (Kd.R_far (p := ⟨gb239, 1, none⟩) (Kd.R_far (p := ⟨gb239, 0, none⟩) (Kd.R_types HO236.out BK239.out (by decide)) (fun _ hk => hk.2) (.slice Ao17 t234.length co17)) (fun _ hk => hk.2) (.int .i64 t237)) (fun _ hk => hk.2) (.int .i64 t238)) (fun _ h_ => h_.1))))) (below_size (by repeat (first | (with_reducible first | exact HB.out | apply below_alloc | apply pw_below_drewN | apply below_drew1 | refine below_set ?_ GE239.out) | exact HB.out)))); have n4_ := Aside0.mk (blk_below (g := gb239) (o := .cells #[.slice Ao17 t234.length co17, .int .i64 t237, .int .i64 t238] 46 (0, 0)) (by (with_reducible repeat (first | refine blk_drewN ?_ _ | refine blk_drew ?_ | refine blk_alloc ?_ _)); refine blk_put (cs := #[.slice Ao17 t234.length co17, .int .i64 t237, .int .i64 0]) ?_ 2 _ rfl; (with_reducible repeat (first | refine blk_drewN ?_ _ | refine blk_drew ?_ | refine blk_alloc ?_ _)); refine blk_put (cs := #[.slice Ao17 t234.length co17, .int .i64 0, .int .i64 0]) ?_ 1 _ rfl; (with_reducible repeat (first | refine blk_drewN ?_ _ | refine blk_drew ?_ | refine blk_alloc ?_ _)); refine blk_put (cs := #[.slice none 0 0, .int .i64 0, .int .i64 0]) ?_ 0 _ rfl; (with_reducible repeat (first | refine blk_drewN ?_ _ | refine blk_drew ?_ | refine blk_alloc ?_ _)); exact BK239.out) hb); have n5_ := Aside0.mk (below_step (by repeat (first | (with_reducible first | exact HB.out | apply below_alloc | apply pw_below_drewN | apply below_drew1 | refine below_set ?_ GE239.out) | exact HB.out)) hb); clear HO228; clear HO233; clear HO236; clear BK239; clear HB; have HO228 := n0_; have HO233 := n1_; have HO236 := n2_; have HO242 := n3_; have BK239 := n4_; have HB := n5_; clear n0_ n1_ n2_ n3_ n4_ n5_; (try clear hb); (try clear hb2); (try clear hk); (try clear hi); (try clear ho0)) | ((with_reducible refine gate_dst (N := 10) rfl ?_); refine box_event ?hg (N := 10) ?hd (cs := #[.slice none 0 0, .int .i64 0, .int .i64 0]) (t := 46) ?hr ?_; (case hd => rfl); (case hg => rfl); (case hr => first | (go_simp; done) | (go_simp; rfl)); intro gb245 hg w20 hbox hb; have n0_ := Aside0.mk (Kd.R_below (by (with_reducible repeat (first | apply Kd.R_alloc | apply Kd.R_drewN | apply Kd.R_drew)); exact HO228.out) hb); have n1_ := Aside0.mk (Kd.R_below (by (with_reducible repeat (first | apply Kd.R_alloc | apply Kd.R_drewN | apply Kd.R_drew)); exact HO233.out) hb); have n2_ := Aside0.mk (Kd.R_below (by (with_reducible repeat (first | apply Kd.R_alloc | apply Kd.R_drewN | apply Kd.R_drew)); exact HO236.out) hb); have n3_ := Aside0.mk (Kd.R_below (by (with_reducible repeat (first | apply Kd.R_alloc | apply Kd.R_drewN | apply Kd.R_drew)); exact HO242.out) hb); have n4_ := Aside0.mk (blk_below (g := gb239) (o := .cells #[.slice Ao17 t234.length co17, .int .i64 t237, .int .i64 t238] 46 (0, 0)) (by (with_reducible repeat (first | refine blk_drewN ?_ _ | refine blk_drew ?_ | refine blk_alloc ?_ _)); exact BK239.out) hb); have n5_ := Aside0.mk (below_step (by repeat (first | (with_reducible first | exact HB.out | apply below_alloc | apply pw_below_drewN | apply below_drew1 | refine below_set ?_ GE239.out) | exact HB.out)) hb); have n6_ := Aside0.mk (hbox); have n7_ := Aside0.mk ((by rw [hg]; exact (below_size (by repeat (first | (with_reducible first | exact HB.out | apply below_alloc | apply pw_below_drewN | apply below_drew1 | refine below_set ?_ GE239.out) | exact HB.out))) : w.heap.size ≤ gb245)); have n8_ := Aside0.mk ((by rw [hg]; exact (below_size (by repeat (first | (with_reducible first | exact HB.out | apply below_alloc | apply pw_below_drewN | apply below_drew1 | refine below_set ?_ GE239.out) | exact HB.out))) : w.heap.size ≤ gb245)); have n9_ := Aside0.mk ((by rw [hg]; exact Nat.ne_of_lt (blk_lt (g := gb239) (o := .cells #[.slice Ao17 t234.length co17, .int .i64 t237, .int .i64 t238] 46 (0, 0)) (by (with_reducible repeat (first | refine blk_drewN ?_ _ | refine blk_drew ?_ | refine blk_alloc ?_ _)); exact BK239.out)) : gb239 ≠ gb245)); have n10_ := Aside0.mk ((by rw [hg]; exact Nat.ne_of_gt (blk_lt (g := gb239) (o := .cells #[.slice Ao17 t234.length co17, .int .i64 t237, .int .i64 t238] 46 (0, 0)) (by (with_reducible repeat (first | refine blk_drewN ?_ _ | refine blk_drew ?_ | refine blk_alloc ?_ _)); exact BK239.out)) : gb245 ≠ gb239)); clear HO228; clear HO233; clear HO236; clear HO242; clear BK239; clear HB; have HO228 := n0_; have HO233 := n1_; have HO236 := n2_; have HO242 := n3_; have BK239 := n4_; have HB := n5_; have BK245 := n6_; have GW245 := n7_; have GE245 := n8_; have NB239_245 := n9_; have NB245_239 := n10_; clear n0_ n1_ n2_ n3_ n4_ n5_ n6_ n7_ n8_ n9_ n10_; clear hb hbox hg; obtain ⟨Ao21, co21, eo21⟩ := Kd.R_slice HO242.out; subst eo21; have hnb22 := NB245_239.out; have hnc22 := NB239_245.out; have hcz23_0 : w20.cell? ⟨gb245, 0, none⟩ = some (.slice none 0 0) := (blk_cell BK245.out 0).trans rfl; have hcz23_1 : w20.cell? ⟨gb245, 1, none⟩ = some (.int .i64 0) := (blk_cell BK245.out 1).trans rfl; have hcz23_2 : w20.cell? ⟨gb245, 2, none⟩ = some (.int .i64 0) := (blk_cell BK245.out 2).trans rfl; have hfz23_0 := blk_frozen BK245.out 0; have hfz23_1 := blk_frozen BK245.out 1; have hfz23_2 := blk_frozen BK245.out 2; have hcz24_0 : w20.cell? ⟨gb239, 0, none⟩ = some (.slice Ao17 t234.length co17) := (blk_cell BK239.out 0).trans rfl; have hcz24_1 : w20.cell? ⟨gb239, 1, none⟩ = some (.int .i64 t237) := (blk_cell BK239.out 1).trans rfl; have hcz24_2 : w20.cell? ⟨gb239, 2, none⟩ = some (.int .i64 t238) := (blk_cell BK239.out 2).trans rfl; have hfz24_0 := blk_frozen BK239.out 0; have hfz24_1 := blk_frozen BK239.out 1; have hfz24_2 := blk_frozen BK239.out 2; obtain ⟨Ao25, co25, eo25⟩ := Kd.R_slice HO228.out; subst eo25) | ((with_reducible refine gate_callee (f := 22) rfl ?_); refine goesL_ (some 32) rfl rfl Try.func22 (by kernel_rfl) rfl #[.slice Ao25 t224.length co25, .slice Ao17 t234.length co17] rfl (by (try simp only [List.map_toArray, List.map_cons, List.map_nil]); first | done | rfl | (simp only [List.length_drop, List.length_take]; rfl)) ?_; (with_reducible refine (cadencyref05_Same.calls k _ _ t224 _ _ t234 true _ ?side1 ?side2 ?side3 ?side4 A6.out).mono ?_); (case side1 => refine (Kd.R_reads' (e := 33) (base := w.heap.size) (ok := fun k_ => (((True ∧ some k_ ≠ (v232 : Value).ownBlock) ∧ some k_ ≠ (.slice Ao17 t234.length co17 : Value).ownBlock) ∧ some k_ ≠ (.slice Ao21 t240.length co21 : Value).ownBlock)) (n := t224.length) (c := co25) ?_).2.2; exact (by (with_reducible repeat (first | apply Kd.R_alloc | apply Kd.R_drewN | apply Kd.R_drew)); exact (Kd.R_mono (Kd.R_far (p := ⟨gb245, 2, none⟩) (Kd.R_far (p := ⟨gb245, 1, none⟩) (Kd.R_far (p := ⟨gb245, 0, none⟩) (Kd.R_types HO228.out BK245.out (by decide)) (fun _ hk => hk.2) (.slice Ao21 t240.length co21)) (fun _ hk => hk.2) (.int .i64 t243)) (fun _ hk => hk.2) (.int .i64 t244)) (fun _ h_ => h_.1)))); (case side2 => exact (Kd.R_reads' HO228.out).2.1); (case side3 => refine (Kd.R_reads' (e := 33) (base := w.heap.size) (ok := fun k_ => (((True ∧ some k_ ≠ (.slice Ao25 t224.length co25 : Value).ownBlock) ∧ some k_ ≠ (v232 : Value).ownBlock) ∧ some k_ ≠ (.slice Ao21 t240.length co21 : Value).ownBlock)) (n := t234.length) (c := co17) ?_).2.2; exact (by (with_reducible repeat (first | apply Kd.R_alloc | apply Kd.R_drewN | apply Kd.R_drew)); exact (Kd.R_mono (Kd.R_far (p := ⟨gb245, 2, none⟩) (Kd.R_far (p := ⟨gb245, 1, none⟩) (Kd.R_far (p := ⟨gb245, 0, none⟩) (Kd.R_types HO236.out BK245.out (by decide)) (fun _ hk => hk.2) (.slice Ao21 t240.length co21)) (fun _ hk => hk.2) (.int .i64 t243)) (fun _ hk => hk.2) (.int .i64 t244)) (fun _ h_ => h_.1)))); (case side4 => exact (Kd.R_reads' HO236.out).2.1); rintro e w' ⟨rfl, ⟨nd, rfl⟩⟩; refine ⟨_, rfl, ?_⟩; obtain ⟨Ao26, co26, eo26⟩ := Kd.R_slice HO233.out; subst eo26) | ((with_reducible refine gate_callee (f := 22) rfl ?_); refine goesL_ (some 36) rfl rfl Try.func22 (by kernel_rfl) rfl #[.slice Ao26 t229.length co26, .slice Ao21 t240.length co21] rfl (by (try simp only [List.map_toArray, List.map_cons, List.map_nil]); first | done | rfl | (simp only [List.length_drop, List.length_take]; rfl)) ?_; (with_reducible refine (cadencyref05_Same.calls k _ _ t229 _ _ t240 true _ ?side1 ?side2 ?side3 ?side4 A7.out).mono ?_); (case side1 => refine (Kd.R_reads' (e := 33) (base := w.heap.size) (ok := fun k_ => (((True ∧ some k_ ≠ (.slice Ao25 t224.length co25 : Value).ownBlock) ∧ some k_ ≠ (.slice Ao17 t234.length co17 : Value).ownBlock) ∧ some k_ ≠ (.slice Ao21 t240.length co21 : Value).ownBlock)) (n := t229.length) (c := co26) ?_).2.2; exact (by (with_reducible repeat (first | apply Kd.R_alloc | apply Kd.R_drewN | apply Kd.R_drew)); exact (Kd.R_mono (Kd.R_far (p := ⟨gb245, 2, none⟩) (Kd.R_far (p := ⟨gb245, 1, none⟩) (Kd.R_far (p := ⟨gb245, 0, none⟩) (Kd.R_types HO233.out BK245.out (by decide)) (fun _ hk => hk.2) (.slice Ao21 t240.length co21)) (fun _ hk => hk.2) (.int .i64 t243)) (fun _ hk => hk.2) (.int .i64 t244)) (fun _ h_ => h_.1)))); (case side2 => exact (Kd.R_reads' HO233.out).2.1); (case side3 => refine (Kd.R_reads' (e := 33) (base := w.heap.size) (ok := fun k_ => (((True ∧ some k_ ≠ (.slice Ao25 t224.length co25 : Value).ownBlock) ∧ some k_ ≠ (.slice Ao26 t229.length co26 : Value).ownBlock) ∧ some k_ ≠ (.slice Ao17 t234.length co17 : Value).ownBlock)) (n := t240.length) (c := co21) ?_).2.2; exact (by (with_reducible repeat (first | apply Kd.R_alloc | apply Kd.R_drewN | apply Kd.R_drew)); exact (Kd.R_mono (Kd.R_far (p := ⟨gb245, 2, none⟩) (Kd.R_far (p := ⟨gb245, 1, none⟩) (Kd.R_far (p := ⟨gb245, 0, none⟩) (Kd.R_types HO242.out BK245.out (by decide)) (fun _ hk => hk.2) (.slice Ao21 t240.length co21)) (fun _ hk => hk.2) (.int .i64 t243)) (fun _ hk => hk.2) (.int .i64 t244)) (fun _ h_ => h_.1)))); (case side4 => exact (Kd.R_reads' HO242.out).2.1); rintro e w' ⟨rfl, ⟨nd, rfl⟩⟩; refine ⟨_, rfl, ?_⟩))
            go_ret
            exact ⟨by first | rfl | (simp [errW_none, errW_some] <;> rfl) | (simp [*, errW_none, errW_some] <;> rfl), by repeat (first | (with_reducible first | exact HB.out | apply below_alloc | apply pw_below_drewN | apply below_drew1 | refine below_set ?_ GE239.out | refine below_set ?_ GE245.out) | exact HB.out)⟩
          · rw [if_neg c12] at H
            have c12b0 : (t230 == t243) = false := beq_eq_false_iff_ne.mpr c12
            have c12b1 : (t230 != t243) = true := bne_iff_ne.mpr c12
            obtain rfl := Option.some.inj H
            exact absurd hr.out (by decide)
        · rw [if_neg c11] at H
          have c11b0 : (t226 == t238) = false := beq_eq_false_iff_ne.mpr c11
          have c11b1 : (t226 != t238) = true := bne_iff_ne.mpr c11
          obtain rfl := Option.some.inj H
          exact absurd hr.out (by decide)
      · rw [if_neg c10] at H
        have c10b0 : (t225 == t237) = false := beq_eq_false_iff_ne.mpr c10
        have c10b1 : (t225 != t237) = true := bne_iff_ne.mpr c10
        obtain rfl := Option.some.inj H
        exact absurd hr.out (by decide)
    · replace c9 := Bool.eq_false_iff.mpr c9
      subst c9
      have H1 : (some false) = some r := by rw [if_neg (show ¬ (false = true) by decide)] at H; exact H
      clear H
      have H := H1
      clear H1
      obtain rfl := Option.some.inj H
      exact absurd hr.out (by decide)
  · replace c8 := Bool.eq_false_iff.mpr c8
    subst c8
    have H1 : (some false) = some r := by rw [if_neg (show ¬ (false = true) by decide)] at H; exact H
    clear H
    have H := H1
    clear H1
    obtain rfl := Option.some.inj H
    exact absurd hr.out (by decide)
end Go.Proofs.Ytefdcjmfbjlinaa.A
