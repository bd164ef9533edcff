-- written by a program (wip/dev/print2.sh): functions of the program as plain Lean, with their contracts
import Derived.Test.YtefdcjmfbjlinaaDoorAx0
import Derived.Test.YtefdcjmfbjlinaaDoorAx7
namespace Go.Proofs.YtefdcjmfbjlinaaDoor.A
open Go.RowKit Go.Proofs.YtefdcjmfbjlinaaDoorW.PrintWords Go.Proofs.YtefdcjmfbjlinaaDoorW.PrintLast Go.Proofs.YtefdcjmfbjlinaaDoorW.PrintMore
set_option linter.unusedVariables false
set_option linter.unusedSimpArgs false

/-! ### cadencyref04_Check: function 38 -/
mutual
def cadencyref04_Check.j0 : Nat → Bool → ByteArray → Int → Int → Int → Int → Int → Int → Option (Int)
  | 0, _, _, _, _, _, _, _, _ => none
  | k + 1, x60, x204000, x204001, x204002, x204003, x204004, x204005, x204006 => if x60 = true then (some 11) else (if x204005 > x204001 then (cadencyref04_Check.j1 k true) else (if (wrap64 (x204001 + x204004)) > x204003 then (cadencyref04_Check.j1 k true) else (cadencyref04_Check.j1 k (decide (x204003 > x204002)))))
def cadencyref04_Check.j1 : Nat → Bool → Option (Int)
  | 0, _ => none
  | k + 1, x82 => if x82 = true then (some 12) else (some 0)
end
def cadencyref04_Check.f (k : Nat) (a0_0 : ByteArray) (a0_1 : Int) (a0_2 : Int) (a0_3 : Int) (a0_4 : Int) (a0_5 : Int) (a0_6 : Int) : Option (Int) := (cadencyref03_Word.f a0_0).bind fun t204 => (if t204 = true then (if (a0_0.size : Int) > 32 then (cadencyref04_Check.j0 k true a0_0 a0_1 a0_2 a0_3 a0_4 a0_5 a0_6) else ((cadencyref04_in.f a0_1 1 2147483647).bind fun t205 => (if t205 = true then ((cadencyref04_in.f a0_2 1 2147483647).bind fun t206 => (if t206 = true then ((cadencyref04_in.f a0_3 1 2147483647).bind fun t207 => (if t207 = true then ((cadencyref04_in.f a0_5 1 2147483647).bind fun t208 => (if t208 = true then ((cadencyref04_in.f a0_4 0 2147483647).bind fun t209 => (if t209 = true then (if a0_6 < 1 then (cadencyref04_Check.j0 k true a0_0 a0_1 a0_2 a0_3 a0_4 a0_5 a0_6) else (cadencyref04_Check.j0 k (decide (a0_6 > 1048576)) a0_0 a0_1 a0_2 a0_3 a0_4 a0_5 a0_6)) else (cadencyref04_Check.j0 k true a0_0 a0_1 a0_2 a0_3 a0_4 a0_5 a0_6))) else (cadencyref04_Check.j0 k true a0_0 a0_1 a0_2 a0_3 a0_4 a0_5 a0_6))) else (cadencyref04_Check.j0 k true a0_0 a0_1 a0_2 a0_3 a0_4 a0_5 a0_6))) else (cadencyref04_Check.j0 k true a0_0 a0_1 a0_2 a0_3 a0_4 a0_5 a0_6))) else (cadencyref04_Check.j0 k true a0_0 a0_1 a0_2 a0_3 a0_4 a0_5 a0_6)))) else (cadencyref04_Check.j0 k true a0_0 a0_1 a0_2 a0_3 a0_4 a0_5 a0_6))
set_option maxHeartbeats 8000000 in
set_option maxRecDepth 100000 in
theorem cadencyref04_Check.calls (k : Nat) (a0_0 : ByteArray) (a0_1 : Int) (a0_2 : Int) (a0_3 : Int) (a0_4 : Int) (a0_5 : Int) (a0_6 : Int) (r : Int) (w : World) (h : cadencyref04_Check.f k a0_0 a0_1 a0_2 a0_3 a0_4 a0_5 a0_6 = some r) :
    Calls Tryd.prog 38 #[.agg #[.string a0_0, .int .i64 a0_1, .int .i64 a0_2, .int .i64 a0_3, .int .i64 a0_4, .int .i64 a0_5, .int .i64 a0_6]] w fun e w' => e = .returned (.int .i64 r) ∧ Below w.heap.size w w' := by
  have hu29 := Tryd.underlying29
  have HB := Aside0.mk (Below.refl w.heap.size w)
  have H : ((cadencyref03_Word.f a0_0).bind fun t204 => (if t204 = true then (if (a0_0.size : Int) > 32 then (cadencyref04_Check.j0 k true a0_0 a0_1 a0_2 a0_3 a0_4 a0_5 a0_6) else ((cadencyref04_in.f a0_1 1 2147483647).bind fun t205 => (if t205 = true then ((cadencyref04_in.f a0_2 1 2147483647).bind fun t206 => (if t206 = true then ((cadencyref04_in.f a0_3 1 2147483647).bind fun t207 => (if t207 = true then ((cadencyref04_in.f a0_5 1 2147483647).bind fun t208 => (if t208 = true then ((cadencyref04_in.f a0_4 0 2147483647).bind fun t209 => (if t209 = true then (if a0_6 < 1 then (cadencyref04_Check.j0 k true a0_0 a0_1 a0_2 a0_3 a0_4 a0_5 a0_6) else (cadencyref04_Check.j0 k (decide (a0_6 > 1048576)) a0_0 a0_1 a0_2 a0_3 a0_4 a0_5 a0_6)) else (cadencyref04_Check.j0 k true a0_0 a0_1 a0_2 a0_3 a0_4 a0_5 a0_6))) else (cadencyref04_Check.j0 k true a0_0 a0_1 a0_2 a0_3 a0_4 a0_5 a0_6))) else (cadencyref04_Check.j0 k true a0_0 a0_1 a0_2 a0_3 a0_4 a0_5 a0_6))) else (cadencyref04_Check.j0 k true a0_0 a0_1 a0_2 a0_3 a0_4 a0_5 a0_6))) else (cadencyref04_Check.j0 k true a0_0 a0_1 a0_2 a0_3 a0_4 a0_5 a0_6)))) else (cadencyref04_Check.j0 k true a0_0 a0_1 a0_2 a0_3 a0_4 a0_5 a0_6))) = some r := h
  clear h
  replace H := Option.bind_eq_some_iff.mp H
  obtain ⟨t204, A20, H⟩ := H
  replace H : (if t204 = true then (if (a0_0.size : Int) > 32 then (cadencyref04_Check.j0 k true a0_0 a0_1 a0_2 a0_3 a0_4 a0_5 a0_6) else ((cadencyref04_in.f a0_1 1 2147483647).bind fun t205 => (if t205 = true then ((cadencyref04_in.f a0_2 1 2147483647).bind fun t206 => (if t206 = true then ((cadencyref04_in.f a0_3 1 2147483647).bind fun t207 => (if t207 = true then ((cadencyref04_in.f a0_5 1 2147483647).bind fun t208 => (if t208 = true then ((cadencyref04_in.f a0_4 0 2147483647).bind fun t209 => (if t209 = true then (if a0_6 < 1 then (cadencyref04_Check.j0 k true a0_0 a0_1 a0_2 a0_3 a0_4 a0_5 a0_6) else (cadencyref04_Check.j0 k (decide (a0_6 > 1048576)) a0_0 a0_1 a0_2 a0_3 a0_4 a0_5 a0_6)) else (cadencyref04_Check.j0 k true a0_0 a0_1 a0_2 a0_3 a0_4 a0_5 a0_6))) else (cadencyref04_Check.j0 k true a0_0 a0_1 a0_2 a0_3 a0_4 a0_5 a0_6))) else (cadencyref04_Check.j0 k true a0_0 a0_1 a0_2 a0_3 a0_4 a0_5 a0_6))) else (cadencyref04_Check.j0 k true a0_0 a0_1 a0_2 a0_3 a0_4 a0_5 a0_6))) else (cadencyref04_Check.j0 k true a0_0 a0_1 a0_2 a0_3 a0_4 a0_5 a0_6)))) else (cadencyref04_Check.j0 k true a0_0 a0_1 a0_2 a0_3 a0_4 a0_5 a0_6)) = some r := H
  have A2 := Aside0.mk A20
  clear A20
  have HC3 := Aside0.mk H
  clear H
  go_enter Tryd.func38, Tryd.ntmps38
  go_upto_region 3 with (first | ((with_reducible refine gate_dst (N := 1) rfl ?_); (try (refine gate_guard (by rfl) ?_; dsimp only)); refine box_event ?hg (N := 1) ?hd (cs := #[.string a0_0, .int .i64 a0_1, .int .i64 a0_2, .int .i64 a0_3, .int .i64 a0_4, .int .i64 a0_5, .int .i64 a0_6]) (t := 29) ?hr ?_; (case hd => rfl); (case hg => rfl); (case hr => first | (go_simp; done) | (go_simp; rfl)); intro gb203 hg w4 hbox hb; have n0_ := Aside0.mk (below_step (by repeat (first | (with_reducible first | exact HB.out | apply below_alloc | apply pw_below_drewN | apply below_drew1) | exact HB.out)) hb); have n1_ := Aside0.mk (hbox); have n2_ := Aside0.mk ((by rw [hg]; exact (below_size (by repeat (first | (with_reducible first | exact HB.out | apply below_alloc | apply pw_below_drewN | apply below_drew1) | exact HB.out))) : w.heap.size ≤ gb203)); have n3_ := Aside0.mk ((by rw [hg]; exact (below_size (by repeat (first | (with_reducible first | exact HB.out | apply below_alloc | apply pw_below_drewN | apply below_drew1) | exact HB.out))) : w.heap.size ≤ gb203)); clear HB; have HB := n0_; have BK203 := n1_; have GW203 := n2_; have GE203 := n3_; clear n0_ n1_ n2_ n3_; clear hb hbox hg; have hcz5_0 : w4.cell? ⟨gb203, 0, none⟩ = some (.string a0_0) := (blk_cell BK203.out 0).trans rfl; have hcz5_1 : w4.cell? ⟨gb203, 1, none⟩ = some (.int .i64 a0_1) := (blk_cell BK203.out 1).trans rfl; have hcz5_2 : w4.cell? ⟨gb203, 2, none⟩ = some (.int .i64 a0_2) := (blk_cell BK203.out 2).trans rfl; have hcz5_3 : w4.cell? ⟨gb203, 3, none⟩ = some (.int .i64 a0_3) := (blk_cell BK203.out 3).trans rfl; have hcz5_4 : w4.cell? ⟨gb203, 4, none⟩ = some (.int .i64 a0_4) := (blk_cell BK203.out 4).trans rfl; have hcz5_5 : w4.cell? ⟨gb203, 5, none⟩ = some (.int .i64 a0_5) := (blk_cell BK203.out 5).trans rfl; have hcz5_6 : w4.cell? ⟨gb203, 6, none⟩ = some (.int .i64 a0_6) := (blk_cell BK203.out 6).trans rfl; have hfz5_0 := blk_frozen BK203.out 0; have hfz5_1 := blk_frozen BK203.out 1; have hfz5_2 := blk_frozen BK203.out 2; have hfz5_3 := blk_frozen BK203.out 3; have hfz5_4 := blk_frozen BK203.out 4; have hfz5_5 := blk_frozen BK203.out 5; have hfz5_6 := blk_frozen BK203.out 6) | ((with_reducible refine gate_callee (f := 50) rfl ?_); refine goesL_ (some 7) rfl rfl Tryd.func50 (by kernel_rfl) rfl #[.string a0_0] rfl (by (try simp only [List.map_toArray, List.map_cons, List.map_nil]); first | done | rfl | (simp only [List.length_drop, List.length_take]; rfl)) ?_; (with_reducible refine (cadencyref03_Word.calls a0_0 t204 _ A2.out).mono ?_); rintro e w6 ⟨rfl, hb⟩; refine ⟨_, rfl, ?_⟩; have n0_ := Aside0.mk (blk_below (g := gb203) (o := .cells #[.string a0_0, .int .i64 a0_1, .int .i64 a0_2, .int .i64 a0_3, .int .i64 a0_4, .int .i64 a0_5, .int .i64 a0_6] 29 (0, 0)) (by (with_reducible repeat (first | refine blk_drewN ?_ _ | refine blk_drew ?_ | refine blk_alloc ?_ _)); exact BK203.out) hb); have n1_ := Aside0.mk (below_step (by repeat (first | (with_reducible first | exact HB.out | apply below_alloc | apply pw_below_drewN | apply below_drew1 | refine below_set ?_ GE203.out) | exact HB.out)) hb); clear BK203; clear HB; have BK203 := n0_; have HB := n1_; clear n0_ n1_; (try clear hb); (try clear hb2); (try clear hk); (try clear hi)))
  (try simp only [Act.put, List.setIfInBounds_toArray, List.set_cons_zero, List.set_cons_succ])
  go_cut [60] (fun v60 wc => ∃ (kq : Nat) (x60_2 : Bool), v60 = .bool x60_2 ∧ Aside0 (cadencyref04_Check.j0 kq x60_2 a0_0 a0_1 a0_2 a0_3 a0_4 a0_5 a0_6 = some r) ∧ Aside0 (kq ≤ k) ∧ Aside0 (wc.heap[gb203]? = some (.cells #[.string a0_0, .int .i64 a0_1, .int .i64 a0_2, .int .i64 a0_3, .int .i64 a0_4, .int .i64 a0_5, .int .i64 a0_6] 29 (0, 0))) ∧ Aside0 (Below w.heap.size w wc))
  case first =>
    have H := HC3.out
    clear HC3
    by_cases c7 : t204 = true
    · subst c7
      have H1 : (if (a0_0.size : Int) > 32 then (cadencyref04_Check.j0 k true a0_0 a0_1 a0_2 a0_3 a0_4 a0_5 a0_6) else ((cadencyref04_in.f a0_1 1 2147483647).bind fun t205 => (if t205 = true then ((cadencyref04_in.f a0_2 1 2147483647).bind fun t206 => (if t206 = true then ((cadencyref04_in.f a0_3 1 2147483647).bind fun t207 => (if t207 = true then ((cadencyref04_in.f a0_5 1 2147483647).bind fun t208 => (if t208 = true then ((cadencyref04_in.f a0_4 0 2147483647).bind fun t209 => (if t209 = true then (if a0_6 < 1 then (cadencyref04_Check.j0 k true a0_0 a0_1 a0_2 a0_3 a0_4 a0_5 a0_6) else (cadencyref04_Check.j0 k (decide (a0_6 > 1048576)) a0_0 a0_1 a0_2 a0_3 a0_4 a0_5 a0_6)) else (cadencyref04_Check.j0 k true a0_0 a0_1 a0_2 a0_3 a0_4 a0_5 a0_6))) else (cadencyref04_Check.j0 k true a0_0 a0_1 a0_2 a0_3 a0_4 a0_5 a0_6))) else (cadencyref04_Check.j0 k true a0_0 a0_1 a0_2 a0_3 a0_4 a0_5 a0_6))) else (cadencyref04_Check.j0 k true a0_0 a0_1 a0_2 a0_3 a0_4 a0_5 a0_6))) else (cadencyref04_Check.j0 k true a0_0 a0_1 a0_2 a0_3 a0_4 a0_5 a0_6)))) = some r := by rw [if_pos rfl] at H; exact H
      clear H
      have H := H1
      clear H1
      by_cases c8 : (a0_0.size : Int) > 32
      · rw [if_pos c8] at H
        have c8b0 : decide (32 < (a0_0.size : Int)) = true := decide_eq_true c8
        have c8b1 : decide (32 < a0_0.size) = true := decide_eq_true (by omega)
        clear c8
        (first | rw [c8b0] | (simp only [i64_w, i32_w]; rw [c8b0]) | skip)
        have H' := Aside0.mk H
        clear H
        have hcz9_0 : w6.cell? ⟨gb203, 0, none⟩ = some (.string a0_0) := (blk_cell BK203.out 0).trans rfl
        have hcz9_1 : w6.cell? ⟨gb203, 1, none⟩ = some (.int .i64 a0_1) := (blk_cell BK203.out 1).trans rfl
        have hcz9_2 : w6.cell? ⟨gb203, 2, none⟩ = some (.int .i64 a0_2) := (blk_cell BK203.out 2).trans rfl
        have hcz9_3 : w6.cell? ⟨gb203, 3, none⟩ = some (.int .i64 a0_3) := (blk_cell BK203.out 3).trans rfl
        have hcz9_4 : w6.cell? ⟨gb203, 4, none⟩ = some (.int .i64 a0_4) := (blk_cell BK203.out 4).trans rfl
        have hcz9_5 : w6.cell? ⟨gb203, 5, none⟩ = some (.int .i64 a0_5) := (blk_cell BK203.out 5).trans rfl
        have hcz9_6 : w6.cell? ⟨gb203, 6, none⟩ = some (.int .i64 a0_6) := (blk_cell BK203.out 6).trans rfl
        have hfz9_0 := blk_frozen BK203.out 0
        have hfz9_1 := blk_frozen BK203.out 1
        have hfz9_2 := blk_frozen BK203.out 2
        have hfz9_3 := blk_frozen BK203.out 3
        have hfz9_4 := blk_frozen BK203.out 4
        have hfz9_5 := blk_frozen BK203.out 5
        have hfz9_6 := blk_frozen BK203.out 6
        go_wp2
        go_meet
        case rel => exact ⟨_, (true), (by first | rfl | (simp; done) | (simp [*]; done)), H', ⟨by first | omega | exact Nat.le_refl _⟩, ⟨by (with_reducible repeat (first | refine blk_drewN ?_ _ | refine blk_drew ?_ | refine blk_alloc ?_ _)); exact BK203.out⟩, ⟨by repeat (first | (with_reducible first | exact HB.out | apply below_alloc | apply pw_below_drewN | apply below_drew1 | refine below_set ?_ GE203.out) | exact HB.out)⟩⟩
      · rw [if_neg c8] at H
        have c8b0 : decide (32 < (a0_0.size : Int)) = false := decide_eq_false c8
        have c8b1 : decide (32 < a0_0.size) = false := decide_eq_false (by omega)
        clear c8
        (first | rw [c8b0] | (simp only [i64_w, i32_w]; rw [c8b0]) | skip)
        replace H := Option.bind_eq_some_iff.mp H
        obtain ⟨t205, A100, H⟩ := H
        replace H : (if t205 = true then ((cadencyref04_in.f a0_2 1 2147483647).bind fun t206 => (if t206 = true then ((cadencyref04_in.f a0_3 1 2147483647).bind fun t207 => (if t207 = true then ((cadencyref04_in.f a0_5 1 2147483647).bind fun t208 => (if t208 = true then ((cadencyref04_in.f a0_4 0 2147483647).bind fun t209 => (if t209 = true then (if a0_6 < 1 then (cadencyref04_Check.j0 k true a0_0 a0_1 a0_2 a0_3 a0_4 a0_5 a0_6) else (cadencyref04_Check.j0 k (decide (a0_6 > 1048576)) a0_0 a0_1 a0_2 a0_3 a0_4 a0_5 a0_6)) else (cadencyref04_Check.j0 k true a0_0 a0_1 a0_2 a0_3 a0_4 a0_5 a0_6))) else (cadencyref04_Check.j0 k true a0_0 a0_1 a0_2 a0_3 a0_4 a0_5 a0_6))) else (cadencyref04_Check.j0 k true a0_0 a0_1 a0_2 a0_3 a0_4 a0_5 a0_6))) else (cadencyref04_Check.j0 k true a0_0 a0_1 a0_2 a0_3 a0_4 a0_5 a0_6))) else (cadencyref04_Check.j0 k true a0_0 a0_1 a0_2 a0_3 a0_4 a0_5 a0_6)) = some r := H
        have A10 := Aside0.mk A100
        clear A100
        by_cases c11 : t205 = true
        · subst c11
          have H1 : ((cadencyref04_in.f a0_2 1 2147483647).bind fun t206 => (if t206 = true then ((cadencyref04_in.f a0_3 1 2147483647).bind fun t207 => (if t207 = true then ((cadencyref04_in.f a0_5 1 2147483647).bind fun t208 => (if t208 = true then ((cadencyref04_in.f a0_4 0 2147483647).bind fun t209 => (if t209 = true then (if a0_6 < 1 then (cadencyref04_Check.j0 k true a0_0 a0_1 a0_2 a0_3 a0_4 a0_5 a0_6) else (cadencyref04_Check.j0 k (decide (a0_6 > 1048576)) a0_0 a0_1 a0_2 a0_3 a0_4 a0_5 a0_6)) else (cadencyref04_Check.j0 k true a0_0 a0_1 a0_2 a0_3 a0_4 a0_5 a0_6))) else (cadencyref04_Check.j0 k true a0_0 a0_1 a0_2 a0_3 a0_4 a0_5 a0_6))) else (cadencyref04_Check.j0 k true a0_0 a0_1 a0_2 a0_3 a0_4 a0_5 a0_6))) else (cadencyref04_Check.j0 k true a0_0 a0_1 a0_2 a0_3 a0_4 a0_5 a0_6))) = some r := by rw [if_pos rfl] at H; exact H
          clear H
          have H := H1
          clear H1
          replace H := Option.bind_eq_some_iff.mp H
          obtain ⟨t206, A120, H⟩ := H
          replace H : (if t206 = true then ((cadencyref04_in.f a0_3 1 2147483647).bind fun t207 => (if t207 = true then ((cadencyref04_in.f a0_5 1 2147483647).bind fun t208 => (if t208 = true then ((cadencyref04_in.f a0_4 0 2147483647).bind fun t209 => (if t209 = true then (if a0_6 < 1 then (cadencyref04_Check.j0 k true a0_0 a0_1 a0_2 a0_3 a0_4 a0_5 a0_6) else (cadencyref04_Check.j0 k (decide (a0_6 > 1048576)) a0_0 a0_1 a0_2 a0_3 a0_4 a0_5 a0_6)) else (cadencyref04_Check.j0 k true a0_0 a0_1 a0_2 a0_3 a0_4 a0_5 a0_6))) else (cadencyref04_Check.j0 k true a0_0 a0_1 a0_2 a0_3 a0_4 a0_5 a0_6))) else (cadencyref04_Check.j0 k true a0_0 a0_1 a0_2 a0_3 a0_4 a0_5 a0_6))) else (cadencyref04_Check.j0 k true a0_0 a0_1 a0_2 a0_3 a0_4 a0_5 a0_6)) = some r := H
          have A12 := Aside0.mk A120
          clear A120
          by_cases c13 : t206 = true
          · subst c13
            have H1 : ((cadencyref04_in.f a0_3 1 2147483647).bind fun t207 => (if t207 = true then ((cadencyref04_in.f a0_5 1 2147483647).bind fun t208 => (if t208 = true then ((cadencyref04_in.f a0_4 0 2147483647).bind fun t209 => (if t209 = true then (if a0_6 < 1 then (cadencyref04_Check.j0 k true a0_0 a0_1 a0_2 a0_3 a0_4 a0_5 a0_6) else (cadencyref04_Check.j0 k (decide (a0_6 > 1048576)) a0_0 a0_1 a0_2 a0_3 a0_4 a0_5 a0_6)) else (cadencyref04_Check.j0 k true a0_0 a0_1 a0_2 a0_3 a0_4 a0_5 a0_6))) else (cadencyref04_Check.j0 k true a0_0 a0_1 a0_2 a0_3 a0_4 a0_5 a0_6))) else (cadencyref04_Check.j0 k true a0_0 a0_1 a0_2 a0_3 a0_4 a0_5 a0_6))) = some r := by rw [if_pos rfl] at H; exact H
            clear H
            have H := H1
            clear H1
            replace H := Option.bind_eq_some_iff.mp H
            obtain ⟨t207, A140, H⟩ := H
            replace H : (if t207 = true then ((cadencyref04_in.f a0_5 1 2147483647).bind fun t208 => (if t208 = true then ((cadencyref04_in.f a0_4 0 2147483647).bind fun t209 => (if t209 = true then (if a0_6 < 1 then (cadencyref04_Check.j0 k true a0_0 a0_1 a0_2 a0_3 a0_4 a0_5 a0_6) else (cadencyref04_Check.j0 k (decide (a0_6 > 1048576)) a0_0 a0_1 a0_2 a0_3 a0_4 a0_5 a0_6)) else (cadencyref04_Check.j0 k true a0_0 a0_1 a0_2 a0_3 a0_4 a0_5 a0_6))) else (cadencyref04_Check.j0 k true a0_0 a0_1 a0_2 a0_3 a0_4 a0_5 a0_6))) else (cadencyref04_Check.j0 k true a0_0 a0_1 a0_2 a0_3 a0_4 a0_5 a0_6)) = some r := H
            have A14 := Aside0.mk A140
            clear A140
            by_cases c15 : t207 = true
            · subst c15
              have H1 : ((cadencyref04_in.f a0_5 1 2147483647).bind fun t208 => (if t208 = true then ((cadencyref04_in.f a0_4 0 2147483647).bind fun t209 => (if t209 = true then (if a0_6 < 1 then (cadencyref04_Check.j0 k true a0_0 a0_1 a0_2 a0_3 a0_4 a0_5 a0_6) else (cadencyref04_Check.j0 k (decide (a0_6 > 1048576)) a0_0 a0_1 a0_2 a0_3 a0_4 a0_5 a0_6)) else (cadencyref04_Check.j0 k true a0_0 a0_1 a0_2 a0_3 a0_4 a0_5 a0_6))) else (cadencyref04_Check.j0 k true a0_0 a0_1 a0_2 a0_3 a0_4 a0_5 a0_6))) = some r := by rw [if_pos rfl] at H; exact H
              clear H
              have H := H1
              clear H1
              replace H := Option.bind_eq_some_iff.mp H
              obtain ⟨t208, A160, H⟩ := H
              replace H : (if t208 = true then ((cadencyref04_in.f a0_4 0 2147483647).bind fun t209 => (if t209 = true then (if a0_6 < 1 then (cadencyref04_Check.j0 k true a0_0 a0_1 a0_2 a0_3 a0_4 a0_5 a0_6) else (cadencyref04_Check.j0 k (decide (a0_6 > 1048576)) a0_0 a0_1 a0_2 a0_3 a0_4 a0_5 a0_6)) else (cadencyref04_Check.j0 k true a0_0 a0_1 a0_2 a0_3 a0_4 a0_5 a0_6))) else (cadencyref04_Check.j0 k true a0_0 a0_1 a0_2 a0_3 a0_4 a0_5 a0_6)) = some r := H
              have A16 := Aside0.mk A160
              clear A160
              by_cases c17 : t208 = true
              · subst c17
                have H1 : ((cadencyref04_in.f a0_4 0 2147483647).bind fun t209 => (if t209 = true then (if a0_6 < 1 then (cadencyref04_Check.j0 k true a0_0 a0_1 a0_2 a0_3 a0_4 a0_5 a0_6) else (cadencyref04_Check.j0 k (decide (a0_6 > 1048576)) a0_0 a0_1 a0_2 a0_3 a0_4 a0_5 a0_6)) else (cadencyref04_Check.j0 k true a0_0 a0_1 a0_2 a0_3 a0_4 a0_5 a0_6))) = some r := by rw [if_pos rfl] at H; exact H
                clear H
                have H := H1
                clear H1
                replace H := Option.bind_eq_some_iff.mp H
                obtain ⟨t209, A180, H⟩ := H
                replace H : (if t209 = true then (if a0_6 < 1 then (cadencyref04_Check.j0 k true a0_0 a0_1 a0_2 a0_3 a0_4 a0_5 a0_6) else (cadencyref04_Check.j0 k (decide (a0_6 > 1048576)) a0_0 a0_1 a0_2 a0_3 a0_4 a0_5 a0_6)) else (cadencyref04_Check.j0 k true a0_0 a0_1 a0_2 a0_3 a0_4 a0_5 a0_6)) = some r := H
                have A18 := Aside0.mk A180
                clear A180
                by_cases c19 : t209 = true
                · subst c19
                  have H1 : (if a0_6 < 1 then (cadencyref04_Check.j0 k true a0_0 a0_1 a0_2 a0_3 a0_4 a0_5 a0_6) else (cadencyref04_Check.j0 k (decide (a0_6 > 1048576)) a0_0 a0_1 a0_2 a0_3 a0_4 a0_5 a0_6)) = some r := by rw [if_pos rfl] at H; exact H
                  clear H
                  have H := H1
                  clear H1
                  by_cases c20 : a0_6 < 1
                  · rw [if_pos c20] at H
                    have c20b0 : decide (a0_6 < 1) = true := decide_eq_true c20
                    clear c20
                    have H' := Aside0.mk H
                    clear H
                    have hcz21_0 : w6.cell? ⟨gb203, 0, none⟩ = some (.string a0_0) := (blk_cell BK203.out 0).trans rfl
                    have hcz21_1 : w6.cell? ⟨gb203, 1, none⟩ = some (.int .i64 a0_1) := (blk_cell BK203.out 1).trans rfl
                    have hcz21_2 : w6.cell? ⟨gb203, 2, none⟩ = some (.int .i64 a0_2) := (blk_cell BK203.out 2).trans rfl
                    have hcz21_3 : w6.cell? ⟨gb203, 3, none⟩ = some (.int .i64 a0_3) := (blk_cell BK203.out 3).trans rfl
                    have hcz21_4 : w6.cell? ⟨gb203, 4, none⟩ = some (.int .i64 a0_4) := (blk_cell BK203.out 4).trans rfl
                    have hcz21_5 : w6.cell? ⟨gb203, 5, none⟩ = some (.int .i64 a0_5) := (blk_cell BK203.out 5).trans rfl
                    have hcz21_6 : w6.cell? ⟨gb203, 6, none⟩ = some (.int .i64 a0_6) := (blk_cell BK203.out 6).trans rfl
                    have hfz21_0 := blk_frozen BK203.out 0
                    have hfz21_1 := blk_frozen BK203.out 1
                    have hfz21_2 := blk_frozen BK203.out 2
                    have hfz21_3 := blk_frozen BK203.out 3
                    have hfz21_4 := blk_frozen BK203.out 4
                    have hfz21_5 := blk_frozen BK203.out 5
                    have hfz21_6 := blk_frozen BK203.out 6
                    go_wp2_with (first | (go_at_call 51; (with_reducible refine (cadencyref04_in.calls a0_1 1 2147483647 true _ A10.out).mono ?_); rintro e w' ⟨rfl, ⟨nd, rfl⟩⟩) | (go_at_call 51; (with_reducible refine (cadencyref04_in.calls a0_2 1 2147483647 true _ A12.out).mono ?_); rintro e w' ⟨rfl, ⟨nd, rfl⟩⟩) | (go_at_call 51; (with_reducible refine (cadencyref04_in.calls a0_3 1 2147483647 true _ A14.out).mono ?_); rintro e w' ⟨rfl, ⟨nd, rfl⟩⟩) | (go_at_call 51; (with_reducible refine (cadencyref04_in.calls a0_5 1 2147483647 true _ A16.out).mono ?_); rintro e w' ⟨rfl, ⟨nd, rfl⟩⟩) | (go_at_call 51; (with_reducible refine (cadencyref04_in.calls a0_4 0 2147483647 true _ A18.out).mono ?_); rintro e w' ⟨rfl, ⟨nd, rfl⟩⟩))
                    go_meet
                    case rel => exact ⟨_, (true), (by first | rfl | (simp; done) | (simp [*]; done)), H', ⟨by first | omega | exact Nat.le_refl _⟩, ⟨by (with_reducible repeat (first | refine blk_drewN ?_ _ | refine blk_drew ?_ | refine blk_alloc ?_ _)); exact BK203.out⟩, ⟨by repeat (first | (with_reducible first | exact HB.out | apply below_alloc | apply pw_below_drewN | apply below_drew1 | refine below_set ?_ GE203.out) | exact HB.out)⟩⟩
                  · rw [if_neg c20] at H
                    have c20b0 : decide (a0_6 < 1) = false := decide_eq_false c20
                    clear c20
                    have H' := Aside0.mk H
                    clear H
                    have hcz22_0 : w6.cell? ⟨gb203, 0, none⟩ = some (.string a0_0) := (blk_cell BK203.out 0).trans rfl
                    have hcz22_1 : w6.cell? ⟨gb203, 1, none⟩ = some (.int .i64 a0_1) := (blk_cell BK203.out 1).trans rfl
                    have hcz22_2 : w6.cell? ⟨gb203, 2, none⟩ = some (.int .i64 a0_2) := (blk_cell BK203.out 2).trans rfl
                    have hcz22_3 : w6.cell? ⟨gb203, 3, none⟩ = some (.int .i64 a0_3) := (blk_cell BK203.out 3).trans rfl
                    have hcz22_4 : w6.cell? ⟨gb203, 4, none⟩ = some (.int .i64 a0_4) := (blk_cell BK203.out 4).trans rfl
                    have hcz22_5 : w6.cell? ⟨gb203, 5, none⟩ = some (.int .i64 a0_5) := (blk_cell BK203.out 5).trans rfl
                    have hcz22_6 : w6.cell? ⟨gb203, 6, none⟩ = some (.int .i64 a0_6) := (blk_cell BK203.out 6).trans rfl
                    have hfz22_0 := blk_frozen BK203.out 0
                    have hfz22_1 := blk_frozen BK203.out 1
                    have hfz22_2 := blk_frozen BK203.out 2
                    have hfz22_3 := blk_frozen BK203.out 3
                    have hfz22_4 := blk_frozen BK203.out 4
                    have hfz22_5 := blk_frozen BK203.out 5
                    have hfz22_6 := blk_frozen BK203.out 6
                    go_wp2_with (first | (go_at_call 51; (with_reducible refine (cadencyref04_in.calls a0_1 1 2147483647 true _ A10.out).mono ?_); rintro e w' ⟨rfl, ⟨nd, rfl⟩⟩) | (go_at_call 51; (with_reducible refine (cadencyref04_in.calls a0_2 1 2147483647 true _ A12.out).mono ?_); rintro e w' ⟨rfl, ⟨nd, rfl⟩⟩) | (go_at_call 51; (with_reducible refine (cadencyref04_in.calls a0_3 1 2147483647 true _ A14.out).mono ?_); rintro e w' ⟨rfl, ⟨nd, rfl⟩⟩) | (go_at_call 51; (with_reducible refine (cadencyref04_in.calls a0_5 1 2147483647 true _ A16.out).mono ?_); rintro e w' ⟨rfl, ⟨nd, rfl⟩⟩) | (go_at_call 51; (with_reducible refine (cadencyref04_in.calls a0_4 0 2147483647 true _ A18.out).mono ?_); rintro e w' ⟨rfl, ⟨nd, rfl⟩⟩))
                    go_meet
                    case rel => exact ⟨_, (decide (a0_6 > 1048576)), (by first | rfl | (simp; done) | (simp [*]; done)), H', ⟨by first | omega | exact Nat.le_refl _⟩, ⟨by (with_reducible repeat (first | refine blk_drewN ?_ _ | refine blk_drew ?_ | refine blk_alloc ?_ _)); exact BK203.out⟩, ⟨by repeat (first | (with_reducible first | exact HB.out | apply below_alloc | apply pw_below_drewN | apply below_drew1 | refine below_set ?_ GE203.out) | exact HB.out)⟩⟩
                · replace c19 := Bool.eq_false_iff.mpr c19
                  subst c19
                  have H1 : (cadencyref04_Check.j0 k true a0_0 a0_1 a0_2 a0_3 a0_4 a0_5 a0_6) = some r := by rw [if_neg (show ¬ (false = true) by decide)] at H; exact H
                  clear H
                  have H := H1
                  clear H1
                  have H' := Aside0.mk H
                  clear H
                  have hcz23_0 : w6.cell? ⟨gb203, 0, none⟩ = some (.string a0_0) := (blk_cell BK203.out 0).trans rfl
                  have hcz23_1 : w6.cell? ⟨gb203, 1, none⟩ = some (.int .i64 a0_1) := (blk_cell BK203.out 1).trans rfl
                  have hcz23_2 : w6.cell? ⟨gb203, 2, none⟩ = some (.int .i64 a0_2) := (blk_cell BK203.out 2).trans rfl
                  have hcz23_3 : w6.cell? ⟨gb203, 3, none⟩ = some (.int .i64 a0_3) := (blk_cell BK203.out 3).trans rfl
                  have hcz23_4 : w6.cell? ⟨gb203, 4, none⟩ = some (.int .i64 a0_4) := (blk_cell BK203.out 4).trans rfl
                  have hcz23_5 : w6.cell? ⟨gb203, 5, none⟩ = some (.int .i64 a0_5) := (blk_cell BK203.out 5).trans rfl
                  have hcz23_6 : w6.cell? ⟨gb203, 6, none⟩ = some (.int .i64 a0_6) := (blk_cell BK203.out 6).trans rfl
                  have hfz23_0 := blk_frozen BK203.out 0
                  have hfz23_1 := blk_frozen BK203.out 1
                  have hfz23_2 := blk_frozen BK203.out 2
                  have hfz23_3 := blk_frozen BK203.out 3
                  have hfz23_4 := blk_frozen BK203.out 4
                  have hfz23_5 := blk_frozen BK203.out 5
                  have hfz23_6 := blk_frozen BK203.out 6
                  go_wp2_with (first | (go_at_call 51; (with_reducible refine (cadencyref04_in.calls a0_1 1 2147483647 true _ A10.out).mono ?_); rintro e w' ⟨rfl, ⟨nd, rfl⟩⟩) | (go_at_call 51; (with_reducible refine (cadencyref04_in.calls a0_2 1 2147483647 true _ A12.out).mono ?_); rintro e w' ⟨rfl, ⟨nd, rfl⟩⟩) | (go_at_call 51; (with_reducible refine (cadencyref04_in.calls a0_3 1 2147483647 true _ A14.out).mono ?_); rintro e w' ⟨rfl, ⟨nd, rfl⟩⟩) | (go_at_call 51; (with_reducible refine (cadencyref04_in.calls a0_5 1 2147483647 true _ A16.out).mono ?_); rintro e w' ⟨rfl, ⟨nd, rfl⟩⟩) | (go_at_call 51; (with_reducible refine (cadencyref04_in.calls a0_4 0 2147483647 false _ A18.out).mono ?_); rintro e w' ⟨rfl, ⟨nd, rfl⟩⟩))
                  go_meet
                  case rel => exact ⟨_, (true), (by first | rfl | (simp; done) | (simp [*]; done)), H', ⟨by first | omega | exact Nat.le_refl _⟩, ⟨by (with_reducible repeat (first | refine blk_drewN ?_ _ | refine blk_drew ?_ | refine blk_alloc ?_ _)); exact BK203.out⟩, ⟨by repeat (first | (with_reducible first | exact HB.out | apply below_alloc | apply pw_below_drewN | apply below_drew1 | refine below_set ?_ GE203.out) | exact HB.out)⟩⟩
              · replace c17 := Bool.eq_false_iff.mpr c17
                subst c17
                have H1 : (cadencyref04_Check.j0 k true a0_0 a0_1 a0_2 a0_3 a0_4 a0_5 a0_6) = some r := by rw [if_neg (show ¬ (false = true) by decide)] at H; exact H
                clear H
                have H := H1
                clear H1
                have H' := Aside0.mk H
                clear H
                have hcz24_0 : w6.cell? ⟨gb203, 0, none⟩ = some (.string a0_0) := (blk_cell BK203.out 0).trans rfl
                have hcz24_1 : w6.cell? ⟨gb203, 1, none⟩ = some (.int .i64 a0_1) := (blk_cell BK203.out 1).trans rfl
                have hcz24_2 : w6.cell? ⟨gb203, 2, none⟩ = some (.int .i64 a0_2) := (blk_cell BK203.out 2).trans rfl
                have hcz24_3 : w6.cell? ⟨gb203, 3, none⟩ = some (.int .i64 a0_3) := (blk_cell BK203.out 3).trans rfl
                have hcz24_4 : w6.cell? ⟨gb203, 4, none⟩ = some (.int .i64 a0_4) := (blk_cell BK203.out 4).trans rfl
                have hcz24_5 : w6.cell? ⟨gb203, 5, none⟩ = some (.int .i64 a0_5) := (blk_cell BK203.out 5).trans rfl
                have hcz24_6 : w6.cell? ⟨gb203, 6, none⟩ = some (.int .i64 a0_6) := (blk_cell BK203.out 6).trans rfl
                have hfz24_0 := blk_frozen BK203.out 0
                have hfz24_1 := blk_frozen BK203.out 1
                have hfz24_2 := blk_frozen BK203.out 2
                have hfz24_3 := blk_frozen BK203.out 3
                have hfz24_4 := blk_frozen BK203.out 4
                have hfz24_5 := blk_frozen BK203.out 5
                have hfz24_6 := blk_frozen BK203.out 6
                go_wp2_with (first | (go_at_call 51; (with_reducible refine (cadencyref04_in.calls a0_1 1 2147483647 true _ A10.out).mono ?_); rintro e w' ⟨rfl, ⟨nd, rfl⟩⟩) | (go_at_call 51; (with_reducible refine (cadencyref04_in.calls a0_2 1 2147483647 true _ A12.out).mono ?_); rintro e w' ⟨rfl, ⟨nd, rfl⟩⟩) | (go_at_call 51; (with_reducible refine (cadencyref04_in.calls a0_3 1 2147483647 true _ A14.out).mono ?_); rintro e w' ⟨rfl, ⟨nd, rfl⟩⟩) | (go_at_call 51; (with_reducible refine (cadencyref04_in.calls a0_5 1 2147483647 false _ A16.out).mono ?_); rintro e w' ⟨rfl, ⟨nd, rfl⟩⟩))
                go_meet
                case rel => exact ⟨_, (true), (by first | rfl | (simp; done) | (simp [*]; done)), H', ⟨by first | omega | exact Nat.le_refl _⟩, ⟨by (with_reducible repeat (first | refine blk_drewN ?_ _ | refine blk_drew ?_ | refine blk_alloc ?_ _)); exact BK203.out⟩, ⟨by repeat (first | (with_reducible first | exact HB.out | apply below_alloc | apply pw_below_drewN | apply below_drew1 | refine below_set ?_ GE203.out) | exact HB.out)⟩⟩
            · replace c15 := Bool.eq_false_iff.mpr c15
              subst c15
              have H1 : (cadencyref04_Check.j0 k true a0_0 a0_1 a0_2 a0_3 a0_4 a0_5 a0_6) = some r := by rw [if_neg (show ¬ (false = true) by decide)] at H; exact H
              clear H
              have H := H1
              clear H1
              have H' := Aside0.mk H
              clear H
              have hcz25_0 : w6.cell? ⟨gb203, 0, none⟩ = some (.string a0_0) := (blk_cell BK203.out 0).trans rfl
              have hcz25_1 : w6.cell? ⟨gb203, 1, none⟩ = some (.int .i64 a0_1) := (blk_cell BK203.out 1).trans rfl
              have hcz25_2 : w6.cell? ⟨gb203, 2, none⟩ = some (.int .i64 a0_2) := (blk_cell BK203.out 2).trans rfl
              have hcz25_3 : w6.cell? ⟨gb203, 3, none⟩ = some (.int .i64 a0_3) := (blk_cell BK203.out 3).trans rfl
              have hcz25_4 : w6.cell? ⟨gb203, 4, none⟩ = some (.int .i64 a0_4) := (blk_cell BK203.out 4).trans rfl
              have hcz25_5 : w6.cell? ⟨gb203, 5, none⟩ = some (.int .i64 a0_5) := (blk_cell BK203.out 5).trans rfl
              have hcz25_6 : w6.cell? ⟨gb203, 6, none⟩ = some (.int .i64 a0_6) := (blk_cell BK203.out 6).trans rfl
              have hfz25_0 := blk_frozen BK203.out 0
              have hfz25_1 := blk_frozen BK203.out 1
              have hfz25_2 := blk_frozen BK203.out 2
              have hfz25_3 := blk_frozen BK203.out 3
              have hfz25_4 := blk_frozen BK203.out 4
              have hfz25_5 := blk_frozen BK203.out 5
              have hfz25_6 := blk_frozen BK203.out 6
              go_wp2_with (first | (go_at_call 51; (with_reducible refine (cadencyref04_in.calls a0_1 1 2147483647 true _ A10.out).mono ?_); rintro e w' ⟨rfl, ⟨nd, rfl⟩⟩) | (go_at_call 51; (with_reducible refine (cadencyref04_in.calls a0_2 1 2147483647 true _ A12.out).mono ?_); rintro e w' ⟨rfl, ⟨nd, rfl⟩⟩) | (go_at_call 51; (with_reducible refine (cadencyref04_in.calls a0_3 1 2147483647 false _ A14.out).mono ?_); rintro e w' ⟨rfl, ⟨nd, rfl⟩⟩))
              go_meet
              case rel => exact ⟨_, (true), (by first | rfl | (simp; done) | (simp [*]; done)), H', ⟨by first | omega | exact Nat.le_refl _⟩, ⟨by (with_reducible repeat (first | refine blk_drewN ?_ _ | refine blk_drew ?_ | refine blk_alloc ?_ _)); exact BK203.out⟩, ⟨by repeat (first | (with_reducible first | exact HB.out | apply below_alloc | apply pw_below_drewN | apply below_drew1 | refine below_set ?_ GE203.out) | exact HB.out)⟩⟩
          · replace c13 := Bool.eq_false_iff.mpr c13
            subst c13
            have H1 : (cadencyref04_Check.j0 k true a0_0 a0_1 a0_2 a0_3 a0_4 a0_5 a0_6) = some r := by rw [if_neg (show ¬ (false = true) by decide)] at H; exact H
            clear H
            have H := H1
            clear H1
            have H' := Aside0.mk H
            clear H
            have hcz26_0 : w6.cell? ⟨gb203, 0, none⟩ = some (.string a0_0) := (blk_cell BK203.out 0).trans rfl
            have hcz26_1 : w6.cell? ⟨gb203, 1, none⟩ = some (.int .i64 a0_1) := (blk_cell BK203.out 1).trans rfl
            have hcz26_2 : w6.cell? ⟨gb203, 2, none⟩ = some (.int .i64 a0_2) := (blk_cell BK203.out 2).trans rfl
            have hcz26_3 : w6.cell? ⟨gb203, 3, none⟩ = some (.int .i64 a0_3) := (blk_cell BK203.out 3).trans rfl
            have hcz26_4 : w6.cell? ⟨gb203, 4, none⟩ = some (.int .i64 a0_4) := (blk_cell BK203.out 4).trans rfl
            have hcz26_5 : w6.cell? ⟨gb203, 5, none⟩ = some (.int .i64 a0_5) := (blk_cell BK203.out 5).trans rfl
            have hcz26_6 : w6.cell? ⟨gb203, 6, none⟩ = some (.int .i64 a0_6) := (blk_cell BK203.out 6).trans rfl
            have hfz26_0 := blk_frozen BK203.out 0
            have hfz26_1 := blk_frozen BK203.out 1
            have hfz26_2 := blk_frozen BK203.out 2
            have hfz26_3 := blk_frozen BK203.out 3
            have hfz26_4 := blk_frozen BK203.out 4
            have hfz26_5 := blk_frozen BK203.out 5
            have hfz26_6 := blk_frozen BK203.out 6
            go_wp2_with (first | (go_at_call 51; (with_reducible refine (cadencyref04_in.calls a0_1 1 2147483647 true _ A10.out).mono ?_); rintro e w' ⟨rfl, ⟨nd, rfl⟩⟩) | (go_at_call 51; (with_reducible refine (cadencyref04_in.calls a0_2 1 2147483647 false _ A12.out).mono ?_); rintro e w' ⟨rfl, ⟨nd, rfl⟩⟩))
            go_meet
            case rel => exact ⟨_, (true), (by first | rfl | (simp; done) | (simp [*]; done)), H', ⟨by first | omega | exact Nat.le_refl _⟩, ⟨by (with_reducible repeat (first | refine blk_drewN ?_ _ | refine blk_drew ?_ | refine blk_alloc ?_ _)); exact BK203.out⟩, ⟨by repeat (first | (with_reducible first | exact HB.out | apply below_alloc | apply pw_below_drewN | apply below_drew1 | refine below_set ?_ GE203.out) | exact HB.out)⟩⟩
        · replace c11 := Bool.eq_false_iff.mpr c11
          subst c11
          have H1 : (cadencyref04_Check.j0 k true a0_0 a0_1 a0_2 a0_3 a0_4 a0_5 a0_6) = some r := by rw [if_neg (show ¬ (false = true) by decide)] at H; exact H
          clear H
          have H := H1
          clear H1
          have H' := Aside0.mk H
          clear H
          have hcz27_0 : w6.cell? ⟨gb203, 0, none⟩ = some (.string a0_0) := (blk_cell BK203.out 0).trans rfl
          have hcz27_1 : w6.cell? ⟨gb203, 1, none⟩ = some (.int .i64 a0_1) := (blk_cell BK203.out 1).trans rfl
          have hcz27_2 : w6.cell? ⟨gb203, 2, none⟩ = some (.int .i64 a0_2) := (blk_cell BK203.out 2).trans rfl
          have hcz27_3 : w6.cell? ⟨gb203, 3, none⟩ = some (.int .i64 a0_3) := (blk_cell BK203.out 3).trans rfl
          have hcz27_4 : w6.cell? ⟨gb203, 4, none⟩ = some (.int .i64 a0_4) := (blk_cell BK203.out 4).trans rfl
          have hcz27_5 : w6.cell? ⟨gb203, 5, none⟩ = some (.int .i64 a0_5) := (blk_cell BK203.out 5).trans rfl
          have hcz27_6 : w6.cell? ⟨gb203, 6, none⟩ = some (.int .i64 a0_6) := (blk_cell BK203.out 6).trans rfl
          have hfz27_0 := blk_frozen BK203.out 0
          have hfz27_1 := blk_frozen BK203.out 1
          have hfz27_2 := blk_frozen BK203.out 2
          have hfz27_3 := blk_frozen BK203.out 3
          have hfz27_4 := blk_frozen BK203.out 4
          have hfz27_5 := blk_frozen BK203.out 5
          have hfz27_6 := blk_frozen BK203.out 6
          go_wp2_with (first | (go_at_call 51; (with_reducible refine (cadencyref04_in.calls a0_1 1 2147483647 false _ A10.out).mono ?_); rintro e w' ⟨rfl, ⟨nd, rfl⟩⟩))
          go_meet
          case rel => exact ⟨_, (true), (by first | rfl | (simp; done) | (simp [*]; done)), H', ⟨by first | omega | exact Nat.le_refl _⟩, ⟨by (with_reducible repeat (first | refine blk_drewN ?_ _ | refine blk_drew ?_ | refine blk_alloc ?_ _)); exact BK203.out⟩, ⟨by repeat (first | (with_reducible first | exact HB.out | apply below_alloc | apply pw_below_drewN | apply below_drew1 | refine below_set ?_ GE203.out) | exact HB.out)⟩⟩
    · replace c7 := Bool.eq_false_iff.mpr c7
      subst c7
      have H1 : (cadencyref04_Check.j0 k true a0_0 a0_1 a0_2 a0_3 a0_4 a0_5 a0_6) = some r := by rw [if_neg (show ¬ (false = true) by decide)] at H; exact H
      clear H
      have H := H1
      clear H1
      have H' := Aside0.mk H
      clear H
      go_wp2
      go_meet
      case rel => exact ⟨_, (true), (by first | rfl | (simp; done) | (simp [*]; done)), H', ⟨by first | omega | exact Nat.le_refl _⟩, ⟨by (with_reducible repeat (first | refine blk_drewN ?_ _ | refine blk_drew ?_ | refine blk_alloc ?_ _)); exact BK203.out⟩, ⟨by repeat (first | (with_reducible first | exact HB.out | apply below_alloc | apply pw_below_drewN | apply below_drew1 | refine below_set ?_ GE203.out) | exact HB.out)⟩⟩
  case rest =>
    clear HC3
    try clear c1
    try clear c2
    try clear p2
    try clear c3
    try clear c5
    try clear c7
    try clear c8
    try clear c8b0
    try clear c8b1
    try clear c11
    try clear c13
    try clear c15
    try clear c17
    try clear c19
    try clear c20
    try clear c20b0
    try clear hcz21_0
    try clear hcz21_1
    try clear hcz21_2
    try clear hcz21_3
    try clear hcz21_4
    try clear hcz21_5
    try clear hcz21_6
    try clear hcz22_0
    try clear hcz22_1
    try clear hcz22_2
    try clear hcz22_3
    try clear hcz22_4
    try clear hcz22_5
    try clear hcz22_6
    try clear hcz23_0
    try clear hcz23_1
    try clear hcz23_2
    try clear hcz23_3
    try clear hcz23_4
    try clear hcz23_5
    try clear hcz23_6
    try clear hcz24_0
    try clear hcz24_1
    try clear hcz24_2
    try clear hcz24_3
    try clear hcz24_4
    try clear hcz24_5
    try clear hcz24_6
    try clear hcz25_0
    try clear hcz25_1
    try clear hcz25_2
    try clear hcz25_3
    try clear hcz25_4
    try clear hcz25_5
    try clear hcz25_6
    try clear hcz26_0
    try clear hcz26_1
    try clear hcz26_2
    try clear hcz26_3
    try clear hcz26_4
    try clear hcz26_5
    try clear hcz26_6
    try clear hcz27_0
    try clear hcz27_1
    try clear hcz27_2
    try clear hcz27_3
    try clear hcz27_4
    try clear hcz27_5
    try clear hcz27_6
    try clear hcz5_0
    try clear hcz5_1
    try clear hcz5_2
    try clear hcz5_3
    try clear hcz5_4
    try clear hcz5_5
    try clear hcz5_6
    try clear hcz9_0
    try clear hcz9_1
    try clear hcz9_2
    try clear hcz9_3
    try clear hcz9_4
    try clear hcz9_5
    try clear hcz9_6
    try clear hfz21_0
    try clear hfz21_1
    try clear hfz21_2
    try clear hfz21_3
    try clear hfz21_4
    try clear hfz21_5
    try clear hfz21_6
    try clear hfz22_0
    try clear hfz22_1
    try clear hfz22_2
    try clear hfz22_3
    try clear hfz22_4
    try clear hfz22_5
    try clear hfz22_6
    try clear hfz23_0
    try clear hfz23_1
    try clear hfz23_2
    try clear hfz23_3
    try clear hfz23_4
    try clear hfz23_5
    try clear hfz23_6
    try clear hfz24_0
    try clear hfz24_1
    try clear hfz24_2
    try clear hfz24_3
    try clear hfz24_4
    try clear hfz24_5
    try clear hfz24_6
    try clear hfz25_0
    try clear hfz25_1
    try clear hfz25_2
    try clear hfz25_3
    try clear hfz25_4
    try clear hfz25_5
    try clear hfz25_6
    try clear hfz26_0
    try clear hfz26_1
    try clear hfz26_2
    try clear hfz26_3
    try clear hfz26_4
    try clear hfz26_5
    try clear hfz26_6
    try clear hfz27_0
    try clear hfz27_1
    try clear hfz27_2
    try clear hfz27_3
    try clear hfz27_4
    try clear hfz27_5
    try clear hfz27_6
    try clear hfz5_0
    try clear hfz5_1
    try clear hfz5_2
    try clear hfz5_3
    try clear hfz5_4
    try clear hfz5_5
    try clear hfz5_6
    try clear hfz9_0
    try clear hfz9_1
    try clear hfz9_2
    try clear hfz9_3
    try clear hfz9_4
    try clear hfz9_5
    try clear hfz9_6
    obtain ⟨kq, x60_2, rfl, HA, HJ2, BK203, HB⟩ := hcut
    cases kq with
    | zero => exact absurd HA.out (by simp [cadencyref04_Check.j0])
    | succ kj2 =>
      have H := HA.out
      clear HA
      simp only [cadencyref04_Check.j0] at H
      by_cases c28 : x60_2 = true
      · subst c28
        have H1 : (some 11) = some r := by rw [if_pos rfl] at H; exact H
        clear H
        have H := H1
        clear H1
        obtain rfl := Option.some.inj H
        go_wp2
        go_ret
        exact ⟨by first | rfl | (simp [errW_none, errW_some] <;> rfl) | (simp [*, errW_none, errW_some] <;> rfl), by repeat (first | (with_reducible first | exact HB.out | apply below_alloc | apply pw_below_drewN | apply below_drew1 | refine below_set ?_ GE203.out) | exact HB.out)⟩
      · replace c28 := Bool.eq_false_iff.mpr c28
        subst c28
        have H1 : (if a0_5 > a0_1 then (cadencyref04_Check.j1 kj2 true) else (if (wrap64 (a0_1 + a0_4)) > a0_3 then (cadencyref04_Check.j1 kj2 true) else (cadencyref04_Check.j1 kj2 (decide (a0_3 > a0_2))))) = some r := by rw [if_neg (show ¬ (false = true) by decide)] at H; exact H
        clear H
        have H := H1
        clear H1
        have HC29 := Aside0.mk H
        clear H
        go_upto_region 5 with (fail)
        go_cut [82] (fun v82 wc => ∃ (kq : Nat) (x82_28 : Bool), v82 = .bool x82_28 ∧ Aside0 (cadencyref04_Check.j1 kq x82_28 = some r) ∧ Aside0 (kq ≤ kj2) ∧ Aside0 (wc.heap[gb203]? = some (.cells #[.string a0_0, .int .i64 a0_1, .int .i64 a0_2, .int .i64 a0_3, .int .i64 a0_4, .int .i64 a0_5, .int .i64 a0_6] 29 (0, 0))) ∧ Aside0 (Below w.heap.size w wc))
        case first =>
          have H := HC29.out
          clear HC29
          by_cases c30 : a0_5 > a0_1
          · rw [if_pos c30] at H
            have c30b0 : decide (a0_1 < a0_5) = true := decide_eq_true c30
            clear c30
            (first | rw [c30b0] | (simp only [i64_w, i32_w]; rw [c30b0]) | skip)
            have H' := Aside0.mk H
            clear H
            have hcz31_0 : wc.cell? ⟨gb203, 0, none⟩ = some (.string a0_0) := (blk_cell BK203.out 0).trans rfl
            have hcz31_1 : wc.cell? ⟨gb203, 1, none⟩ = some (.int .i64 a0_1) := (blk_cell BK203.out 1).trans rfl
            have hcz31_2 : wc.cell? ⟨gb203, 2, none⟩ = some (.int .i64 a0_2) := (blk_cell BK203.out 2).trans rfl
            have hcz31_3 : wc.cell? ⟨gb203, 3, none⟩ = some (.int .i64 a0_3) := (blk_cell BK203.out 3).trans rfl
            have hcz31_4 : wc.cell? ⟨gb203, 4, none⟩ = some (.int .i64 a0_4) := (blk_cell BK203.out 4).trans rfl
            have hcz31_5 : wc.cell? ⟨gb203, 5, none⟩ = some (.int .i64 a0_5) := (blk_cell BK203.out 5).trans rfl
            have hcz31_6 : wc.cell? ⟨gb203, 6, none⟩ = some (.int .i64 a0_6) := (blk_cell BK203.out 6).trans rfl
            have hfz31_0 := blk_frozen BK203.out 0
            have hfz31_1 := blk_frozen BK203.out 1
            have hfz31_2 := blk_frozen BK203.out 2
            have hfz31_3 := blk_frozen BK203.out 3
            have hfz31_4 := blk_frozen BK203.out 4
            have hfz31_5 := blk_frozen BK203.out 5
            have hfz31_6 := blk_frozen BK203.out 6
            go_wp2
            go_meet
            case rel => exact ⟨_, (true), (by first | rfl | (simp; done) | (simp [*]; done)), H', ⟨by have := HJ2.out; first | omega | exact Nat.le_refl _⟩, ⟨by (with_reducible repeat (first | refine blk_drewN ?_ _ | refine blk_drew ?_ | refine blk_alloc ?_ _)); exact BK203.out⟩, ⟨by repeat (first | (with_reducible first | exact HB.out | apply below_alloc | apply pw_below_drewN | apply below_drew1 | refine below_set ?_ GE203.out) | exact HB.out)⟩⟩
          · rw [if_neg c30] at H
            have c30b0 : decide (a0_1 < a0_5) = false := decide_eq_false c30
            clear c30
            (first | rw [c30b0] | (simp only [i64_w, i32_w]; rw [c30b0]) | skip)
            by_cases c32 : (wrap64 (a0_1 + a0_4)) > a0_3
            · rw [if_pos c32] at H
              have c32b0 : decide (a0_3 < (wrap64 (a0_1 + a0_4))) = true := decide_eq_true c32
              clear c32
              have H' := Aside0.mk H
              clear H
              have hcz33_0 : wc.cell? ⟨gb203, 0, none⟩ = some (.string a0_0) := (blk_cell BK203.out 0).trans rfl
              have hcz33_1 : wc.cell? ⟨gb203, 1, none⟩ = some (.int .i64 a0_1) := (blk_cell BK203.out 1).trans rfl
              have hcz33_2 : wc.cell? ⟨gb203, 2, none⟩ = some (.int .i64 a0_2) := (blk_cell BK203.out 2).trans rfl
              have hcz33_3 : wc.cell? ⟨gb203, 3, none⟩ = some (.int .i64 a0_3) := (blk_cell BK203.out 3).trans rfl
              have hcz33_4 : wc.cell? ⟨gb203, 4, none⟩ = some (.int .i64 a0_4) := (blk_cell BK203.out 4).trans rfl
              have hcz33_5 : wc.cell? ⟨gb203, 5, none⟩ = some (.int .i64 a0_5) := (blk_cell BK203.out 5).trans rfl
              have hcz33_6 : wc.cell? ⟨gb203, 6, none⟩ = some (.int .i64 a0_6) := (blk_cell BK203.out 6).trans rfl
              have hfz33_0 := blk_frozen BK203.out 0
              have hfz33_1 := blk_frozen BK203.out 1
              have hfz33_2 := blk_frozen BK203.out 2
              have hfz33_3 := blk_frozen BK203.out 3
              have hfz33_4 := blk_frozen BK203.out 4
              have hfz33_5 := blk_frozen BK203.out 5
              have hfz33_6 := blk_frozen BK203.out 6
              go_wp2
              go_meet
              case rel => exact ⟨_, (true), (by first | rfl | (simp; done) | (simp [*]; done)), H', ⟨by have := HJ2.out; first | omega | exact Nat.le_refl _⟩, ⟨by (with_reducible repeat (first | refine blk_drewN ?_ _ | refine blk_drew ?_ | refine blk_alloc ?_ _)); exact BK203.out⟩, ⟨by repeat (first | (with_reducible first | exact HB.out | apply below_alloc | apply pw_below_drewN | apply below_drew1 | refine below_set ?_ GE203.out) | exact HB.out)⟩⟩
            · rw [if_neg c32] at H
              have c32b0 : decide (a0_3 < (wrap64 (a0_1 + a0_4))) = false := decide_eq_false c32
              clear c32
              have H' := Aside0.mk H
              clear H
              have hcz34_0 : wc.cell? ⟨gb203, 0, none⟩ = some (.string a0_0) := (blk_cell BK203.out 0).trans rfl
              have hcz34_1 : wc.cell? ⟨gb203, 1, none⟩ = some (.int .i64 a0_1) := (blk_cell BK203.out 1).trans rfl
              have hcz34_2 : wc.cell? ⟨gb203, 2, none⟩ = some (.int .i64 a0_2) := (blk_cell BK203.out 2).trans rfl
              have hcz34_3 : wc.cell? ⟨gb203, 3, none⟩ = some (.int .i64 a0_3) := (blk_cell BK203.out 3).trans rfl
              have hcz34_4 : wc.cell? ⟨gb203, 4, none⟩ = some (.int .i64 a0_4) := (blk_cell BK203.out 4).trans rfl
              have hcz34_5 : wc.cell? ⟨gb203, 5, none⟩ = some (.int .i64 a0_5) := (blk_cell BK203.out 5).trans rfl
              have hcz34_6 : wc.cell? ⟨gb203, 6, none⟩ = some (.int .i64 a0_6) := (blk_cell BK203.out 6).trans rfl
              have hfz34_0 := blk_frozen BK203.out 0
              have hfz34_1 := blk_frozen BK203.out 1
              have hfz34_2 := blk_frozen BK203.out 2
              have hfz34_3 := blk_frozen BK203.out 3
              have hfz34_4 := blk_frozen BK203.out 4
              have hfz34_5 := blk_frozen BK203.out 5
              have hfz34_6 := blk_frozen BK203.out 6
              go_wp2
              go_meet
              case rel => exact ⟨_, (decide (a0_3 > a0_2)), (by first | rfl | (simp; done) | (simp [*]; done)), H', ⟨by have := HJ2.out; first | omega | exact Nat.le_refl _⟩, ⟨by (with_reducible repeat (first | refine blk_drewN ?_ _ | refine blk_drew ?_ | refine blk_alloc ?_ _)); exact BK203.out⟩, ⟨by repeat (first | (with_reducible first | exact HB.out | apply below_alloc | apply pw_below_drewN | apply below_drew1 | refine below_set ?_ GE203.out) | exact HB.out)⟩⟩
        case rest =>
          clear HC29
          try clear c1
          try clear c2
          try clear p2
          try clear c3
          try clear c5
          try clear p6
          try clear c7
          try clear c8
          try clear c8b0
          try clear c8b1
          try clear c11
          try clear c13
          try clear c15
          try clear c17
          try clear c19
          try clear c20
          try clear c20b0
          try clear c28
          try clear c30
          try clear c30b0
          try clear c32
          try clear c32b0
          try clear hcz21_0
          try clear hcz21_1
          try clear hcz21_2
          try clear hcz21_3
          try clear hcz21_4
          try clear hcz21_5
          try clear hcz21_6
          try clear hcz22_0
          try clear hcz22_1
          try clear hcz22_2
          try clear hcz22_3
          try clear hcz22_4
          try clear hcz22_5
          try clear hcz22_6
          try clear hcz23_0
          try clear hcz23_1
          try clear hcz23_2
          try clear hcz23_3
          try clear hcz23_4
          try clear hcz23_5
          try clear hcz23_6
          try clear hcz24_0
          try clear hcz24_1
          try clear hcz24_2
          try clear hcz24_3
          try clear hcz24_4
          try clear hcz24_5
          try clear hcz24_6
          try clear hcz25_0
          try clear hcz25_1
          try clear hcz25_2
          try clear hcz25_3
          try clear hcz25_4
          try clear hcz25_5
          try clear hcz25_6
          try clear hcz26_0
          try clear hcz26_1
          try clear hcz26_2
          try clear hcz26_3
          try clear hcz26_4
          try clear hcz26_5
          try clear hcz26_6
          try clear hcz27_0
          try clear hcz27_1
          try clear hcz27_2
          try clear hcz27_3
          try clear hcz27_4
          try clear hcz27_5
          try clear hcz27_6
          try clear hcz31_0
          try clear hcz31_1
          try clear hcz31_2
          try clear hcz31_3
          try clear hcz31_4
          try clear hcz31_5
          try clear hcz31_6
          try clear hcz33_0
          try clear hcz33_1
          try clear hcz33_2
          try clear hcz33_3
          try clear hcz33_4
          try clear hcz33_5
          try clear hcz33_6
          try clear hcz34_0
          try clear hcz34_1
          try clear hcz34_2
          try clear hcz34_3
          try clear hcz34_4
          try clear hcz34_5
          try clear hcz34_6
          try clear hcz5_0
          try clear hcz5_1
          try clear hcz5_2
          try clear hcz5_3
          try clear hcz5_4
          try clear hcz5_5
          try clear hcz5_6
          try clear hcz9_0
          try clear hcz9_1
          try clear hcz9_2
          try clear hcz9_3
          try clear hcz9_4
          try clear hcz9_5
          try clear hcz9_6
          try clear hfz21_0
          try clear hfz21_1
          try clear hfz21_2
          try clear hfz21_3
          try clear hfz21_4
          try clear hfz21_5
          try clear hfz21_6
          try clear hfz22_0
          try clear hfz22_1
          try clear hfz22_2
          try clear hfz22_3
          try clear hfz22_4
          try clear hfz22_5
          try clear hfz22_6
          try clear hfz23_0
          try clear hfz23_1
          try clear hfz23_2
          try clear hfz23_3
          try clear hfz23_4
          try clear hfz23_5
          try clear hfz23_6
          try clear hfz24_0
          try clear hfz24_1
          try clear hfz24_2
          try clear hfz24_3
          try clear hfz24_4
          try clear hfz24_5
          try clear hfz24_6
          try clear hfz25_0
          try clear hfz25_1
          try clear hfz25_2
          try clear hfz25_3
          try clear hfz25_4
          try clear hfz25_5
          try clear hfz25_6
          try clear hfz26_0
          try clear hfz26_1
          try clear hfz26_2
          try clear hfz26_3
          try clear hfz26_4
          try clear hfz26_5
          try clear hfz26_6
          try clear hfz27_0
          try clear hfz27_1
          try clear hfz27_2
          try clear hfz27_3
          try clear hfz27_4
          try clear hfz27_5
          try clear hfz27_6
          try clear hfz31_0
          try clear hfz31_1
          try clear hfz31_2
          try clear hfz31_3
          try clear hfz31_4
          try clear hfz31_5
          try clear hfz31_6
          try clear hfz33_0
          try clear hfz33_1
          try clear hfz33_2
          try clear hfz33_3
          try clear hfz33_4
          try clear hfz33_5
          try clear hfz33_6
          try clear hfz34_0
          try clear hfz34_1
          try clear hfz34_2
          try clear hfz34_3
          try clear hfz34_4
          try clear hfz34_5
          try clear hfz34_6
          try clear hfz5_0
          try clear hfz5_1
          try clear hfz5_2
          try clear hfz5_3
          try clear hfz5_4
          try clear hfz5_5
          try clear hfz5_6
          try clear hfz9_0
          try clear hfz9_1
          try clear hfz9_2
          try clear hfz9_3
          try clear hfz9_4
          try clear hfz9_5
          try clear hfz9_6
          try clear p2
          obtain ⟨kq, x82_28, rfl, HA, HJ28, BK203, HB⟩ := hcut
          cases kq with
          | zero => exact absurd HA.out (by simp [cadencyref04_Check.j1])
          | succ kj28 =>
            have H := HA.out
            clear HA
            simp only [cadencyref04_Check.j1] at H
            by_cases c35 : x82_28 = true
            · subst c35
              have H1 : (some 12) = some r := by rw [if_pos rfl] at H; exact H
              clear H
              have H := H1
              clear H1
              obtain rfl := Option.some.inj H
              go_wp2
              go_ret
              exact ⟨by first | rfl | (simp [errW_none, errW_some] <;> rfl) | (simp [*, errW_none, errW_some] <;> rfl), by repeat (first | (with_reducible first | exact HB.out | apply below_alloc | apply pw_below_drewN | apply below_drew1 | refine below_set ?_ GE203.out) | exact HB.out)⟩
            · replace c35 := Bool.eq_false_iff.mpr c35
              subst c35
              have H1 : (some 0) = some r := by rw [if_neg (show ¬ (false = true) by decide)] at H; exact H
              clear H
              have H := H1
              clear H1
              obtain rfl := Option.some.inj H
              go_wp2
              go_ret
              exact ⟨by first | rfl | (simp [errW_none, errW_some] <;> rfl) | (simp [*, errW_none, errW_some] <;> rfl), by repeat (first | (with_reducible first | exact HB.out | apply below_alloc | apply pw_below_drewN | apply below_drew1 | refine below_set ?_ GE203.out) | exact HB.out)⟩

end Go.Proofs.YtefdcjmfbjlinaaDoor.A
