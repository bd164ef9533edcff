-- written by a program (wip/dev/print2.sh): functions of the program as plain Lean, with their contracts
import Derived.Test.YtcdmgalhboijcaaDx0
namespace Go.Proofs.Ytcdmgalhboijcaa.D
open Go.RowKit Go.Proofs.YtcdmgalhboijcaaW.PrintWords Go.Proofs.YtcdmgalhboijcaaW.PrintLast Go.Proofs.YtcdmgalhboijcaaW.PrintMore
attribute [local go_sem] max2_int min2_int max_two min_two max_three min_three max_four min_four   -- for this text's walks alone
set_option linter.unusedVariables false
set_option linter.unusedSimpArgs false

-- NOT PRINTED: function 48 (task_first)

-- NOT PRINTED: function 41 (task_Check)

-- NOT PRINTED: function 37 (task_CheckAll)

-- NOT PRINTED: function 25 (script_may)

/-! ### script_rest: function 26 -/
def script_rest.f (a0 : Int) (a1 : Int) : Option (Int) := if a1 = 0 then (none) else (if (Int.tmod a0 a1) < 0 then (some (wrap64 ((Int.tmod a0 a1) + a1))) else (some (Int.tmod a0 a1)))
set_option maxHeartbeats 8000000 in
set_option maxRecDepth 100000 in
theorem script_rest.calls (a0 : Int) (a1 : Int) (r : Int) (w : World) (h : script_rest.f a0 a1 = some r) :
    Calls Try.prog 26 #[.int .i64 a0, .int .i64 a1] w fun e w' => e = .returned (.int .i64 r) ∧ Drawn0 w w' := by
  have H : (if a1 = 0 then (none) else (if (Int.tmod a0 a1) < 0 then (some (wrap64 ((Int.tmod a0 a1) + a1))) else (some (Int.tmod a0 a1)))) = some r := h
  clear h
  by_cases c3 : a1 = 0
  · rw [if_pos c3] at H
    exact absurd H (by simp)
  · rw [if_neg c3] at H
    have c3b0 : (a1 == 0) = false := beq_eq_false_iff_ne.mpr c3
    have c3b1 : (a1 != 0) = true := bne_iff_ne.mpr c3
    by_cases c4 : (Int.tmod a0 a1) < 0
    · rw [if_pos c4] at H
      have c4b0 : decide ((Int.tmod a0 a1) < 0) = true := decide_eq_true c4
      clear c4
      obtain rfl := Option.some.inj H
      go_enter Try.func26, Try.ntmps26
      go_wp2
      go_ret
      exact ⟨by first | rfl | (simp; done) | (simp [*]; done), by repeat (first | exact Drawn0.refl _ | apply Drawn0.step)⟩
    · rw [if_neg c4] at H
      have c4b0 : decide ((Int.tmod a0 a1) < 0) = false := decide_eq_false c4
      clear c4
      obtain rfl := Option.some.inj H
      go_enter Try.func26, Try.ntmps26
      go_wp2
      go_ret
      exact ⟨by first | rfl | (simp; done) | (simp [*]; done), by repeat (first | exact Drawn0.refl _ | apply Drawn0.step)⟩

-- NOT PRINTED: function 27 (script_cut)

/-! ### cadencylaw08_few: function 11 -/
mutual
def cadencylaw08_few.l0 : Nat → List (S36) → Int → List (S36) → Int → Option ((List (S36)))
  | 0, _, _, _, _ => none
  | k + 1, x0, x1, x5, x6 => if x6 < (x0.length : Int) then (cadencylaw08_few.j1 k x0 x1 x5 x6 (decide (x6 < x1))) else (cadencylaw08_few.j1 k x0 x1 x5 x6 false)
def cadencylaw08_few.j1 : Nat → List (S36) → Int → List (S36) → Int → Bool → Option ((List (S36)))
  | 0, _, _, _, _, _ => none
  | k + 1, x0, x1, x5, x6, x16 => if x16 = true then (if 0 ≤ x6 then (if x6 < (x0.length : Int) then (if (((rd_T36 x0 x6).f4).length : Int) > 6 then (if 6 ≤ (((rd_T36 x0 x6).f4).length : Int) then (if x5.length < 2513169434916 then (cadencylaw08_few.l0 k x0 x1 (x5 ++ [(⟨(rd_T36 x0 x6).f0, (rd_T36 x0 x6).f1, (rd_T36 x0 x6).f2, (rd_T36 x0 x6).f3, (((rd_T36 x0 x6).f4).take 6)⟩ : S36)]) (wrap64 (x6 + 1))) else (none)) else (none)) else (if x5.length < 2513169434916 then (cadencylaw08_few.l0 k x0 x1 (x5 ++ [(⟨(rd_T36 x0 x6).f0, (rd_T36 x0 x6).f1, (rd_T36 x0 x6).f2, (rd_T36 x0 x6).f3, (rd_T36 x0 x6).f4⟩ : S36)]) (wrap64 (x6 + 1))) else (none))) else (none)) else (none)) else (some x5)
end
def cadencylaw08_few.f (k : Nat) (l0 : List (S36)) (a1 : Int) : Option ((List (S36))) := cadencylaw08_few.l0 k l0 a1 ([] : List (S36)) 0
theorem cadencylaw08_few.mono_l : ∀ k, (∀ y0 y1 y2 y3, LeO (cadencylaw08_few.l0 k y0 y1 y2 y3) (cadencylaw08_few.l0 (k + 1) y0 y1 y2 y3)) ∧ (∀ y0 y1 y2 y3 y4, LeO (cadencylaw08_few.j1 k y0 y1 y2 y3 y4) (cadencylaw08_few.j1 (k + 1) y0 y1 y2 y3 y4))
  | 0 => ⟨fun _ _ _ _ r h => by simp [cadencylaw08_few.l0] at h, fun _ _ _ _ _ r h => by simp [cadencylaw08_few.j1] at h⟩
  | k + 1 => by
    obtain ⟨ih0, ih1⟩ := cadencylaw08_few.mono_l k
    refine ⟨?_, ?_⟩
    · intro y0 y1 y2 y3
      unfold cadencylaw08_few.l0
      repeat' first
      | (with_reducible exact ih0 _ _ _ _)
      | (with_reducible exact ih1 _ _ _ _ _)
      | (with_reducible exact LeO.refl _)
      | (with_reducible exact LeO.none _)
      | (with_reducible refine LeO.ite ?_ ?_)
      | (with_reducible refine LeO.bind ?_ (fun _ => ?_))
      | exact ih0 _ _ _ _
      | exact ih1 _ _ _ _ _
      | exact LeO.none _
      | refine LeO.ite ?_ ?_
      | refine LeO.bind ?_ (fun _ => ?_)
    · intro y0 y1 y2 y3 y4
      unfold cadencylaw08_few.j1
      repeat' first
      | (with_reducible exact ih0 _ _ _ _)
      | (with_reducible exact ih1 _ _ _ _ _)
      | (with_reducible exact LeO.refl _)
      | (with_reducible exact LeO.none _)
      | (with_reducible refine LeO.ite ?_ ?_)
      | (with_reducible refine LeO.bind ?_ (fun _ => ?_))
      | exact ih0 _ _ _ _
      | exact ih1 _ _ _ _ _
      | exact LeO.none _
      | refine LeO.ite ?_ ?_
      | refine LeO.bind ?_ (fun _ => ?_)
theorem cadencylaw08_few.mono : ∀ a0 a1 k, LeO (cadencylaw08_few.f k a0 a1) (cadencylaw08_few.f (k + 1) a0 a1) := by
  intro a0 a1 k
  obtain ⟨ih0, ih1⟩ := cadencylaw08_few.mono_l k
  unfold cadencylaw08_few.f
  repeat' first
      | (with_reducible exact ih0 _ _ _ _)
      | (with_reducible exact ih1 _ _ _ _ _)
      | (with_reducible exact LeO.refl _)
      | (with_reducible exact LeO.none _)
      | (with_reducible refine LeO.ite ?_ ?_)
      | (with_reducible refine LeO.bind ?_ (fun _ => ?_))
      | exact ih0 _ _ _ _
      | exact ih1 _ _ _ _ _
      | exact LeO.none _
      | refine LeO.ite ?_ ?_
      | refine LeO.bind ?_ (fun _ => ?_)
set_option maxHeartbeats 8000000 in
set_option maxRecDepth 100000 in
theorem cadencylaw08_few.calls (k : Nat) (P0_ : Nat → Prop) (A0 : Option Addr) (c0 : Nat) (l0 : List (S36)) (a1 : Int) (r : List (S36)) (w : World) (hs0 : Kd.V k36 36 w w.heap.size (fun k_ => P0_ k_) (.slice A0 l0.length c0) l0) (h : cadencylaw08_few.f k l0 a1 = some r) :
    Calls Try.prog 11 #[.slice A0 l0.length c0, .int .i64 a1] w fun e w' => ∃ v0_ : Value, e = .returned (v0_) ∧ Kd.N k36 36 w' w.heap.size (fun k_ => (P0_ k_ ∨ w.heap.size ≤ k_)) v0_ r ∧ Below w.heap.size w w' := by
  have hu36 := Try.underlying36
  have HO0 := Aside0.mk (show Kd.V k36 36 w w.heap.size (fun k_ => (P0_ k_ ∨ w.heap.size ≤ k_)) (.slice A0 l0.length c0) l0 from Kd.V_mono hs0 (fun k_ hk => .inl hk))
  have HB := Aside0.mk (Below.refl w.heap.size w)
  have H : (cadencylaw08_few.l0 k l0 a1 ([] : List (S36)) 0) = some r := h
  clear h
  have H' := Aside0.mk H
  clear H
  go_enter Try.func11, Try.ntmps11
  go_wp2
  go_loopg [5, 6] k (fun kq v5 v6 w' => ∃ (x5_1 : List (S36)) (x6_1 : Int), v6 = .int .i64 x6_1 ∧ Aside0 (cadencylaw08_few.l0 kq l0 a1 x5_1 x6_1 = some r) ∧ Aside0 (kq ≤ k) ∧ Aside0 (Kd.V k36 36 w' w.heap.size (fun k_ => (P0_ k_ ∨ w.heap.size ≤ k_) ∧ some k_ ≠ (v5 : Value).ownBlock) (.slice A0 l0.length c0) l0) ∧ Aside0 (Kd.N k36 36 w' w.heap.size (fun k_ => (P0_ k_ ∨ w.heap.size ≤ k_)) v5 x5_1) ∧ Aside0 (Below w.heap.size w w'))
  case atStart => exact ⟨(([] : List (S36))), (0), (by first | rfl | (simp; done) | (simp [*]; done)), H', ⟨Nat.le_refl _⟩, ⟨by (with_reducible repeat (first | apply Kd.V_alloc | apply Kd.V_drewN | apply Kd.V_drew)); exact Kd.V_mono HO0.out (fun _ hk => ⟨hk, (by simp [Value.ownBlock])⟩)⟩, ⟨by first | exact Kd.S_nil _ _ _ _ _ | exact Kd.N_nil _ _ _ _ _ | exact Kd.V_nil _ _ _ _ _ | exact Kd.Q_nil _ _ _ _ _ | exact Kd.R_nil _ _ _ _ _⟩, ⟨by repeat (first | (with_reducible first | exact HB.out | apply below_alloc | apply pw_below_drewN | apply below_drew1) | exact HB.out)⟩⟩
  case round =>
    clear H'
    try clear c1
    try clear p2
    obtain ⟨x5_1, x6_1, rfl, HA, HK1, HO_0, HO_5, HB⟩ := hrel
    cases gk with
    | zero => exact absurd HA.out (by simp [cadencylaw08_few.l0])
    | succ k1 =>
      have H := HA.out
      clear HA
      simp only [cadencylaw08_few.l0] at H
      have HC3 := Aside0.mk H
      clear H
      go_upto_region 3 with (fail)
      go_cut [16] (fun v16 wc => ∃ (kq : Nat) (x16_2 : Bool), v16 = .bool x16_2 ∧ Aside0 (cadencylaw08_few.j1 kq l0 a1 x5_1 x6_1 x16_2 = some r) ∧ Aside0 (kq ≤ k1) ∧ Aside0 (Kd.V k36 36 wc w.heap.size (fun k_ => (P0_ k_ ∨ w.heap.size ≤ k_) ∧ some k_ ≠ (u5 : Value).ownBlock) (.slice A0 l0.length c0) l0) ∧ Aside0 (Kd.N k36 36 wc w.heap.size (fun k_ => (P0_ k_ ∨ w.heap.size ≤ k_)) u5 x5_1) ∧ Aside0 (Below w.heap.size w wc))
      case first =>
        have H := HC3.out
        clear HC3
        by_cases c4 : x6_1 < (l0.length : Int)
        · rw [if_pos c4] at H
          have c4b0 : decide (x6_1 < (l0.length : Int)) = true := decide_eq_true c4
          clear c4
          (first | rw [c4b0] | (simp only [i64_w, i32_w]; rw [c4b0]) | skip)
          have H' := Aside0.mk H
          clear H
          go_wp2
          go_meet
          case rel => exact ⟨_, (decide (x6_1 < a1)), (by first | rfl | (simp; done) | (simp [*]; done)), H', ⟨by have := HK1.out; first | omega | exact Nat.le_refl _⟩, ⟨by (with_reducible repeat (first | apply Kd.V_alloc | apply Kd.V_drewN | apply Kd.V_drew)); exact HO_0.out⟩, ⟨by (with_reducible repeat (first | apply Kd.N_alloc | apply Kd.N_drewN | apply Kd.N_drew)); exact HO_5.out⟩, ⟨by repeat (first | (with_reducible first | exact HB.out | apply below_alloc | apply pw_below_drewN | apply below_drew1) | exact HB.out)⟩⟩
        · rw [if_neg c4] at H
          have c4b0 : decide (x6_1 < (l0.length : Int)) = false := decide_eq_false c4
          clear c4
          (first | rw [c4b0] | (simp only [i64_w, i32_w]; rw [c4b0]) | skip)
          have H' := Aside0.mk H
          clear H
          go_wp2
          go_meet
          case rel => exact ⟨_, (false), (by first | rfl | (simp; done) | (simp [*]; done)), H', ⟨by have := HK1.out; first | omega | exact Nat.le_refl _⟩, ⟨by (with_reducible repeat (first | apply Kd.V_alloc | apply Kd.V_drewN | apply Kd.V_drew)); exact HO_0.out⟩, ⟨by (with_reducible repeat (first | apply Kd.N_alloc | apply Kd.N_drewN | apply Kd.N_drew)); exact HO_5.out⟩, ⟨by repeat (first | (with_reducible first | exact HB.out | apply below_alloc | apply pw_below_drewN | apply below_drew1) | exact HB.out)⟩⟩
      case rest =>
        clear HC3
        try clear c1
        try clear p2
        try clear c4
        try clear c4b0
        try clear p2
        obtain ⟨kq, x16_2, rfl, HA, HJ2, HO_0, HO_5, HB⟩ := hcut
        cases kq with
        | zero => exact absurd HA.out (by simp [cadencylaw08_few.j1])
        | succ kj2 =>
          have H := HA.out
          clear HA
          simp only [cadencylaw08_few.j1] at H
          by_cases c5 : x16_2 = true
          · subst c5
            have H1 : (if 0 ≤ x6_1 then (if x6_1 < (l0.length : Int) then (if (((rd_T36 l0 x6_1).f4).length : Int) > 6 then (if 6 ≤ (((rd_T36 l0 x6_1).f4).length : Int) then (if x5_1.length < 2513169434916 then (cadencylaw08_few.l0 kj2 l0 a1 (x5_1 ++ [(⟨(rd_T36 l0 x6_1).f0, (rd_T36 l0 x6_1).f1, (rd_T36 l0 x6_1).f2, (rd_T36 l0 x6_1).f3, (((rd_T36 l0 x6_1).f4).take 6)⟩ : S36)]) (wrap64 (x6_1 + 1))) else (none)) else (none)) else (if x5_1.length < 2513169434916 then (cadencylaw08_few.l0 kj2 l0 a1 (x5_1 ++ [(⟨(rd_T36 l0 x6_1).f0, (rd_T36 l0 x6_1).f1, (rd_T36 l0 x6_1).f2, (rd_T36 l0 x6_1).f3, (rd_T36 l0 x6_1).f4⟩ : S36)]) (wrap64 (x6_1 + 1))) else (none))) else (none)) else (none)) = some r := by rw [if_pos rfl] at H; exact H
            clear H
            have H := H1
            clear H1
            by_cases c6 : 0 ≤ x6_1
            · rw [if_pos c6] at H
              have c6b0 : decide (0 ≤ x6_1) = true := decide_eq_true c6
              clear c6
              by_cases c7 : x6_1 < (l0.length : Int)
              · rw [if_pos c7] at H
                have c7b0 : decide (x6_1 < (l0.length : Int)) = true := decide_eq_true c7
                clear c7
                by_cases c8 : (((rd_T36 l0 x6_1).f4).length : Int) > 6
                · rw [if_pos c8] at H
                  have c8b0 : decide (6 < (((rd_T36 l0 x6_1).f4).length : Int)) = true := decide_eq_true c8
                  have c8b1 : decide (6 < ((rd_T36 l0 x6_1).f4).length) = true := decide_eq_true (by omega)
                  clear c8
                  by_cases c9 : 6 ≤ (((rd_T36 l0 x6_1).f4).length : Int)
                  · rw [if_pos c9] at H
                    have c9b0 := eq_true c9
                    have c9b1 : decide (6 ≤ (((rd_T36 l0 x6_1).f4).length : Int)) = true := decide_eq_true c9
                    clear c9
                    obtain ⟨y104, hy104⟩ : ∃ y_ : List Int, y_ = (((rd_T36 l0 x6_1).f4).take 6) := ⟨_, rfl⟩
                    replace H : (if x5_1.length < 2513169434916 then (cadencylaw08_few.l0 kj2 l0 a1 (x5_1 ++ [(⟨(rd_T36 l0 x6_1).f0, (rd_T36 l0 x6_1).f1, (rd_T36 l0 x6_1).f2, (rd_T36 l0 x6_1).f3, y104⟩ : S36)]) (wrap64 (x6_1 + 1))) else (none)) = some r := by first | (rw [hy104]; with_reducible exact H) | (have H2_ := (Option.bind_some _ _).symm.trans H; rw [hy104]; with_reducible exact H2_) | (have H2_ := (Option.bind_some _ _).symm.trans H; with_reducible exact H2_) | with_reducible exact H | (rw [hy104]; exact H) | exact H
                    have Ny104 := Aside0.mk hy104
                    clear hy104
                    by_cases c10 : x5_1.length < 2513169434916
                    · rw [if_pos c10] at H
                      have LMc10 := Aside0.mk c10
                      clear c10
                      obtain ⟨y109, hy109⟩ : ∃ y_ : List (S36), y_ = (x5_1 ++ [(⟨(rd_T36 l0 x6_1).f0, (rd_T36 l0 x6_1).f1, (rd_T36 l0 x6_1).f2, (rd_T36 l0 x6_1).f3, y104⟩ : S36)]) := ⟨_, rfl⟩
                      replace H : (cadencylaw08_few.l0 kj2 l0 a1 y109 (wrap64 (x6_1 + 1))) = some r := by first | (rw [hy109]; with_reducible exact H) | (have H2_ := (Option.bind_some _ _).symm.trans H; rw [hy109]; with_reducible exact H2_) | (have H2_ := (Option.bind_some _ _).symm.trans H; with_reducible exact H2_) | with_reducible exact H | (rw [hy109]; exact H) | exact H
                      have Ny109 := Aside0.mk hy109
                      clear hy109
                      have H' := Aside0.mk H
                      clear H
                      have p102 : 0 ≤ (x6_1 : Int) := of_decide_eq_true (by first | (with_reducible assumption) | assumption)
                      have q102 : x6_1 < (l0.length : Int) := of_decide_eq_true (by first | (with_reducible assumption) | assumption)
                      obtain ⟨ad102, A102_4, c102_4, e102, hx102_0, hx102_1, hx102_2, hx102_3, hx102_4, hl102_4, hi102_4⟩ := at_T36 (Kd.V_reads' HO_0.out).2.2 x6_1 p102 q102
                      cases e102
                      obtain ⟨ce102, hce102, hMe102, hcc102⟩ := Kd.V_get HO_0.out z36 x6_1 p102 (by first | exact q102 | exact of_decide_eq_true (by first | (with_reducible assumption) | assumption) | (have e_ := (Kd.V_reads' HO_0.out).1; omega))
                      obtain ⟨ua102_4, uc102_4, rfl, ul102_4, ge102_4⟩ := k36_openF hMe102
                      have hv102_4 := hcc102 4 _ rfl
                      rw [add_field _ _ 4 (by omega)] at hv102_4
                      replace hv102_4 := Option.some.inj (hv102_4.symm.trans hx102_4)
                      injection hv102_4 with hva_ hvn_ hvc_
                      rw [hva_] at ge102_4
                      rw [hvc_] at ul102_4
                      have HL102_4 := Aside0.mk (show Kd.V (Kd.int .i64) 3 _ w.heap.size _ _ ((rd_T36 l0 x6_1).f4) from Kd.V_mk ul102_4 ge102_4)
                      clear hva_ hvn_ hvc_ ge102_4 ul102_4
                      clear hcc102 hce102
                      have HR102_4 := Aside0.mk hi102_4
                      have HC102_4 := Aside0.mk hl102_4
                      clear hi102_4 hl102_4
                      replace p102 := eq_true p102
                      replace q102 := eq_true q102
                      go_wp2_with (first | ((with_reducible refine gate_dst (N := 7) rfl ?_); refine box_event ?hg (N := 7) ?hd (cs := #[.int .i64 0, .int .i64 0, .int .i64 0, .int .i64 0, .slice none 0 0]) (t := 36) ?hr ?_; (case hd => rfl); (case hg => rfl); (case hr => first | (go_simp; done) | (go_simp; rfl)); intro gb103 hg w11 hbox hb; have n0_ := Aside0.mk (Kd.V_below (Kd.V_elderB (by (with_reducible repeat (first | apply Kd.V_alloc | apply Kd.V_drewN | apply Kd.V_drew)); exact HO_0.out) gb103 (Nat.le_of_eq hg.symm)) hb); have n1_ := Aside0.mk (Kd.N_below (Kd.N_elderB (by (with_reducible repeat (first | apply Kd.N_alloc | apply Kd.N_drewN | apply Kd.N_drew)); exact HO_5.out) gb103 (Nat.le_of_eq hg.symm)) hb); have n2_ := Aside0.mk (Kd.V_below (Kd.V_elderB (by (with_reducible repeat (first | apply Kd.V_alloc | apply Kd.V_drewN | apply Kd.V_drew)); exact HL102_4.out) gb103 (Nat.le_of_eq hg.symm)) hb); have n3_ := Aside0.mk (Kd.C_below (by repeat (first | (with_reducible exact HR102_4.out) | (with_reducible refine Kd.C_alloc ?_ _) | (with_reducible refine Kd.C_drewN ?_ _) | (with_reducible refine Kd.C_drew ?_) | exact HR102_4.out)) hb); have n4_ := Aside0.mk (below_step (by repeat (first | (with_reducible first | exact HB.out | apply below_alloc | apply pw_below_drewN | apply below_drew1) | exact HB.out)) hb); have n5_ := Aside0.mk (hbox); have n6_ := Aside0.mk ((by rw [hg]; exact (below_size (by repeat (first | (with_reducible first | exact HB.out | apply below_alloc | apply pw_below_drewN | apply below_drew1) | exact HB.out))) : w.heap.size ≤ gb103)); have n7_ := Aside0.mk ((by rw [hg]; exact (below_size (by repeat (first | (with_reducible first | exact HB.out | apply below_alloc | apply pw_below_drewN | apply below_drew1) | exact HB.out))) : w.heap.size ≤ gb103)); clear HO_0; clear HO_5; clear HL102_4; clear HR102_4; clear HB; have HO_0 := n0_; have HO_5 := n1_; have HL102_4 := n2_; have HR102_4 := n3_; have HB := n4_; have BK103 := n5_; have GW103 := n6_; have GE103 := n7_; clear n0_ n1_ n2_ n3_ n4_ n5_ n6_ n7_; clear hb hbox hg; have hcz12_0 : w11.cell? ⟨gb103, 0, none⟩ = some (.int .i64 0) := (blk_cell BK103.out 0).trans rfl; have hcz12_1 : w11.cell? ⟨gb103, 1, none⟩ = some (.int .i64 0) := (blk_cell BK103.out 1).trans rfl; have hcz12_2 : w11.cell? ⟨gb103, 2, none⟩ = some (.int .i64 0) := (blk_cell BK103.out 2).trans rfl; have hcz12_3 : w11.cell? ⟨gb103, 3, none⟩ = some (.int .i64 0) := (blk_cell BK103.out 3).trans rfl; have hcz12_4 : w11.cell? ⟨gb103, 4, none⟩ = some (.slice none 0 0) := (blk_cell BK103.out 4).trans rfl; have hfz12_0 := blk_frozen BK103.out 0; have hfz12_1 := blk_frozen BK103.out 1; have hfz12_2 := blk_frozen BK103.out 2; have hfz12_3 := blk_frozen BK103.out 3; have hfz12_4 := blk_frozen BK103.out 4) | ((with_reducible refine gate_store (t := 36) (p := 7) rfl ?_); refine store_event (t := 36) (p := 7) (v := ?vo_w13) (w1 := (((((w11.setCell ⟨gb103, 0, none⟩ (.int .i64 ((rd_T36 l0 x6_1).f0))).setCell ⟨gb103, 1, none⟩ (.int .i64 ((rd_T36 l0 x6_1).f1))).setCell ⟨gb103, 2, none⟩ (.int .i64 ((rd_T36 l0 x6_1).f2))).setCell ⟨gb103, 3, none⟩ (.int .i64 ((rd_T36 l0 x6_1).f3))).setCell ⟨gb103, 4, none⟩ (.slice A102_4 ((rd_T36 l0 x6_1).f4).length c102_4))) ?hg ?ho ?hn ?hr ?_; (case ho => rfl); (case hg => rfl); (case hn => rfl); (case hr => first | (go_simp; done) | (go_simp; rfl)); intro w13 hw; have n0_ : Aside0 (Kd.V k36 36 w13 w.heap.size (fun k_ => (P0_ k_ ∨ w.heap.size ≤ k_) ∧ some k_ ≠ (u5 : Value).ownBlock ∧ k_ ≠ gb103) (.slice (some ad102) l0.length c0) l0) := ⟨(by rw [hw]; exact (by (with_reducible repeat (first | apply Kd.V_alloc | apply Kd.V_drewN | apply Kd.V_drew)); exact Kd.V_mono (Kd.V_far (p := ⟨gb103, 4, none⟩) (Kd.V_far (p := ⟨gb103, 3, none⟩) (Kd.V_far (p := ⟨gb103, 2, none⟩) (Kd.V_far (p := ⟨gb103, 1, none⟩) (Kd.V_far (p := ⟨gb103, 0, none⟩) (Kd.V_mono HO_0.out (fun k_ hk => (⟨hk, hk.2⟩ : _ ∧ k_ ≠ gb103))) (fun _ hk => hk.2) (.int .i64 ((rd_T36 l0 x6_1).f0))) (fun _ hk => hk.2) (.int .i64 ((rd_T36 l0 x6_1).f1))) (fun _ hk => hk.2) (.int .i64 ((rd_T36 l0 x6_1).f2))) (fun _ hk => hk.2) (.int .i64 ((rd_T36 l0 x6_1).f3))) (fun _ hk => hk.2) (.slice A102_4 ((rd_T36 l0 x6_1).f4).length c102_4)) (fun _ hk => ⟨hk.1.1.1, ⟨hk.1.1.2, hk.1.2⟩⟩)))⟩; have n1_ : Aside0 (Kd.N k36 36 w13 w.heap.size (fun k_ => (P0_ k_ ∨ w.heap.size ≤ k_) ∧ k_ ≠ gb103) u5 x5_1) := ⟨(by rw [hw]; exact (by (with_reducible repeat (first | apply Kd.N_alloc | apply Kd.N_drewN | apply Kd.N_drew)); exact Kd.N_mono (Kd.N_far (p := ⟨gb103, 4, none⟩) (Kd.N_far (p := ⟨gb103, 3, none⟩) (Kd.N_far (p := ⟨gb103, 2, none⟩) (Kd.N_far (p := ⟨gb103, 1, none⟩) (Kd.N_far (p := ⟨gb103, 0, none⟩) (Kd.N_mono HO_5.out (fun k_ hk => (⟨hk, hk.2⟩ : _ ∧ k_ ≠ gb103))) (fun _ hk => hk.2) (.int .i64 ((rd_T36 l0 x6_1).f0))) (fun _ hk => hk.2) (.int .i64 ((rd_T36 l0 x6_1).f1))) (fun _ hk => hk.2) (.int .i64 ((rd_T36 l0 x6_1).f2))) (fun _ hk => hk.2) (.int .i64 ((rd_T36 l0 x6_1).f3))) (fun _ hk => hk.2) (.slice A102_4 ((rd_T36 l0 x6_1).f4).length c102_4)) (fun _ hk => ⟨hk.1.1, hk.1.2⟩)))⟩; have n2_ : Aside0 (Kd.V (Kd.int .i64) 3 w13 w.heap.size (fun k_ => (P0_ k_ ∨ w.heap.size ≤ k_) ∧ some k_ ≠ (u5 : Value).ownBlock ∧ k_ ≠ gb103) (.slice A102_4 ((rd_T36 l0 x6_1).f4).length c102_4) ((rd_T36 l0 x6_1).f4)) := ⟨(by rw [hw]; exact (by (with_reducible repeat (first | apply Kd.V_alloc | apply Kd.V_drewN | apply Kd.V_drew)); exact Kd.V_mono (Kd.V_far (p := ⟨gb103, 4, none⟩) (Kd.V_far (p := ⟨gb103, 3, none⟩) (Kd.V_far (p := ⟨gb103, 2, none⟩) (Kd.V_far (p := ⟨gb103, 1, none⟩) (Kd.V_far (p := ⟨gb103, 0, none⟩) (Kd.V_mono HL102_4.out (fun k_ hk => (⟨hk, hk.2⟩ : _ ∧ k_ ≠ gb103))) (fun _ hk => hk.2) (.int .i64 ((rd_T36 l0 x6_1).f0))) (fun _ hk => hk.2) (.int .i64 ((rd_T36 l0 x6_1).f1))) (fun _ hk => hk.2) (.int .i64 ((rd_T36 l0 x6_1).f2))) (fun _ hk => hk.2) (.int .i64 ((rd_T36 l0 x6_1).f3))) (fun _ hk => hk.2) (.slice A102_4 ((rd_T36 l0 x6_1).f4).length c102_4)) (fun _ hk => ⟨hk.1.1.1, ⟨hk.1.1.2, hk.1.2⟩⟩)))⟩; have n3_ : Aside0 (w13.heap[gb103]? = some (.cells #[.int .i64 ((rd_T36 l0 x6_1).f0), .int .i64 ((rd_T36 l0 x6_1).f1), .int .i64 ((rd_T36 l0 x6_1).f2), .int .i64 ((rd_T36 l0 x6_1).f3), .slice A102_4 ((rd_T36 l0 x6_1).f4).length c102_4] 36 (0, 0))) := ⟨(by rw [hw]; exact (by (with_reducible repeat (first | refine blk_drewN ?_ _ | refine blk_drew ?_ | refine blk_alloc ?_ _)); refine blk_put (cs := #[.int .i64 ((rd_T36 l0 x6_1).f0), .int .i64 ((rd_T36 l0 x6_1).f1), .int .i64 ((rd_T36 l0 x6_1).f2), .int .i64 ((rd_T36 l0 x6_1).f3), .slice none 0 0]) ?_ 4 _ rfl; (with_reducible repeat (first | refine blk_drewN ?_ _ | refine blk_drew ?_ | refine blk_alloc ?_ _)); refine blk_put (cs := #[.int .i64 ((rd_T36 l0 x6_1).f0), .int .i64 ((rd_T36 l0 x6_1).f1), .int .i64 ((rd_T36 l0 x6_1).f2), .int .i64 0, .slice none 0 0]) ?_ 3 _ rfl; (with_reducible repeat (first | refine blk_drewN ?_ _ | refine blk_drew ?_ | refine blk_alloc ?_ _)); refine blk_put (cs := #[.int .i64 ((rd_T36 l0 x6_1).f0), .int .i64 ((rd_T36 l0 x6_1).f1), .int .i64 0, .int .i64 0, .slice none 0 0]) ?_ 2 _ rfl; (with_reducible repeat (first | refine blk_drewN ?_ _ | refine blk_drew ?_ | refine blk_alloc ?_ _)); refine blk_put (cs := #[.int .i64 ((rd_T36 l0 x6_1).f0), .int .i64 0, .int .i64 0, .int .i64 0, .slice none 0 0]) ?_ 1 _ rfl; (with_reducible repeat (first | refine blk_drewN ?_ _ | refine blk_drew ?_ | refine blk_alloc ?_ _)); refine blk_put (cs := #[.int .i64 0, .int .i64 0, .int .i64 0, .int .i64 0, .slice none 0 0]) ?_ 0 _ rfl; (with_reducible repeat (first | refine blk_drewN ?_ _ | refine blk_drew ?_ | refine blk_alloc ?_ _)); exact BK103.out))⟩; have n4_ : Aside0 (Below w.heap.size w w13) := ⟨(by rw [hw]; exact (by repeat (first | (with_reducible first | exact HB.out | apply below_alloc | apply pw_below_drewN | apply below_drew1 | refine below_set ?_ GE103.out) | exact HB.out)))⟩; clear hw; clear HO_0; clear HO_5; clear HL102_4; clear BK103; clear HB; have HO_0 := n0_; have HO_5 := n1_; have HL102_4 := n2_; have BK103 := n3_; have HB := n4_; clear n0_ n1_ n2_ n3_ n4_; have hcz14_0 : w13.cell? ⟨gb103, 0, none⟩ = some (.int .i64 ((rd_T36 l0 x6_1).f0)) := (blk_cell BK103.out 0).trans rfl; have hcz14_1 : w13.cell? ⟨gb103, 1, none⟩ = some (.int .i64 ((rd_T36 l0 x6_1).f1)) := (blk_cell BK103.out 1).trans rfl; have hcz14_2 : w13.cell? ⟨gb103, 2, none⟩ = some (.int .i64 ((rd_T36 l0 x6_1).f2)) := (blk_cell BK103.out 2).trans rfl; have hcz14_3 : w13.cell? ⟨gb103, 3, none⟩ = some (.int .i64 ((rd_T36 l0 x6_1).f3)) := (blk_cell BK103.out 3).trans rfl; have hcz14_4 : w13.cell? ⟨gb103, 4, none⟩ = some (.slice A102_4 ((rd_T36 l0 x6_1).f4).length c102_4) := (blk_cell BK103.out 4).trans rfl; have hfz14_0 := blk_frozen BK103.out 0; have hfz14_1 := blk_frozen BK103.out 1; have hfz14_2 := blk_frozen BK103.out 2; have hfz14_3 := blk_frozen BK103.out 3; have hfz14_4 := blk_frozen BK103.out 4; have q15 : (6 : Int) ≤ ((((rd_T36 l0 x6_1).f4).length : Int) : Int) := of_decide_eq_true (by first | (with_reducible assumption) | assumption); obtain ⟨i015, hi015, _, hsz15, _⟩ := info_parts info3; have hroom15 : ((rd_T36 l0 x6_1).f4).length ≤ c102_4 := HC102_4.out; have hC15 : Kd.F (Kd.int .i64) _ _ A102_4 ((rd_T36 l0 x6_1).f4).length ((rd_T36 l0 x6_1).f4) := (Kd.V_at (base := w.heap.size) HL102_4.out).2.2; have hcut15 := cut_to (P := Try.prog) 34 3 .i64 Try.underlying34 hi015 A102_4 ((rd_T36 l0 x6_1).f4).length c102_4 6 (by omega) q15 hroom15; have hr15 := Kd.F_take (m := 6) hC15 (by omega); have hy15 : y104.length = (6 : Int).toNat := (by rw [Ny104.out, List.length_take]; omega); rw [← Ny104.out] at hr15; rw [← hy15] at hcut15; have HO108 := Aside0.mk (show Kd.V (Kd.int .i64) 3 _ w.heap.size _ (.slice A102_4 y104.length c102_4) y104 from Kd.V_mk (by omega) hr15); have HC108 := Aside0.mk (show y104.length ≤ c102_4 from by omega); clear hr15 hC15 hroom15 hi015 hsz15; have KY15 := Aside0.mk hy15; clear hy15; replace q15 := eq_true q15) | ((with_reducible refine gate_store (t := 34) (p := 30) rfl ?_); refine store_event (t := 34) (p := 30) (v := ?vo_w16) (w1 := (w13.setCell ⟨gb103, 4, none⟩ (.slice A102_4 y104.length c102_4))) ?hg ?ho ?hn ?hr ?_; (case ho => rfl); (case hg => rfl); (case hn => rfl); (case hr => first | (go_simp; done) | (go_simp; rfl)); intro w16 hw; have n0_ : Aside0 (Kd.V k36 36 w16 w.heap.size (fun k_ => (P0_ k_ ∨ w.heap.size ≤ k_) ∧ some k_ ≠ (u5 : Value).ownBlock ∧ k_ ≠ gb103) (.slice (some ad102) l0.length c0) l0) := ⟨(by rw [hw]; exact (by (with_reducible repeat (first | apply Kd.V_alloc | apply Kd.V_drewN | apply Kd.V_drew)); exact Kd.V_mono (Kd.V_far (p := ⟨gb103, 4, none⟩) (Kd.V_mono HO_0.out (fun k_ hk => (⟨hk, hk.2.2⟩ : _ ∧ k_ ≠ gb103))) (fun _ hk => hk.2) (.slice A102_4 y104.length c102_4)) (fun _ hk => ⟨hk.1.1, ⟨hk.1.2.1, hk.1.2.2⟩⟩)))⟩; have n1_ : Aside0 (Kd.N k36 36 w16 w.heap.size (fun k_ => (P0_ k_ ∨ w.heap.size ≤ k_) ∧ k_ ≠ gb103) u5 x5_1) := ⟨(by rw [hw]; exact (by (with_reducible repeat (first | apply Kd.N_alloc | apply Kd.N_drewN | apply Kd.N_drew)); exact Kd.N_mono (Kd.N_far (p := ⟨gb103, 4, none⟩) (Kd.N_mono HO_5.out (fun k_ hk => (⟨hk, hk.2⟩ : _ ∧ k_ ≠ gb103))) (fun _ hk => hk.2) (.slice A102_4 y104.length c102_4)) (fun _ hk => ⟨hk.1.1, hk.1.2⟩)))⟩; have n2_ : Aside0 (Kd.V (Kd.int .i64) 3 w16 w.heap.size (fun k_ => (P0_ k_ ∨ w.heap.size ≤ k_) ∧ some k_ ≠ (u5 : Value).ownBlock ∧ k_ ≠ gb103) (.slice A102_4 ((rd_T36 l0 x6_1).f4).length c102_4) ((rd_T36 l0 x6_1).f4)) := ⟨(by rw [hw]; exact (by (with_reducible repeat (first | apply Kd.V_alloc | apply Kd.V_drewN | apply Kd.V_drew)); exact Kd.V_mono (Kd.V_far (p := ⟨gb103, 4, none⟩) (Kd.V_mono HL102_4.out (fun k_ hk => (⟨hk, hk.2.2⟩ : _ ∧ k_ ≠ gb103))) (fun _ hk => hk.2) (.slice A102_4 y104.length c102_4)) (fun _ hk => ⟨hk.1.1, ⟨hk.1.2.1, hk.1.2.2⟩⟩)))⟩; have n3_ : Aside0 (Kd.V (Kd.int .i64) 3 w16 w.heap.size (fun k_ => (P0_ k_ ∨ w.heap.size ≤ k_) ∧ some k_ ≠ (u5 : Value).ownBlock ∧ k_ ≠ gb103) (.slice A102_4 y104.length c102_4) y104) := ⟨(by rw [hw]; exact (by (with_reducible repeat (first | apply Kd.V_alloc | apply Kd.V_drewN | apply Kd.V_drew)); exact Kd.V_mono (Kd.V_far (p := ⟨gb103, 4, none⟩) (Kd.V_mono HO108.out (fun k_ hk => (⟨hk, hk.2.2⟩ : _ ∧ k_ ≠ gb103))) (fun _ hk => hk.2) (.slice A102_4 y104.length c102_4)) (fun _ hk => ⟨hk.1.1, ⟨hk.1.2.1, hk.1.2.2⟩⟩)))⟩; have n4_ : Aside0 (w16.heap[gb103]? = some (.cells #[.int .i64 ((rd_T36 l0 x6_1).f0), .int .i64 ((rd_T36 l0 x6_1).f1), .int .i64 ((rd_T36 l0 x6_1).f2), .int .i64 ((rd_T36 l0 x6_1).f3), .slice A102_4 y104.length c102_4] 36 (0, 0))) := ⟨(by rw [hw]; exact (by (with_reducible repeat (first | refine blk_drewN ?_ _ | refine blk_drew ?_ | refine blk_alloc ?_ _)); refine blk_put (cs := #[.int .i64 ((rd_T36 l0 x6_1).f0), .int .i64 ((rd_T36 l0 x6_1).f1), .int .i64 ((rd_T36 l0 x6_1).f2), .int .i64 ((rd_T36 l0 x6_1).f3), .slice A102_4 ((rd_T36 l0 x6_1).f4).length c102_4]) ?_ 4 _ rfl; (with_reducible repeat (first | refine blk_drewN ?_ _ | refine blk_drew ?_ | refine blk_alloc ?_ _)); exact BK103.out))⟩; have n5_ : Aside0 (Below w.heap.size w w16) := ⟨(by rw [hw]; exact (by repeat (first | (with_reducible first | exact HB.out | apply below_alloc | apply pw_below_drewN | apply below_drew1 | refine below_set ?_ GE103.out) | exact HB.out)))⟩; clear hw; clear HO_0; clear HO_5; clear HL102_4; clear HO108; clear BK103; clear HB; have HO_0 := n0_; have HO_5 := n1_; have HL102_4 := n2_; have HO108 := n3_; have BK103 := n4_; have HB := n5_; clear n0_ n1_ n2_ n3_ n4_ n5_; have hcz17_0 : w16.cell? ⟨gb103, 0, none⟩ = some (.int .i64 ((rd_T36 l0 x6_1).f0)) := (blk_cell BK103.out 0).trans rfl; have hcz17_1 : w16.cell? ⟨gb103, 1, none⟩ = some (.int .i64 ((rd_T36 l0 x6_1).f1)) := (blk_cell BK103.out 1).trans rfl; have hcz17_2 : w16.cell? ⟨gb103, 2, none⟩ = some (.int .i64 ((rd_T36 l0 x6_1).f2)) := (blk_cell BK103.out 2).trans rfl; have hcz17_3 : w16.cell? ⟨gb103, 3, none⟩ = some (.int .i64 ((rd_T36 l0 x6_1).f3)) := (blk_cell BK103.out 3).trans rfl; have hcz17_4 : w16.cell? ⟨gb103, 4, none⟩ = some (.slice A102_4 y104.length c102_4) := (blk_cell BK103.out 4).trans rfl; have hfz17_0 := blk_frozen BK103.out 0; have hfz17_1 := blk_frozen BK103.out 1; have hfz17_2 := blk_frozen BK103.out 2; have hfz17_3 := blk_frozen BK103.out 3; have hfz17_4 := blk_frozen BK103.out 4) | ((with_reducible refine gate_builtin (b := .append) (xs := #[.tmp 31, .tmp 33]) rfl ?_); at_builtin; refine Kd.N_append k36 (w0 := w) w.heap.size rfl (.tmp 31) (.tmp 33) 23 36 (.agg #[(.int .i64 0), (.int .i64 0), (.int .i64 0), (.int .i64 0), (.slice none 0 0)]) 56 rfl Try.underlying23 info36 rfl (by decide) (by omega) u5 x5_1 (⟨(rd_T36 l0 x6_1).f0, (rd_T36 l0 x6_1).f1, (rd_T36 l0 x6_1).f2, (rd_T36 l0 x6_1).f3, y104⟩ : S36) [.int .i64 ((rd_T36 l0 x6_1).f0), .int .i64 ((rd_T36 l0 x6_1).f1), .int .i64 ((rd_T36 l0 x6_1).f2), .int .i64 ((rd_T36 l0 x6_1).f3), .slice A102_4 y104.length c102_4] (fun k_ => (P0_ k_ ∨ w.heap.size ≤ k_) ∧ k_ ≠ gb103) (fun k_ => ((fun k_ => (P0_ k_ ∨ w.heap.size ≤ k_) ∧ k_ ≠ gb103)) k_ ∧ some k_ ≠ (u5 : Value).ownBlock) rfl rfl ?aP (fun _ hk => hk) ?aF ?aO ?aB ?aS ?aL ?_; (case aP => exact (k36_mkF _ _ (⟨(rd_T36 l0 x6_1).f0, (rd_T36 l0 x6_1).f1, (rd_T36 l0 x6_1).f2, (rd_T36 l0 x6_1).f3, y104⟩ : S36) (Kd.V_reads' (Kd.V_mono (ok' := (fun k_ => ((fun k_ => (P0_ k_ ∨ w.heap.size ≤ k_) ∧ k_ ≠ gb103)) k_ ∧ some k_ ≠ (u5 : Value).ownBlock)) (HO108.out) (fun k_ hk => ⟨⟨hk.1, hk.2.2⟩, hk.2.1⟩))).2.1 (Kd.V_F (Kd.V_mono (ok' := (fun k_ => ((fun k_ => (P0_ k_ ∨ w.heap.size ≤ k_) ∧ k_ ≠ gb103)) k_ ∧ some k_ ≠ (u5 : Value).ownBlock)) (HO108.out) (fun k_ hk => ⟨⟨hk.1, hk.2.2⟩, hk.2.1⟩))))); (case aB => exact (by repeat (first | (with_reducible first | exact HB.out | apply below_alloc | apply pw_below_drewN | apply below_drew1 | refine below_set ?_ GE103.out) | exact HB.out))); (case aF => exact (fun k_ hk => ⟨(.inr (Nat.le_trans (below_size (by repeat (first | (with_reducible first | exact HB.out | apply below_alloc | apply pw_below_drewN | apply below_drew1 | refine below_set ?_ GE103.out) | exact HB.out))) hk)), Kd.freshB (g := gb103) (o := .cells #[.int .i64 ((rd_T36 l0 x6_1).f0), .int .i64 ((rd_T36 l0 x6_1).f1), .int .i64 ((rd_T36 l0 x6_1).f2), .int .i64 ((rd_T36 l0 x6_1).f3), .slice A102_4 y104.length c102_4] 36 (0, 0)) (by (with_reducible repeat (first | refine blk_drewN ?_ _ | refine blk_drew ?_ | refine blk_alloc ?_ _)); exact BK103.out) k_ hk⟩)); (case aO => exact (by (with_reducible repeat (first | apply Kd.N_alloc | apply Kd.N_drewN | apply Kd.N_drew)); exact HO_5.out)); (case aS => exact (below_size (by repeat (first | (with_reducible first | exact HB.out | apply below_alloc | apply pw_below_drewN | apply below_drew1 | refine below_set ?_ GE103.out) | exact HB.out)))); (case aL => have := LMc10.out; omega); intro v110 w18 ho hb hg hat; rw [← Ny109.out] at ho; have n0_ := Aside0.mk (Kd.V_afterv (ok := (fun k_ => (P0_ k_ ∨ w.heap.size ≤ k_) ∧ k_ ≠ gb103)) (by (with_reducible repeat (first | apply Kd.V_alloc | apply Kd.V_drewN | apply Kd.V_drew)); exact Kd.V_mono HO_0.out (fun _ hk => ⟨⟨hk.1, hk.2.2⟩, hk.2.1⟩)) hg hat); have n1_ := Aside0.mk (Kd.V_afterv (ok := (fun k_ => (P0_ k_ ∨ w.heap.size ≤ k_) ∧ k_ ≠ gb103)) (by (with_reducible repeat (first | apply Kd.V_alloc | apply Kd.V_drewN | apply Kd.V_drew)); exact Kd.V_mono HL102_4.out (fun _ hk => ⟨⟨hk.1, hk.2.2⟩, hk.2.1⟩)) hg hat); have n2_ := Aside0.mk (blk_grown (g := gb103) (o := .cells #[.int .i64 ((rd_T36 l0 x6_1).f0), .int .i64 ((rd_T36 l0 x6_1).f1), .int .i64 ((rd_T36 l0 x6_1).f2), .int .i64 ((rd_T36 l0 x6_1).f3), .slice A102_4 y104.length c102_4] 36 (0, 0)) (by (with_reducible repeat (first | refine blk_drewN ?_ _ | refine blk_drew ?_ | refine blk_alloc ?_ _)); exact BK103.out) hg (Kd.N_away HO_5.out (fun _ hk => hk.2))); have n3_ := Aside0.mk (Kd.V_afterv (ok := (fun k_ => (P0_ k_ ∨ w.heap.size ≤ k_) ∧ k_ ≠ gb103)) (by (with_reducible repeat (first | apply Kd.V_alloc | apply Kd.V_drewN | apply Kd.V_drew)); exact Kd.V_mono HO108.out (fun _ hk => ⟨⟨hk.1, hk.2.2⟩, hk.2.1⟩)) hg hat); have n4_ := Aside0.mk (hb); have n5_ := Aside0.mk (ho); clear HO_0; clear HL102_4; clear BK103; clear HO108; clear HB; clear HO_5; have HO_0 := n0_; have HL102_4 := n1_; have BK103 := n2_; have HO108 := n3_; have HB := n4_; have HO111 := n5_; clear n0_ n1_ n2_ n3_ n4_ n5_; clear ho hb hg hat))
                      go_roundg kj2
                      case measure => have := HK1.out; have := HJ2.out; omega
                      case rel => exact ⟨(y109), (wrap64 (x6_1 + 1)), (by first | rfl | (simp; done) | (simp [*]; done)), H', ⟨by have := HK1.out; have := HJ2.out; omega⟩, ⟨by (with_reducible repeat (first | apply Kd.V_alloc | apply Kd.V_drewN | apply Kd.V_drew)); exact Kd.V_mono HO_0.out (fun _ hk => ⟨hk.1.1, hk.2⟩)⟩, ⟨by (with_reducible repeat (first | apply Kd.N_alloc | apply Kd.N_drewN | apply Kd.N_drew)); exact Kd.N_mono HO111.out (fun _ hk => hk.1)⟩, ⟨by repeat (first | (with_reducible first | exact HB.out | apply below_alloc | apply pw_below_drewN | apply below_drew1 | refine below_set ?_ GE103.out) | exact HB.out)⟩⟩
                    · rw [if_neg c10] at H
                      exact absurd H (by simp)
                  · rw [if_neg c9] at H
                    exact absurd H (by simp)
                · rw [if_neg c8] at H
                  have c8b0 : decide (6 < (((rd_T36 l0 x6_1).f4).length : Int)) = false := decide_eq_false c8
                  have c8b1 : decide (6 < ((rd_T36 l0 x6_1).f4).length) = false := decide_eq_false (by omega)
                  clear c8
                  by_cases c19 : x5_1.length < 2513169434916
                  · rw [if_pos c19] at H
                    have LMc19 := Aside0.mk c19
                    clear c19
                    obtain ⟨y112, hy112⟩ : ∃ y_ : List (S36), y_ = (x5_1 ++ [(⟨(rd_T36 l0 x6_1).f0, (rd_T36 l0 x6_1).f1, (rd_T36 l0 x6_1).f2, (rd_T36 l0 x6_1).f3, (rd_T36 l0 x6_1).f4⟩ : S36)]) := ⟨_, rfl⟩
                    replace H : (cadencylaw08_few.l0 kj2 l0 a1 y112 (wrap64 (x6_1 + 1))) = some r := by first | (rw [hy112]; with_reducible exact H) | (have H2_ := (Option.bind_some _ _).symm.trans H; rw [hy112]; with_reducible exact H2_) | (have H2_ := (Option.bind_some _ _).symm.trans H; with_reducible exact H2_) | with_reducible exact H | (rw [hy112]; exact H) | exact H
                    have Ny112 := Aside0.mk hy112
                    clear hy112
                    have H' := Aside0.mk H
                    clear H
                    have p102 : 0 ≤ (x6_1 : Int) := of_decide_eq_true (by first | (with_reducible assumption) | assumption)
                    have q102 : x6_1 < (l0.length : Int) := of_decide_eq_true (by first | (with_reducible assumption) | assumption)
                    obtain ⟨ad102, A102_4, c102_4, e102, hx102_0, hx102_1, hx102_2, hx102_3, hx102_4, hl102_4, hi102_4⟩ := at_T36 (Kd.V_reads' HO_0.out).2.2 x6_1 p102 q102
                    cases e102
                    obtain ⟨ce102, hce102, hMe102, hcc102⟩ := Kd.V_get HO_0.out z36 x6_1 p102 (by first | exact q102 | exact of_decide_eq_true (by first | (with_reducible assumption) | assumption) | (have e_ := (Kd.V_reads' HO_0.out).1; omega))
                    obtain ⟨ua102_4, uc102_4, rfl, ul102_4, ge102_4⟩ := k36_openF hMe102
                    have hv102_4 := hcc102 4 _ rfl
                    rw [add_field _ _ 4 (by omega)] at hv102_4
                    replace hv102_4 := Option.some.inj (hv102_4.symm.trans hx102_4)
                    injection hv102_4 with hva_ hvn_ hvc_
                    rw [hva_] at ge102_4
                    rw [hvc_] at ul102_4
                    have HL102_4 := Aside0.mk (show Kd.V (Kd.int .i64) 3 _ w.heap.size _ _ ((rd_T36 l0 x6_1).f4) from Kd.V_mk ul102_4 ge102_4)
                    clear hva_ hvn_ hvc_ ge102_4 ul102_4
                    clear hcc102 hce102
                    have HR102_4 := Aside0.mk hi102_4
                    have HC102_4 := Aside0.mk hl102_4
                    clear hi102_4 hl102_4
                    replace p102 := eq_true p102
                    replace q102 := eq_true q102
                    go_wp2_with (first | ((with_reducible refine gate_dst (N := 7) rfl ?_); refine box_event ?hg (N := 7) ?hd (cs := #[.int .i64 0, .int .i64 0, .int .i64 0, .int .i64 0, .slice none 0 0]) (t := 36) ?hr ?_; (case hd => rfl); (case hg => rfl); (case hr => first | (go_simp; done) | (go_simp; rfl)); intro gb103 hg w20 hbox hb; have n0_ := Aside0.mk (Kd.V_below (Kd.V_elderB (by (with_reducible repeat (first | apply Kd.V_alloc | apply Kd.V_drewN | apply Kd.V_drew)); exact HO_0.out) gb103 (Nat.le_of_eq hg.symm)) hb); have n1_ := Aside0.mk (Kd.N_below (Kd.N_elderB (by (with_reducible repeat (first | apply Kd.N_alloc | apply Kd.N_drewN | apply Kd.N_drew)); exact HO_5.out) gb103 (Nat.le_of_eq hg.symm)) hb); have n2_ := Aside0.mk (Kd.V_below (Kd.V_elderB (by (with_reducible repeat (first | apply Kd.V_alloc | apply Kd.V_drewN | apply Kd.V_drew)); exact HL102_4.out) gb103 (Nat.le_of_eq hg.symm)) hb); have n3_ := Aside0.mk (Kd.C_below (by repeat (first | (with_reducible exact HR102_4.out) | (with_reducible refine Kd.C_alloc ?_ _) | (with_reducible refine Kd.C_drewN ?_ _) | (with_reducible refine Kd.C_drew ?_) | exact HR102_4.out)) hb); have n4_ := Aside0.mk (below_step (by repeat (first | (with_reducible first | exact HB.out | apply below_alloc | apply pw_below_drewN | apply below_drew1) | exact HB.out)) hb); have n5_ := Aside0.mk (hbox); have n6_ := Aside0.mk ((by rw [hg]; exact (below_size (by repeat (first | (with_reducible first | exact HB.out | apply below_alloc | apply pw_below_drewN | apply below_drew1) | exact HB.out))) : w.heap.size ≤ gb103)); have n7_ := Aside0.mk ((by rw [hg]; exact (below_size (by repeat (first | (with_reducible first | exact HB.out | apply below_alloc | apply pw_below_drewN | apply below_drew1) | exact HB.out))) : w.heap.size ≤ gb103)); clear HO_0; clear HO_5; clear HL102_4; clear HR102_4; clear HB; have HO_0 := n0_; have HO_5 := n1_; have HL102_4 := n2_; have HR102_4 := n3_; have HB := n4_; have BK103 := n5_; have GW103 := n6_; have GE103 := n7_; clear n0_ n1_ n2_ n3_ n4_ n5_ n6_ n7_; clear hb hbox hg; have hcz21_0 : w20.cell? ⟨gb103, 0, none⟩ = some (.int .i64 0) := (blk_cell BK103.out 0).trans rfl; have hcz21_1 : w20.cell? ⟨gb103, 1, none⟩ = some (.int .i64 0) := (blk_cell BK103.out 1).trans rfl; have hcz21_2 : w20.cell? ⟨gb103, 2, none⟩ = some (.int .i64 0) := (blk_cell BK103.out 2).trans rfl; have hcz21_3 : w20.cell? ⟨gb103, 3, none⟩ = some (.int .i64 0) := (blk_cell BK103.out 3).trans rfl; have hcz21_4 : w20.cell? ⟨gb103, 4, none⟩ = some (.slice none 0 0) := (blk_cell BK103.out 4).trans rfl; have hfz21_0 := blk_frozen BK103.out 0; have hfz21_1 := blk_frozen BK103.out 1; have hfz21_2 := blk_frozen BK103.out 2; have hfz21_3 := blk_frozen BK103.out 3; have hfz21_4 := blk_frozen BK103.out 4) | ((with_reducible refine gate_store (t := 36) (p := 7) rfl ?_); refine store_event (t := 36) (p := 7) (v := ?vo_w22) (w1 := (((((w20.setCell ⟨gb103, 0, none⟩ (.int .i64 ((rd_T36 l0 x6_1).f0))).setCell ⟨gb103, 1, none⟩ (.int .i64 ((rd_T36 l0 x6_1).f1))).setCell ⟨gb103, 2, none⟩ (.int .i64 ((rd_T36 l0 x6_1).f2))).setCell ⟨gb103, 3, none⟩ (.int .i64 ((rd_T36 l0 x6_1).f3))).setCell ⟨gb103, 4, none⟩ (.slice A102_4 ((rd_T36 l0 x6_1).f4).length c102_4))) ?hg ?ho ?hn ?hr ?_; (case ho => rfl); (case hg => rfl); (case hn => rfl); (case hr => first | (go_simp; done) | (go_simp; rfl)); intro w22 hw; have n0_ : Aside0 (Kd.V k36 36 w22 w.heap.size (fun k_ => (P0_ k_ ∨ w.heap.size ≤ k_) ∧ some k_ ≠ (u5 : Value).ownBlock ∧ k_ ≠ gb103) (.slice (some ad102) l0.length c0) l0) := ⟨(by rw [hw]; exact (by (with_reducible repeat (first | apply Kd.V_alloc | apply Kd.V_drewN | apply Kd.V_drew)); exact Kd.V_mono (Kd.V_far (p := ⟨gb103, 4, none⟩) (Kd.V_far (p := ⟨gb103, 3, none⟩) (Kd.V_far (p := ⟨gb103, 2, none⟩) (Kd.V_far (p := ⟨gb103, 1, none⟩) (Kd.V_far (p := ⟨gb103, 0, none⟩) (Kd.V_mono HO_0.out (fun k_ hk => (⟨hk, hk.2⟩ : _ ∧ k_ ≠ gb103))) (fun _ hk => hk.2) (.int .i64 ((rd_T36 l0 x6_1).f0))) (fun _ hk => hk.2) (.int .i64 ((rd_T36 l0 x6_1).f1))) (fun _ hk => hk.2) (.int .i64 ((rd_T36 l0 x6_1).f2))) (fun _ hk => hk.2) (.int .i64 ((rd_T36 l0 x6_1).f3))) (fun _ hk => hk.2) (.slice A102_4 ((rd_T36 l0 x6_1).f4).length c102_4)) (fun _ hk => ⟨hk.1.1.1, ⟨hk.1.1.2, hk.1.2⟩⟩)))⟩; have n1_ : Aside0 (Kd.N k36 36 w22 w.heap.size (fun k_ => (P0_ k_ ∨ w.heap.size ≤ k_) ∧ k_ ≠ gb103) u5 x5_1) := ⟨(by rw [hw]; exact (by (with_reducible repeat (first | apply Kd.N_alloc | apply Kd.N_drewN | apply Kd.N_drew)); exact Kd.N_mono (Kd.N_far (p := ⟨gb103, 4, none⟩) (Kd.N_far (p := ⟨gb103, 3, none⟩) (Kd.N_far (p := ⟨gb103, 2, none⟩) (Kd.N_far (p := ⟨gb103, 1, none⟩) (Kd.N_far (p := ⟨gb103, 0, none⟩) (Kd.N_mono HO_5.out (fun k_ hk => (⟨hk, hk.2⟩ : _ ∧ k_ ≠ gb103))) (fun _ hk => hk.2) (.int .i64 ((rd_T36 l0 x6_1).f0))) (fun _ hk => hk.2) (.int .i64 ((rd_T36 l0 x6_1).f1))) (fun _ hk => hk.2) (.int .i64 ((rd_T36 l0 x6_1).f2))) (fun _ hk => hk.2) (.int .i64 ((rd_T36 l0 x6_1).f3))) (fun _ hk => hk.2) (.slice A102_4 ((rd_T36 l0 x6_1).f4).length c102_4)) (fun _ hk => ⟨hk.1.1, hk.1.2⟩)))⟩; have n2_ : Aside0 (Kd.V (Kd.int .i64) 3 w22 w.heap.size (fun k_ => (P0_ k_ ∨ w.heap.size ≤ k_) ∧ some k_ ≠ (u5 : Value).ownBlock ∧ k_ ≠ gb103) (.slice A102_4 ((rd_T36 l0 x6_1).f4).length c102_4) ((rd_T36 l0 x6_1).f4)) := ⟨(by rw [hw]; exact (by (with_reducible repeat (first | apply Kd.V_alloc | apply Kd.V_drewN | apply Kd.V_drew)); exact Kd.V_mono (Kd.V_far (p := ⟨gb103, 4, none⟩) (Kd.V_far (p := ⟨gb103, 3, none⟩) (Kd.V_far (p := ⟨gb103, 2, none⟩) (Kd.V_far (p := ⟨gb103, 1, none⟩) (Kd.V_far (p := ⟨gb103, 0, none⟩) (Kd.V_mono HL102_4.out (fun k_ hk => (⟨hk, hk.2⟩ : _ ∧ k_ ≠ gb103))) (fun _ hk => hk.2) (.int .i64 ((rd_T36 l0 x6_1).f0))) (fun _ hk => hk.2) (.int .i64 ((rd_T36 l0 x6_1).f1))) (fun _ hk => hk.2) (.int .i64 ((rd_T36 l0 x6_1).f2))) (fun _ hk => hk.2) (.int .i64 ((rd_T36 l0 x6_1).f3))) (fun _ hk => hk.2) (.slice A102_4 ((rd_T36 l0 x6_1).f4).length c102_4)) (fun _ hk => ⟨hk.1.1.1, ⟨hk.1.1.2, hk.1.2⟩⟩)))⟩; have n3_ : Aside0 (w22.heap[gb103]? = some (.cells #[.int .i64 ((rd_T36 l0 x6_1).f0), .int .i64 ((rd_T36 l0 x6_1).f1), .int .i64 ((rd_T36 l0 x6_1).f2), .int .i64 ((rd_T36 l0 x6_1).f3), .slice A102_4 ((rd_T36 l0 x6_1).f4).length c102_4] 36 (0, 0))) := ⟨(by rw [hw]; exact (by (with_reducible repeat (first | refine blk_drewN ?_ _ | refine blk_drew ?_ | refine blk_alloc ?_ _)); refine blk_put (cs := #[.int .i64 ((rd_T36 l0 x6_1).f0), .int .i64 ((rd_T36 l0 x6_1).f1), .int .i64 ((rd_T36 l0 x6_1).f2), .int .i64 ((rd_T36 l0 x6_1).f3), .slice none 0 0]) ?_ 4 _ rfl; (with_reducible repeat (first | refine blk_drewN ?_ _ | refine blk_drew ?_ | refine blk_alloc ?_ _)); refine blk_put (cs := #[.int .i64 ((rd_T36 l0 x6_1).f0), .int .i64 ((rd_T36 l0 x6_1).f1), .int .i64 ((rd_T36 l0 x6_1).f2), .int .i64 0, .slice none 0 0]) ?_ 3 _ rfl; (with_reducible repeat (first | refine blk_drewN ?_ _ | refine blk_drew ?_ | refine blk_alloc ?_ _)); refine blk_put (cs := #[.int .i64 ((rd_T36 l0 x6_1).f0), .int .i64 ((rd_T36 l0 x6_1).f1), .int .i64 0, .int .i64 0, .slice none 0 0]) ?_ 2 _ rfl; (with_reducible repeat (first | refine blk_drewN ?_ _ | refine blk_drew ?_ | refine blk_alloc ?_ _)); refine blk_put (cs := #[.int .i64 ((rd_T36 l0 x6_1).f0), .int .i64 0, .int .i64 0, .int .i64 0, .slice none 0 0]) ?_ 1 _ rfl; (with_reducible repeat (first | refine blk_drewN ?_ _ | refine blk_drew ?_ | refine blk_alloc ?_ _)); refine blk_put (cs := #[.int .i64 0, .int .i64 0, .int .i64 0, .int .i64 0, .slice none 0 0]) ?_ 0 _ rfl; (with_reducible repeat (first | refine blk_drewN ?_ _ | refine blk_drew ?_ | refine blk_alloc ?_ _)); exact BK103.out))⟩; have n4_ : Aside0 (Below w.heap.size w w22) := ⟨(by rw [hw]; exact (by repeat (first | (with_reducible first | exact HB.out | apply below_alloc | apply pw_below_drewN | apply below_drew1 | refine below_set ?_ GE103.out) | exact HB.out)))⟩; clear hw; clear HO_0; clear HO_5; clear HL102_4; clear BK103; clear HB; have HO_0 := n0_; have HO_5 := n1_; have HL102_4 := n2_; have BK103 := n3_; have HB := n4_; clear n0_ n1_ n2_ n3_ n4_; have hcz23_0 : w22.cell? ⟨gb103, 0, none⟩ = some (.int .i64 ((rd_T36 l0 x6_1).f0)) := (blk_cell BK103.out 0).trans rfl; have hcz23_1 : w22.cell? ⟨gb103, 1, none⟩ = some (.int .i64 ((rd_T36 l0 x6_1).f1)) := (blk_cell BK103.out 1).trans rfl; have hcz23_2 : w22.cell? ⟨gb103, 2, none⟩ = some (.int .i64 ((rd_T36 l0 x6_1).f2)) := (blk_cell BK103.out 2).trans rfl; have hcz23_3 : w22.cell? ⟨gb103, 3, none⟩ = some (.int .i64 ((rd_T36 l0 x6_1).f3)) := (blk_cell BK103.out 3).trans rfl; have hcz23_4 : w22.cell? ⟨gb103, 4, none⟩ = some (.slice A102_4 ((rd_T36 l0 x6_1).f4).length c102_4) := (blk_cell BK103.out 4).trans rfl; have hfz23_0 := blk_frozen BK103.out 0; have hfz23_1 := blk_frozen BK103.out 1; have hfz23_2 := blk_frozen BK103.out 2; have hfz23_3 := blk_frozen BK103.out 3; have hfz23_4 := blk_frozen BK103.out 4) | ((with_reducible refine gate_builtin (b := .append) (xs := #[.tmp 31, .tmp 33]) rfl ?_); at_builtin; refine Kd.N_append k36 (w0 := w) w.heap.size rfl (.tmp 31) (.tmp 33) 23 36 (.agg #[(.int .i64 0), (.int .i64 0), (.int .i64 0), (.int .i64 0), (.slice none 0 0)]) 56 rfl Try.underlying23 info36 rfl (by decide) (by omega) u5 x5_1 (⟨(rd_T36 l0 x6_1).f0, (rd_T36 l0 x6_1).f1, (rd_T36 l0 x6_1).f2, (rd_T36 l0 x6_1).f3, (rd_T36 l0 x6_1).f4⟩ : S36) [.int .i64 ((rd_T36 l0 x6_1).f0), .int .i64 ((rd_T36 l0 x6_1).f1), .int .i64 ((rd_T36 l0 x6_1).f2), .int .i64 ((rd_T36 l0 x6_1).f3), .slice A102_4 ((rd_T36 l0 x6_1).f4).length c102_4] (fun k_ => (P0_ k_ ∨ w.heap.size ≤ k_) ∧ k_ ≠ gb103) (fun k_ => ((fun k_ => (P0_ k_ ∨ w.heap.size ≤ k_) ∧ k_ ≠ gb103)) k_ ∧ some k_ ≠ (u5 : Value).ownBlock) rfl rfl ?aP (fun _ hk => hk) ?aF ?aO ?aB ?aS ?aL ?_; (case aP => exact (k36_mkF _ _ (⟨(rd_T36 l0 x6_1).f0, (rd_T36 l0 x6_1).f1, (rd_T36 l0 x6_1).f2, (rd_T36 l0 x6_1).f3, (rd_T36 l0 x6_1).f4⟩ : S36) (Kd.V_reads' (Kd.V_mono (ok' := (fun k_ => ((fun k_ => (P0_ k_ ∨ w.heap.size ≤ k_) ∧ k_ ≠ gb103)) k_ ∧ some k_ ≠ (u5 : Value).ownBlock)) (HL102_4.out) (fun k_ hk => ⟨⟨hk.1, hk.2.2⟩, hk.2.1⟩))).2.1 (Kd.V_F (Kd.V_mono (ok' := (fun k_ => ((fun k_ => (P0_ k_ ∨ w.heap.size ≤ k_) ∧ k_ ≠ gb103)) k_ ∧ some k_ ≠ (u5 : Value).ownBlock)) (HL102_4.out) (fun k_ hk => ⟨⟨hk.1, hk.2.2⟩, hk.2.1⟩))))); (case aB => exact (by repeat (first | (with_reducible first | exact HB.out | apply below_alloc | apply pw_below_drewN | apply below_drew1 | refine below_set ?_ GE103.out) | exact HB.out))); (case aF => exact (fun k_ hk => ⟨(.inr (Nat.le_trans (below_size (by repeat (first | (with_reducible first | exact HB.out | apply below_alloc | apply pw_below_drewN | apply below_drew1 | refine below_set ?_ GE103.out) | exact HB.out))) hk)), Kd.freshB (g := gb103) (o := .cells #[.int .i64 ((rd_T36 l0 x6_1).f0), .int .i64 ((rd_T36 l0 x6_1).f1), .int .i64 ((rd_T36 l0 x6_1).f2), .int .i64 ((rd_T36 l0 x6_1).f3), .slice A102_4 ((rd_T36 l0 x6_1).f4).length c102_4] 36 (0, 0)) (by (with_reducible repeat (first | refine blk_drewN ?_ _ | refine blk_drew ?_ | refine blk_alloc ?_ _)); exact BK103.out) k_ hk⟩)); (case aO => exact (by (with_reducible repeat (first | apply Kd.N_alloc | apply Kd.N_drewN | apply Kd.N_drew)); exact HO_5.out)); (case aS => exact (below_size (by repeat (first | (with_reducible first | exact HB.out | apply below_alloc | apply pw_below_drewN | apply below_drew1 | refine below_set ?_ GE103.out) | exact HB.out)))); (case aL => have := LMc19.out; omega); intro v113 w24 ho hb hg hat; rw [← Ny112.out] at ho; have n0_ := Aside0.mk (Kd.V_afterv (ok := (fun k_ => (P0_ k_ ∨ w.heap.size ≤ k_) ∧ k_ ≠ gb103)) (by (with_reducible repeat (first | apply Kd.V_alloc | apply Kd.V_drewN | apply Kd.V_drew)); exact Kd.V_mono HO_0.out (fun _ hk => ⟨⟨hk.1, hk.2.2⟩, hk.2.1⟩)) hg hat); have n1_ := Aside0.mk (Kd.V_afterv (ok := (fun k_ => (P0_ k_ ∨ w.heap.size ≤ k_) ∧ k_ ≠ gb103)) (by (with_reducible repeat (first | apply Kd.V_alloc | apply Kd.V_drewN | apply Kd.V_drew)); exact Kd.V_mono HL102_4.out (fun _ hk => ⟨⟨hk.1, hk.2.2⟩, hk.2.1⟩)) hg hat); have n2_ := Aside0.mk (blk_grown (g := gb103) (o := .cells #[.int .i64 ((rd_T36 l0 x6_1).f0), .int .i64 ((rd_T36 l0 x6_1).f1), .int .i64 ((rd_T36 l0 x6_1).f2), .int .i64 ((rd_T36 l0 x6_1).f3), .slice A102_4 ((rd_T36 l0 x6_1).f4).length c102_4] 36 (0, 0)) (by (with_reducible repeat (first | refine blk_drewN ?_ _ | refine blk_drew ?_ | refine blk_alloc ?_ _)); exact BK103.out) hg (Kd.N_away HO_5.out (fun _ hk => hk.2))); have n3_ := Aside0.mk (hb); have n4_ := Aside0.mk (ho); clear HO_0; clear HL102_4; clear BK103; clear HB; clear HO_5; have HO_0 := n0_; have HL102_4 := n1_; have BK103 := n2_; have HB := n3_; have HO114 := n4_; clear n0_ n1_ n2_ n3_ n4_; clear ho hb hg hat))
                    go_roundg kj2
                    case measure => have := HK1.out; have := HJ2.out; omega
                    case rel => exact ⟨(y112), (wrap64 (x6_1 + 1)), (by first | rfl | (simp; done) | (simp [*]; done)), H', ⟨by have := HK1.out; have := HJ2.out; omega⟩, ⟨by (with_reducible repeat (first | apply Kd.V_alloc | apply Kd.V_drewN | apply Kd.V_drew)); exact Kd.V_mono HO_0.out (fun _ hk => ⟨hk.1.1, hk.2⟩)⟩, ⟨by (with_reducible repeat (first | apply Kd.N_alloc | apply Kd.N_drewN | apply Kd.N_drew)); exact Kd.N_mono HO114.out (fun _ hk => hk.1)⟩, ⟨by repeat (first | (with_reducible first | exact HB.out | apply below_alloc | apply pw_below_drewN | apply below_drew1 | refine below_set ?_ GE103.out) | exact HB.out)⟩⟩
                  · rw [if_neg c19] at H
                    exact absurd H (by simp)
              · rw [if_neg c7] at H
                exact absurd H (by simp)
            · rw [if_neg c6] at H
              exact absurd H (by simp)
          · replace c5 := Bool.eq_false_iff.mpr c5
            subst c5
            have H1 : (some x5_1) = some r := by rw [if_neg (show ¬ (false = true) by decide)] at H; exact H
            clear H
            have H := H1
            clear H1
            obtain rfl := Option.some.inj H
            go_wp2
            go_ret
            exact ⟨_, by first | rfl | (simp [errW_none, errW_some] <;> rfl) | (simp [*, errW_none, errW_some] <;> rfl), by (with_reducible repeat (first | apply Kd.N_alloc | apply Kd.N_drewN | apply Kd.N_drew)); exact HO_5.out, by repeat (first | (with_reducible first | exact HB.out | apply below_alloc | apply pw_below_drewN | apply below_drew1) | exact HB.out)⟩

/-! ### cadencyref04_rest: function 23 -/
def cadencyref04_rest.f (a0 : Int) (a1 : Int) : Option (Int) := if a1 = 0 then (none) else (some (Int.tmod (wrap64 ((Int.tmod a0 a1) + a1)) a1))
set_option maxHeartbeats 8000000 in
set_option maxRecDepth 100000 in
theorem cadencyref04_rest.calls (a0 : Int) (a1 : Int) (r : Int) (w : World) (h : cadencyref04_rest.f a0 a1 = some r) :
    Calls Try.prog 23 #[.int .i64 a0, .int .i64 a1] w fun e w' => e = .returned (.int .i64 r) ∧ Drawn0 w w' := by
  have H : (if a1 = 0 then (none) else (some (Int.tmod (wrap64 ((Int.tmod a0 a1) + a1)) a1))) = some r := h
  clear h
  by_cases c3 : a1 = 0
  · rw [if_pos c3] at H
    exact absurd H (by simp)
  · rw [if_neg c3] at H
    have c3b0 : (a1 == 0) = false := beq_eq_false_iff_ne.mpr c3
    have c3b1 : (a1 != 0) = true := bne_iff_ne.mpr c3
    obtain rfl := Option.some.inj H
    go_enter Try.func23, Try.ntmps23
    go_wp2
    go_ret
    exact ⟨by first | rfl | (simp; done) | (simp [*]; done), by repeat (first | exact Drawn0.refl _ | apply Drawn0.step)⟩

/-! ### cadencyref04_turns: function 24 -/
def cadencyref04_turns.f (a0 : Int) (a1 : Int) : Option (Int) := if a0 > 2 then (if a0 = 0 then (none) else ((cadencyref04_rest.f (wrap64 (Int.tdiv a1 a0)) 2).bind fun t115 => (if t115 = 1 then (some (wrap64 (a0 - 1))) else (some 1)))) else (some 1)
set_option maxHeartbeats 8000000 in
set_option maxRecDepth 100000 in
theorem cadencyref04_turns.calls (a0 : Int) (a1 : Int) (r : Int) (w : World) (h : cadencyref04_turns.f a0 a1 = some r) :
    Calls Try.prog 24 #[.int .i64 a0, .int .i64 a1] w fun e w' => e = .returned (.int .i64 r) ∧ Drawn0 w w' := by
  have H : (if a0 > 2 then (if a0 = 0 then (none) else ((cadencyref04_rest.f (wrap64 (Int.tdiv a1 a0)) 2).bind fun t115 => (if t115 = 1 then (some (wrap64 (a0 - 1))) else (some 1)))) else (some 1)) = some r := h
  clear h
  by_cases c3 : a0 > 2
  · rw [if_pos c3] at H
    have c3b0 : decide (2 < a0) = true := decide_eq_true c3
    clear c3
    by_cases c4 : a0 = 0
    · rw [if_pos c4] at H
      exact absurd H (by simp)
    · rw [if_neg c4] at H
      have c4b0 : (a0 == 0) = false := beq_eq_false_iff_ne.mpr c4
      have c4b1 : (a0 != 0) = true := bne_iff_ne.mpr c4
      replace H := Option.bind_eq_some_iff.mp H
      obtain ⟨t115, A50, H⟩ := H
      replace H : (if t115 = 1 then (some (wrap64 (a0 - 1))) else (some 1)) = some r := H
      have A5 := Aside0.mk A50
      clear A50
      by_cases c6 : t115 = 1
      · rw [if_pos c6] at H
        have c6b0 : (t115 == 1) = true := beq_iff_eq.mpr c6
        have c6b1 : (t115 != 1) = false := bne_eq_false_iff_eq.mpr c6
        clear c6
        obtain rfl := Option.some.inj H
        go_enter Try.func24, Try.ntmps24
        go_wp2_with (first | (go_at_call 23; (with_reducible refine (cadencyref04_rest.calls (wrap64 (Int.tdiv a1 a0)) 2 t115 _ A5.out).mono ?_); rintro e w' ⟨rfl, ⟨nd, rfl⟩⟩))
        go_ret
        exact ⟨by first | rfl | (simp; done) | (simp [*]; done), by repeat (first | exact Drawn0.refl _ | apply Drawn0.step)⟩
      · rw [if_neg c6] at H
        have c6b0 : (t115 == 1) = false := beq_eq_false_iff_ne.mpr c6
        have c6b1 : (t115 != 1) = true := bne_iff_ne.mpr c6
        obtain rfl := Option.some.inj H
        go_enter Try.func24, Try.ntmps24
        go_wp2_with (first | (go_at_call 23; (with_reducible refine (cadencyref04_rest.calls (wrap64 (Int.tdiv a1 a0)) 2 t115 _ A5.out).mono ?_); rintro e w' ⟨rfl, ⟨nd, rfl⟩⟩))
        go_ret
        exact ⟨by first | rfl | (simp; done) | (simp [*]; done), by repeat (first | exact Drawn0.refl _ | apply Drawn0.step)⟩
  · rw [if_neg c3] at H
    have c3b0 : decide (2 < a0) = false := decide_eq_false c3
    clear c3
    obtain rfl := Option.some.inj H
    go_enter Try.func24, Try.ntmps24
    go_wp2
    go_ret
    exact ⟨by first | rfl | (simp; done) | (simp [*]; done), by repeat (first | exact Drawn0.refl _ | apply Drawn0.step)⟩

/-! ### cadencyref04_SetT: function 12 -/
mutual
def cadencyref04_SetT.l0 : Nat → List (S52) → Int → Int → List (S46) → Int → Option ((List (S46)))
  | 0, _, _, _, _, _ => none
  | k + 1, x0, x1, x2, x7, x8 => if x8 < (x0.length : Int) then (cadencyref04_SetT.j1 k x0 x1 x2 x7 x8 (decide (x8 < x1))) else (cadencyref04_SetT.j1 k x0 x1 x2 x7 x8 false)
def cadencyref04_SetT.j1 : Nat → List (S52) → Int → Int → List (S46) → Int → Bool → Option ((List (S46)))
  | 0, _, _, _, _, _, _ => none
  | k + 1, x0, x1, x2, x7, x8, x30 => if x30 = true then (if 0 ≤ x8 then (if x8 < (x0.length : Int) then ((cadencyref04_rest.f ((rd_T52 x0 x8).f0) 4).bind fun t120 => ((cadencyref04_rest.f ((rd_T52 x0 x8).f1) 11).bind fun t122 => ((cadencyref04_rest.f ((rd_T52 x0 x8).f2) (wrap64 ((wrap64 ((wrap64 ((wrap64 (1 + t120)) + t122)) - (wrap64 (1 + t120)))) + 1))).bind fun t124 => ((cadencyref04_rest.f ((rd_T52 x0 x8).f4) 7).bind fun t126 => ((cadencyref04_rest.f ((rd_T52 x0 x8).f3) (wrap64 (1 + t120))).bind fun t128 => ((some (([(wrap64 (97 + x8)) % 256] : List Int) : List Int)).bind fun y129 => (if 1 + (strOfNums y129).size ≤ 9223372036854775807 then (if x7.length < 2199023255552 then (cadencyref04_SetT.l0 k x0 x1 x2 (x7 ++ [(⟨(⟨#[116]⟩ : ByteArray) ++ (strOfNums y129), wrap64 (1 + t120), wrap64 ((wrap64 ((wrap64 (1 + t120)) + t122)) + t126), wrap64 ((wrap64 (1 + t120)) + t122), t124, wrap64 (1 + t128), 0⟩ : S46)]) (wrap64 (x8 + 1))) else (none)) else (none)))))))) else (none)) else (none)) else (cadencyref04_SetT.l1 k x2 x7 (x7.length : Int) 0)
def cadencyref04_SetT.l1 : Nat → Int → List (S46) → Int → Int → Option ((List (S46)))
  | 0, _, _, _, _ => none
  | k + 1, x2, x7, x14, x15 => if x15 < x14 then ((cadencyref04_turns.f x14 x2).bind fun t135 => ((cadencyref04_rest.f x2 x14).bind fun t136 => (if x14 = 0 then (none) else (if 0 ≤ x15 then (if x15 < (x7.length : Int) then (cadencyref04_SetT.l1 k x2 (x7.set (x15 : Int).toNat (⟨(rd_T46 x7 x15).f0, (rd_T46 x7 x15).f1, (rd_T46 x7 x15).f2, (rd_T46 x7 x15).f3, (rd_T46 x7 x15).f4, (rd_T46 x7 x15).f5, wrap64 (1 + (Int.tmod (wrap64 ((wrap64 (x15 * t135)) + t136)) x14))⟩ : S46)) x14 (wrap64 (x15 + 1))) else (none)) else (none))))) else (some x7)
end
def cadencyref04_SetT.f (k : Nat) (l0 : List (S52)) (a1 : Int) (a2 : Int) : Option ((List (S46))) := if (l0.length : Int) = 0 then (cadencyref04_SetT.l0 k (([(⟨a2, 0, 0, 0, 0⟩ : S52)] : List (S52))) a1 a2 ([] : List (S46)) 0) else (none)
theorem cadencyref04_SetT.mono_l : ∀ k, (∀ y0 y1 y2 y3 y4, LeO (cadencyref04_SetT.l0 k y0 y1 y2 y3 y4) (cadencyref04_SetT.l0 (k + 1) y0 y1 y2 y3 y4)) ∧ (∀ y0 y1 y2 y3 y4 y5, LeO (cadencyref04_SetT.j1 k y0 y1 y2 y3 y4 y5) (cadencyref04_SetT.j1 (k + 1) y0 y1 y2 y3 y4 y5)) ∧ (∀ y0 y1 y2 y3, LeO (cadencyref04_SetT.l1 k y0 y1 y2 y3) (cadencyref04_SetT.l1 (k + 1) y0 y1 y2 y3))
  | 0 => ⟨fun _ _ _ _ _ r h => by simp [cadencyref04_SetT.l0] at h, fun _ _ _ _ _ _ r h => by simp [cadencyref04_SetT.j1] at h, fun _ _ _ _ r h => by simp [cadencyref04_SetT.l1] at h⟩
  | k + 1 => by
    obtain ⟨ih0, ih1, ih2⟩ := cadencyref04_SetT.mono_l k
    refine ⟨?_, ?_, ?_⟩
    · intro y0 y1 y2 y3 y4
      unfold cadencyref04_SetT.l0
      repeat' first
      | (with_reducible exact ih0 _ _ _ _ _)
      | (with_reducible exact ih1 _ _ _ _ _ _)
      | (with_reducible exact ih2 _ _ _ _)
      | (with_reducible exact LeO.refl _)
      | (with_reducible exact LeO.none _)
      | (with_reducible refine LeO.ite ?_ ?_)
      | (with_reducible refine LeO.bind ?_ (fun _ => ?_))
      | exact ih0 _ _ _ _ _
      | exact ih1 _ _ _ _ _ _
      | exact ih2 _ _ _ _
      | exact LeO.none _
      | refine LeO.ite ?_ ?_
      | refine LeO.bind ?_ (fun _ => ?_)
    · intro y0 y1 y2 y3 y4 y5
      unfold cadencyref04_SetT.j1
      repeat' first
      | (with_reducible exact ih0 _ _ _ _ _)
      | (with_reducible exact ih1 _ _ _ _ _ _)
      | (with_reducible exact ih2 _ _ _ _)
      | (with_reducible exact LeO.refl _)
      | (with_reducible exact LeO.none _)
      | (with_reducible refine LeO.ite ?_ ?_)
      | (with_reducible refine LeO.bind ?_ (fun _ => ?_))
      | exact ih0 _ _ _ _ _
      | exact ih1 _ _ _ _ _ _
      | exact ih2 _ _ _ _
      | exact LeO.none _
      | refine LeO.ite ?_ ?_
      | refine LeO.bind ?_ (fun _ => ?_)
    · intro y0 y1 y2 y3
      unfold cadencyref04_SetT.l1
      repeat' first
      | (with_reducible exact ih0 _ _ _ _ _)
      | (with_reducible exact ih1 _ _ _ _ _ _)
      | (with_reducible exact ih2 _ _ _ _)
      | (with_reducible exact LeO.refl _)
      | (with_reducible exact LeO.none _)
      | (with_reducible refine LeO.ite ?_ ?_)
      | (with_reducible refine LeO.bind ?_ (fun _ => ?_))
      | exact ih0 _ _ _ _ _
      | exact ih1 _ _ _ _ _ _
      | exact ih2 _ _ _ _
      | exact LeO.none _
      | refine LeO.ite ?_ ?_
      | refine LeO.bind ?_ (fun _ => ?_)
theorem cadencyref04_SetT.mono : ∀ a0 a1 a2 k, LeO (cadencyref04_SetT.f k a0 a1 a2) (cadencyref04_SetT.f (k + 1) a0 a1 a2) := by
  intro a0 a1 a2 k
  obtain ⟨ih0, ih1, ih2⟩ := cadencyref04_SetT.mono_l k
  unfold cadencyref04_SetT.f
  repeat' first
      | (with_reducible exact ih0 _ _ _ _ _)
      | (with_reducible exact ih1 _ _ _ _ _ _)
      | (with_reducible exact ih2 _ _ _ _)
      | (with_reducible exact LeO.refl _)
      | (with_reducible exact LeO.none _)
      | (with_reducible refine LeO.ite ?_ ?_)
      | (with_reducible refine LeO.bind ?_ (fun _ => ?_))
      | exact ih0 _ _ _ _ _
      | exact ih1 _ _ _ _ _ _
      | exact ih2 _ _ _ _
      | exact LeO.none _
      | refine LeO.ite ?_ ?_
      | refine LeO.bind ?_ (fun _ => ?_)
set_option maxHeartbeats 8000000 in
set_option maxRecDepth 100000 in
theorem cadencyref04_SetT.calls (k : Nat) (A0 : Option Addr) (c0 : Nat) (l0 : List (S52)) (a1 : Int) (a2 : Int) (r : List (S46)) (w : World) (hr0 : Kd.C k52 w A0 l0.length l0) (hc0 : l0.length ≤ c0) (h : cadencyref04_SetT.f k l0 a1 a2 = some r) :
    Calls Try.prog 12 #[.slice A0 l0.length c0, .int .i64 a1, .int .i64 a2] w fun e w' => ∃ v0_ : Value, e = .returned (v0_) ∧ Kd.R k46 46 w' w.heap.size (fun _ => True) v0_ r ∧ Below w.heap.size w w' := by
  have hu52 := Try.underlying52
  have hu46 := Try.underlying46
  have HR0 := Aside0.mk hr0
  have HC0 := Aside0.mk hc0
  clear hr0 hc0
  have HB := Aside0.mk (Below.refl w.heap.size w)
  have H : (if (l0.length : Int) = 0 then (cadencyref04_SetT.l0 k (([(⟨a2, 0, 0, 0, 0⟩ : S52)] : List (S52))) a1 a2 ([] : List (S46)) 0) else (none)) = some r := h
  clear h
  by_cases c4 : (l0.length : Int) = 0
  · rw [if_pos c4] at H
    have c4b0 : ((l0.length : Int) == 0) = true := beq_iff_eq.mpr c4
    have c4b1 : ((l0.length : Int) != 0) = false := bne_eq_false_iff_eq.mpr c4
    clear c4
    obtain ⟨y116, hy116⟩ : ∃ y_ : List (S52), y_ = (([(⟨a2, 0, 0, 0, 0⟩ : S52)] : List (S52))) := ⟨_, rfl⟩
    replace H : (cadencyref04_SetT.l0 k y116 a1 a2 ([] : List (S46)) 0) = some r := by first | (rw [hy116]; with_reducible exact H) | (have H2_ := (Option.bind_some _ _).symm.trans H; rw [hy116]; with_reducible exact H2_) | (have H2_ := (Option.bind_some _ _).symm.trans H; with_reducible exact H2_) | with_reducible exact H | (rw [hy116]; exact H) | exact H
    have Ny116 := Aside0.mk hy116
    clear hy116
    have H' := Aside0.mk H
    clear H
    go_enter Try.func12, Try.ntmps12
    go_wp2_with (first | ((with_reducible refine gate_dst (N := 21) rfl ?_); refine Kd.R_lit k52 _ 52 ?hg (N := 21) ?hd (xs := ([(⟨a2, 0, 0, 0, 0⟩ : S52)] : List (S52))) (inner := [.int .i64 a2, .int .i64 0, .int .i64 0, .int .i64 0, .int .i64 0]) (ok := fun _ => True) (okp := fun _ => True) ?hr ?hp (fun _ hk => hk) trivial (Below.refl _ _) (Nat.le_refl _) (by simp) ?_; (case hd => rfl); (case hg => rfl); (case hr => first | (go_simp; done) | (go_simp; rfl)); (case hp => exact (Reps.c5 (show Kd.M k52 _ _ _ (⟨a2, 0, 0, 0, 0⟩ : S52) [.int .i64 a2, .int .i64 0, .int .i64 0, .int .i64 0, .int .i64 0] from (k52_mkM _ _ _ (⟨a2, 0, 0, 0, 0⟩ : S52) )) (Reps.none _ _))); intro v117 w5 ho6 hb hg_ hnew_; clear hg_ hnew_; (first | rw [← Ny116.out] at ho6 | (simp only [Int.reduceToNat] at ho6; rw [← Ny116.out] at ho6)); have n0_ := Aside0.mk (Kd.R_lower ho6 (below_size (by repeat (first | (with_reducible first | exact HB.out | apply below_alloc | apply pw_below_drewN | apply below_drew1) | exact HB.out)))); have n1_ := Aside0.mk (below_step (by repeat (first | (with_reducible first | exact HB.out | apply below_alloc | apply pw_below_drewN | apply below_drew1) | exact HB.out)) hb); clear HB; have HO118 := n0_; have HB := n1_; clear n0_ n1_; clear hb ho6))
    go_loopg [7, 8] k (fun kq v7 v8 w' => ∃ (x7_1 : List (S46)) (x8_1 : Int), v8 = .int .i64 x8_1 ∧ Aside0 (cadencyref04_SetT.l0 kq y116 a1 a2 x7_1 x8_1 = some r) ∧ Aside0 (kq ≤ k) ∧ Aside0 (Kd.R k52 52 w' w.heap.size (fun _ => True) v117 y116) ∧ Aside0 (Kd.R k46 46 w' w.heap.size (fun _ => True) v7 x7_1) ∧ Aside0 (Below w.heap.size w w'))
    case atStart => exact ⟨(([] : List (S46))), (0), (by first | rfl | (simp; done) | (simp [*]; done)), H', ⟨Nat.le_refl _⟩, ⟨by (with_reducible repeat (first | apply Kd.R_alloc | apply Kd.R_drewN | apply Kd.R_drew)); exact HO118.out⟩, ⟨by first | exact Kd.R_nil _ _ _ _ _ | exact Kd.N_nil _ _ _ _ _ | exact Kd.V_nil _ _ _ _ _ | exact Kd.Q_nil _ _ _ _ _ | exact Kd.S_nil _ _ _ _ _⟩, ⟨by repeat (first | (with_reducible first | exact HB.out | apply below_alloc | apply pw_below_drewN | apply below_drew1) | exact HB.out)⟩⟩
    case round =>
      clear H'
      try clear c1
      try clear p2
      try clear c4
      try clear c4b0
      try clear c4b1
      try clear c5
      obtain ⟨x7_1, x8_1, rfl, HA, HK1, HO_0, HO_7, HB⟩ := hrel
      cases gk with
      | zero => exact absurd HA.out (by simp [cadencyref04_SetT.l0])
      | succ k1 =>
        have H := HA.out
        clear HA
        simp only [cadencyref04_SetT.l0] at H
        have HC7 := Aside0.mk H
        clear H
        go_upto_region 5 with (fail)
        go_cut [30] (fun v30 wc => ∃ (kq : Nat) (x30_6 : Bool), v30 = .bool x30_6 ∧ Aside0 (cadencyref04_SetT.j1 kq y116 a1 a2 x7_1 x8_1 x30_6 = some r) ∧ Aside0 (kq ≤ k1) ∧ Aside0 (Kd.R k52 52 wc w.heap.size (fun _ => True) v117 y116) ∧ Aside0 (Kd.R k46 46 wc w.heap.size (fun _ => True) u7 x7_1) ∧ Aside0 (Below w.heap.size w wc))
        case first =>
          have H := HC7.out
          clear HC7
          by_cases c8 : x8_1 < (y116.length : Int)
          · rw [if_pos c8] at H
            have c8b0 : decide (x8_1 < (y116.length : Int)) = true := decide_eq_true c8
            clear c8
            (first | rw [c8b0] | (simp only [i64_w, i32_w]; rw [c8b0]) | skip)
            have H' := Aside0.mk H
            clear H
            obtain ⟨Ao9, co9, eo9⟩ := Kd.R_slice HO_0.out
            subst eo9
            go_wp2
            go_meet
            case rel => exact ⟨_, (decide (x8_1 < a1)), (by first | rfl | (simp; done) | (simp [*]; done)), H', ⟨by have := HK1.out; first | omega | exact Nat.le_refl _⟩, ⟨by (with_reducible repeat (first | apply Kd.R_alloc | apply Kd.R_drewN | apply Kd.R_drew)); exact HO_0.out⟩, ⟨by (with_reducible repeat (first | apply Kd.R_alloc | apply Kd.R_drewN | apply Kd.R_drew)); exact HO_7.out⟩, ⟨by repeat (first | (with_reducible first | exact HB.out | apply below_alloc | apply pw_below_drewN | apply below_drew1) | exact HB.out)⟩⟩
          · rw [if_neg c8] at H
            have c8b0 : decide (x8_1 < (y116.length : Int)) = false := decide_eq_false c8
            clear c8
            (first | rw [c8b0] | (simp only [i64_w, i32_w]; rw [c8b0]) | skip)
            have H' := Aside0.mk H
            clear H
            obtain ⟨Ao10, co10, eo10⟩ := Kd.R_slice HO_0.out
            subst eo10
            go_wp2
            go_meet
            case rel => exact ⟨_, (false), (by first | rfl | (simp; done) | (simp [*]; done)), H', ⟨by have := HK1.out; first | omega | exact Nat.le_refl _⟩, ⟨by (with_reducible repeat (first | apply Kd.R_alloc | apply Kd.R_drewN | apply Kd.R_drew)); exact HO_0.out⟩, ⟨by (with_reducible repeat (first | apply Kd.R_alloc | apply Kd.R_drewN | apply Kd.R_drew)); exact HO_7.out⟩, ⟨by repeat (first | (with_reducible first | exact HB.out | apply below_alloc | apply pw_below_drewN | apply below_drew1) | exact HB.out)⟩⟩
        case rest =>
          clear HC7
          try clear c1
          try clear p2
          try clear c4
          try clear c4b0
          try clear c4b1
          try clear c5
          try clear c8
          try clear c8b0
          try clear p2
          obtain ⟨kq, x30_6, rfl, HA, HJ6, HO_0, HO_7, HB⟩ := hcut
          cases kq with
          | zero => exact absurd HA.out (by simp [cadencyref04_SetT.j1])
          | succ kj6 =>
            have H := HA.out
            clear HA
            simp only [cadencyref04_SetT.j1] at H
            by_cases c11 : x30_6 = true
            · subst c11
              have H1 : (if 0 ≤ x8_1 then (if x8_1 < (y116.length : Int) then ((cadencyref04_rest.f ((rd_T52 y116 x8_1).f0) 4).bind fun t120 => ((cadencyref04_rest.f ((rd_T52 y116 x8_1).f1) 11).bind fun t122 => ((cadencyref04_rest.f ((rd_T52 y116 x8_1).f2) (wrap64 ((wrap64 ((wrap64 ((wrap64 (1 + t120)) + t122)) - (wrap64 (1 + t120)))) + 1))).bind fun t124 => ((cadencyref04_rest.f ((rd_T52 y116 x8_1).f4) 7).bind fun t126 => ((cadencyref04_rest.f ((rd_T52 y116 x8_1).f3) (wrap64 (1 + t120))).bind fun t128 => ((some (([(wrap64 (97 + x8_1)) % 256] : List Int) : List Int)).bind fun y129 => (if 1 + (strOfNums y129).size ≤ 9223372036854775807 then (if x7_1.length < 2199023255552 then (cadencyref04_SetT.l0 kj6 y116 a1 a2 (x7_1 ++ [(⟨(⟨#[116]⟩ : ByteArray) ++ (strOfNums y129), wrap64 (1 + t120), wrap64 ((wrap64 ((wrap64 (1 + t120)) + t122)) + t126), wrap64 ((wrap64 (1 + t120)) + t122), t124, wrap64 (1 + t128), 0⟩ : S46)]) (wrap64 (x8_1 + 1))) else (none)) else (none)))))))) else (none)) else (none)) = some r := by rw [if_pos rfl] at H; exact H
              clear H
              have H := H1
              clear H1
              by_cases c12 : 0 ≤ x8_1
              · rw [if_pos c12] at H
                have c12b0 : decide (0 ≤ x8_1) = true := decide_eq_true c12
                clear c12
                by_cases c13 : x8_1 < (y116.length : Int)
                · rw [if_pos c13] at H
                  have c13b0 : decide (x8_1 < (y116.length : Int)) = true := decide_eq_true c13
                  clear c13
                  replace H := Option.bind_eq_some_iff.mp H
                  obtain ⟨t120, A140, H⟩ := H
                  replace H : ((cadencyref04_rest.f ((rd_T52 y116 x8_1).f1) 11).bind fun t122 => ((cadencyref04_rest.f ((rd_T52 y116 x8_1).f2) (wrap64 ((wrap64 ((wrap64 ((wrap64 (1 + t120)) + t122)) - (wrap64 (1 + t120)))) + 1))).bind fun t124 => ((cadencyref04_rest.f ((rd_T52 y116 x8_1).f4) 7).bind fun t126 => ((cadencyref04_rest.f ((rd_T52 y116 x8_1).f3) (wrap64 (1 + t120))).bind fun t128 => ((some (([(wrap64 (97 + x8_1)) % 256] : List Int) : List Int)).bind fun y129 => (if 1 + (strOfNums y129).size ≤ 9223372036854775807 then (if x7_1.length < 2199023255552 then (cadencyref04_SetT.l0 kj6 y116 a1 a2 (x7_1 ++ [(⟨(⟨#[116]⟩ : ByteArray) ++ (strOfNums y129), wrap64 (1 + t120), wrap64 ((wrap64 ((wrap64 (1 + t120)) + t122)) + t126), wrap64 ((wrap64 (1 + t120)) + t122), t124, wrap64 (1 + t128), 0⟩ : S46)]) (wrap64 (x8_1 + 1))) else (none)) else (none))))))) = some r := H
                  have A14 := Aside0.mk A140
                  clear A140
                  replace H := Option.bind_eq_some_iff.mp H
                  obtain ⟨t122, A150, H⟩ := H
                  replace H : ((cadencyref04_rest.f ((rd_T52 y116 x8_1).f2) (wrap64 ((wrap64 ((wrap64 ((wrap64 (1 + t120)) + t122)) - (wrap64 (1 + t120)))) + 1))).bind fun t124 => ((cadencyref04_rest.f ((rd_T52 y116 x8_1).f4) 7).bind fun t126 => ((cadencyref04_rest.f ((rd_T52 y116 x8_1).f3) (wrap64 (1 + t120))).bind fun t128 => ((some (([(wrap64 (97 + x8_1)) % 256] : List Int) : List Int)).bind fun y129 => (if 1 + (strOfNums y129).size ≤ 9223372036854775807 then (if x7_1.length < 2199023255552 then (cadencyref04_SetT.l0 kj6 y116 a1 a2 (x7_1 ++ [(⟨(⟨#[116]⟩ : ByteArray) ++ (strOfNums y129), wrap64 (1 + t120), wrap64 ((wrap64 ((wrap64 (1 + t120)) + t122)) + t126), wrap64 ((wrap64 (1 + t120)) + t122), t124, wrap64 (1 + t128), 0⟩ : S46)]) (wrap64 (x8_1 + 1))) else (none)) else (none)))))) = some r := H
                  have A15 := Aside0.mk A150
                  clear A150
                  replace H := Option.bind_eq_some_iff.mp H
                  obtain ⟨t124, A160, H⟩ := H
                  replace H : ((cadencyref04_rest.f ((rd_T52 y116 x8_1).f4) 7).bind fun t126 => ((cadencyref04_rest.f ((rd_T52 y116 x8_1).f3) (wrap64 (1 + t120))).bind fun t128 => ((some (([(wrap64 (97 + x8_1)) % 256] : List Int) : List Int)).bind fun y129 => (if 1 + (strOfNums y129).size ≤ 9223372036854775807 then (if x7_1.length < 2199023255552 then (cadencyref04_SetT.l0 kj6 y116 a1 a2 (x7_1 ++ [(⟨(⟨#[116]⟩ : ByteArray) ++ (strOfNums y129), wrap64 (1 + t120), wrap64 ((wrap64 ((wrap64 (1 + t120)) + t122)) + t126), wrap64 ((wrap64 (1 + t120)) + t122), t124, wrap64 (1 + t128), 0⟩ : S46)]) (wrap64 (x8_1 + 1))) else (none)) else (none))))) = some r := H
                  have A16 := Aside0.mk A160
                  clear A160
                  replace H := Option.bind_eq_some_iff.mp H
                  obtain ⟨t126, A170, H⟩ := H
                  replace H : ((cadencyref04_rest.f ((rd_T52 y116 x8_1).f3) (wrap64 (1 + t120))).bind fun t128 => ((some (([(wrap64 (97 + x8_1)) % 256] : List Int) : List Int)).bind fun y129 => (if 1 + (strOfNums y129).size ≤ 9223372036854775807 then (if x7_1.length < 2199023255552 then (cadencyref04_SetT.l0 kj6 y116 a1 a2 (x7_1 ++ [(⟨(⟨#[116]⟩ : ByteArray) ++ (strOfNums y129), wrap64 (1 + t120), wrap64 ((wrap64 ((wrap64 (1 + t120)) + t122)) + t126), wrap64 ((wrap64 (1 + t120)) + t122), t124, wrap64 (1 + t128), 0⟩ : S46)]) (wrap64 (x8_1 + 1))) else (none)) else (none)))) = some r := H
                  have A17 := Aside0.mk A170
                  clear A170
                  replace H := Option.bind_eq_some_iff.mp H
                  obtain ⟨t128, A180, H⟩ := H
                  replace H : ((some (([(wrap64 (97 + x8_1)) % 256] : List Int) : List Int)).bind fun y129 => (if 1 + (strOfNums y129).size ≤ 9223372036854775807 then (if x7_1.length < 2199023255552 then (cadencyref04_SetT.l0 kj6 y116 a1 a2 (x7_1 ++ [(⟨(⟨#[116]⟩ : ByteArray) ++ (strOfNums y129), wrap64 (1 + t120), wrap64 ((wrap64 ((wrap64 (1 + t120)) + t122)) + t126), wrap64 ((wrap64 (1 + t120)) + t122), t124, wrap64 (1 + t128), 0⟩ : S46)]) (wrap64 (x8_1 + 1))) else (none)) else (none))) = some r := H
                  have A18 := Aside0.mk A180
                  clear A180
                  obtain ⟨y129, hy129⟩ : ∃ y_ : List Int, y_ = (([(wrap64 (97 + x8_1)) % 256] : List Int)) := ⟨_, rfl⟩
                  replace H : (if 1 + (strOfNums y129).size ≤ 9223372036854775807 then (if x7_1.length < 2199023255552 then (cadencyref04_SetT.l0 kj6 y116 a1 a2 (x7_1 ++ [(⟨(⟨#[116]⟩ : ByteArray) ++ (strOfNums y129), wrap64 (1 + t120), wrap64 ((wrap64 ((wrap64 (1 + t120)) + t122)) + t126), wrap64 ((wrap64 (1 + t120)) + t122), t124, wrap64 (1 + t128), 0⟩ : S46)]) (wrap64 (x8_1 + 1))) else (none)) else (none)) = some r := by first | (rw [hy129]; with_reducible exact H) | (have H2_ := (Option.bind_some _ _).symm.trans H; rw [hy129]; with_reducible exact H2_) | (have H2_ := (Option.bind_some _ _).symm.trans H; with_reducible exact H2_) | with_reducible exact H | (rw [hy129]; exact H) | exact H
                  have Ny129 := Aside0.mk hy129
                  clear hy129
                  by_cases c19 : 1 + (strOfNums y129).size ≤ 9223372036854775807
                  · rw [if_pos c19] at H
                    have c19b0 := eq_true c19
                    have c19b1 : decide (1 + (strOfNums y129).size ≤ 9223372036854775807) = true := decide_eq_true c19
                    try have c19b2 : (9223372036854775807 < 1 + (strOfNums y129).size) = False := eq_false (Nat.not_lt.2 c19)
                    by_cases c20 : x7_1.length < 2199023255552
                    · rw [if_pos c20] at H
                      have LMc20 := Aside0.mk c20
                      clear c20
                      obtain ⟨y132, hy132⟩ : ∃ y_ : List (S46), y_ = (x7_1 ++ [(⟨(⟨#[116]⟩ : ByteArray) ++ (strOfNums y129), wrap64 (1 + t120), wrap64 ((wrap64 ((wrap64 (1 + t120)) + t122)) + t126), wrap64 ((wrap64 (1 + t120)) + t122), t124, wrap64 (1 + t128), 0⟩ : S46)]) := ⟨_, rfl⟩
                      replace H : (cadencyref04_SetT.l0 kj6 y116 a1 a2 y132 (wrap64 (x8_1 + 1))) = some r := by first | (rw [hy132]; with_reducible exact H) | (have H2_ := (Option.bind_some _ _).symm.trans H; rw [hy132]; with_reducible exact H2_) | (have H2_ := (Option.bind_some _ _).symm.trans H; with_reducible exact H2_) | with_reducible exact H | (rw [hy132]; exact H) | exact H
                      have Ny132 := Aside0.mk hy132
                      clear hy132
                      have H' := Aside0.mk H
                      clear H
                      obtain ⟨Ao21, co21, eo21⟩ := Kd.R_slice HO_0.out
                      subst eo21
                      have p119 : 0 ≤ (x8_1 : Int) := of_decide_eq_true (by first | (with_reducible assumption) | assumption)
                      have q119 : x8_1 < (y116.length : Int) := of_decide_eq_true (by first | (with_reducible assumption) | assumption)
                      obtain ⟨ad119, e119, hx119_0, hx119_1, hx119_2, hx119_3, hx119_4⟩ := at_T52 (Kd.R_reads' HO_0.out).2.2 x8_1 p119 q119
                      cases e119
                      replace p119 := eq_true p119
                      replace q119 := eq_true q119
                      go_wp2_with (first | ((with_reducible refine gate_callee (f := 23) rfl ?_); refine goesL_ (some 38) rfl rfl Try.func23 (by kernel_rfl) rfl #[.int .i64 ((rd_T52 y116 x8_1).f0), .int .i64 4] rfl (by (try simp only [List.map_toArray, List.map_cons, List.map_nil]); first | done | rfl | (simp only [List.length_drop, List.length_take]; rfl)) ?_; (with_reducible refine (cadencyref04_rest.calls ((rd_T52 y116 x8_1).f0) 4 t120 _ A14.out).mono ?_); rintro e w' ⟨rfl, ⟨nd, rfl⟩⟩; refine ⟨_, rfl, ?_⟩; have p121 : 0 ≤ (x8_1 : Int) := of_decide_eq_true (by first | (with_reducible assumption) | assumption); have q121 : x8_1 < (y116.length : Int) := of_decide_eq_true (by first | (with_reducible assumption) | assumption); obtain ⟨ad121, e121, hx121_0, hx121_1, hx121_2, hx121_3, hx121_4⟩ := at_T52 (Kd.R_reads' HO_0.out).2.2 x8_1 p121 q121; obtain rfl : ad119 = ad121 := (by injection e121); replace p121 := eq_true p121; replace q121 := eq_true q121) | ((with_reducible refine gate_callee (f := 23) rfl ?_); refine goesL_ (some 46) rfl rfl Try.func23 (by kernel_rfl) rfl #[.int .i64 ((rd_T52 y116 x8_1).f1), .int .i64 11] rfl (by (try simp only [List.map_toArray, List.map_cons, List.map_nil]); first | done | rfl | (simp only [List.length_drop, List.length_take]; rfl)) ?_; (with_reducible refine (cadencyref04_rest.calls ((rd_T52 y116 x8_1).f1) 11 t122 _ A15.out).mono ?_); rintro e w' ⟨rfl, ⟨nd, rfl⟩⟩; refine ⟨_, rfl, ?_⟩; have p123 : 0 ≤ (x8_1 : Int) := of_decide_eq_true (by first | (with_reducible assumption) | assumption); have q123 : x8_1 < (y116.length : Int) := of_decide_eq_true (by first | (with_reducible assumption) | assumption); obtain ⟨ad123, e123, hx123_0, hx123_1, hx123_2, hx123_3, hx123_4⟩ := at_T52 (Kd.R_reads' HO_0.out).2.2 x8_1 p123 q123; obtain rfl : ad119 = ad123 := (by injection e123); replace p123 := eq_true p123; replace q123 := eq_true q123) | ((with_reducible refine gate_callee (f := 23) rfl ?_); refine goesL_ (some 57) rfl rfl Try.func23 (by kernel_rfl) rfl #[.int .i64 ((rd_T52 y116 x8_1).f2), .int .i64 (wrap64 ((wrap64 ((wrap64 ((wrap64 (1 + t120)) + t122)) - (wrap64 (1 + t120)))) + 1))] rfl (by (try simp only [List.map_toArray, List.map_cons, List.map_nil]); first | done | rfl | (simp only [List.length_drop, List.length_take]; rfl)) ?_; (with_reducible refine (cadencyref04_rest.calls ((rd_T52 y116 x8_1).f2) (wrap64 ((wrap64 ((wrap64 ((wrap64 (1 + t120)) + t122)) - (wrap64 (1 + t120)))) + 1)) t124 _ A16.out).mono ?_); rintro e w' ⟨rfl, ⟨nd, rfl⟩⟩; refine ⟨_, rfl, ?_⟩; have p125 : 0 ≤ (x8_1 : Int) := of_decide_eq_true (by first | (with_reducible assumption) | assumption); have q125 : x8_1 < (y116.length : Int) := of_decide_eq_true (by first | (with_reducible assumption) | assumption); obtain ⟨ad125, e125, hx125_0, hx125_1, hx125_2, hx125_3, hx125_4⟩ := at_T52 (Kd.R_reads' HO_0.out).2.2 x8_1 p125 q125; obtain rfl : ad119 = ad125 := (by injection e125); replace p125 := eq_true p125; replace q125 := eq_true q125) | ((with_reducible refine gate_callee (f := 23) rfl ?_); refine goesL_ (some 64) rfl rfl Try.func23 (by kernel_rfl) rfl #[.int .i64 ((rd_T52 y116 x8_1).f4), .int .i64 7] rfl (by (try simp only [List.map_toArray, List.map_cons, List.map_nil]); first | done | rfl | (simp only [List.length_drop, List.length_take]; rfl)) ?_; (with_reducible refine (cadencyref04_rest.calls ((rd_T52 y116 x8_1).f4) 7 t126 _ A17.out).mono ?_); rintro e w' ⟨rfl, ⟨nd, rfl⟩⟩; refine ⟨_, rfl, ?_⟩; have p127 : 0 ≤ (x8_1 : Int) := of_decide_eq_true (by first | (with_reducible assumption) | assumption); have q127 : x8_1 < (y116.length : Int) := of_decide_eq_true (by first | (with_reducible assumption) | assumption); obtain ⟨ad127, e127, hx127_0, hx127_1, hx127_2, hx127_3, hx127_4⟩ := at_T52 (Kd.R_reads' HO_0.out).2.2 x8_1 p127 q127; obtain rfl : ad119 = ad127 := (by injection e127); replace p127 := eq_true p127; replace q127 := eq_true q127) | ((with_reducible refine gate_callee (f := 23) rfl ?_); refine goesL_ (some 72) rfl rfl Try.func23 (by kernel_rfl) rfl #[.int .i64 ((rd_T52 y116 x8_1).f3), .int .i64 (wrap64 (1 + t120))] rfl (by (try simp only [List.map_toArray, List.map_cons, List.map_nil]); first | done | rfl | (simp only [List.length_drop, List.length_take]; rfl)) ?_; (with_reducible refine (cadencyref04_rest.calls ((rd_T52 y116 x8_1).f3) (wrap64 (1 + t120)) t128 _ A18.out).mono ?_); rintro e w' ⟨rfl, ⟨nd, rfl⟩⟩; refine ⟨_, rfl, ?_⟩) | ((with_reducible refine gate_dst (N := 78) rfl ?_); refine Kd.R_lit (Kd.int .u8) _ 5 ?hg (N := 78) ?hd (xs := ([(wrap64 (97 + x8_1)) % 256] : List Int)) (inner := [.int .u8 ((wrap64 (97 + x8_1)) % 256)]) (ok := fun _ => True) (okp := fun _ => True) ?hr ?hp (fun _ hk => hk) trivial (Below.refl _ _) (Nat.le_refl _) (by simp) ?_; (case hd => rfl); (case hg => rfl); (case hr => first | (go_simp; done) | (go_simp; rfl)); (case hp => exact (Reps.one (show Kd.M (Kd.int .u8) _ _ _ ((wrap64 (97 + x8_1)) % 256) [.int .u8 ((wrap64 (97 + x8_1)) % 256)] from rfl) (Reps.none _ _))); intro v130 w22 ho23 hb hg_ hnew_; clear hg_ hnew_; (first | rw [← Ny129.out] at ho23 | (simp only [Int.reduceToNat] at ho23; rw [← Ny129.out] at ho23)); have n0_ := Aside0.mk (Kd.R_below (by (with_reducible repeat (first | apply Kd.R_alloc | apply Kd.R_drewN | apply Kd.R_drew)); exact HO_0.out) hb); have n1_ := Aside0.mk (Kd.R_below (by (with_reducible repeat (first | apply Kd.R_alloc | apply Kd.R_drewN | apply Kd.R_drew)); exact HO_7.out) hb); have n2_ := Aside0.mk (Kd.R_lower ho23 (below_size (by repeat (first | (with_reducible first | exact HB.out | apply below_alloc | apply pw_below_drewN | apply below_drew1) | exact HB.out)))); have n3_ := Aside0.mk (below_step (by repeat (first | (with_reducible first | exact HB.out | apply below_alloc | apply pw_below_drewN | apply below_drew1) | exact HB.out)) hb); clear HO_0; clear HO_7; clear HB; have HO_0 := n0_; have HO_7 := n1_; have HO131 := n2_; have HB := n3_; clear n0_ n1_ n2_ n3_; clear hb ho23; have hcv24 := own_string (P := Try.prog) Try.underlying53 Try.underlying5 Try.underlying9 (Kd.own_of_R HO131.out)) | ((with_reducible refine gate_builtin (b := .append) (xs := #[.tmp 74, .tmp 87]) rfl ?_); at_builtin; refine Kd.R_append k46 (w0 := w) w.heap.size rfl (.tmp 74) (.tmp 87) 24 46 (.agg #[(.string ⟨#[]⟩), (.int .i64 0), (.int .i64 0), (.int .i64 0), (.int .i64 0), (.int .i64 0), (.int .i64 0)]) 64 rfl Try.underlying24 info46 rfl (by decide) (by omega) u7 x7_1 (⟨(⟨#[116]⟩ : ByteArray) ++ (strOfNums y129), wrap64 (1 + t120), wrap64 ((wrap64 ((wrap64 (1 + t120)) + t122)) + t126), wrap64 ((wrap64 (1 + t120)) + t122), t124, wrap64 (1 + t128), 0⟩ : S46) [.string ((⟨#[116]⟩ : ByteArray) ++ (strOfNums y129)), .int .i64 (wrap64 (1 + t120)), .int .i64 (wrap64 ((wrap64 ((wrap64 (1 + t120)) + t122)) + t126)), .int .i64 (wrap64 ((wrap64 (1 + t120)) + t122)), .int .i64 t124, .int .i64 (wrap64 (1 + t128)), .int .i64 0] (fun _ => True) (fun _ => False) rfl rfl ?aP (fun _ hk => hk.elim) ?aF ?aO ?aB ?aS ?aL ?_; (case aP => exact k46_mkM _ _ _ (⟨(⟨#[116]⟩ : ByteArray) ++ (strOfNums y129), wrap64 (1 + t120), wrap64 ((wrap64 ((wrap64 (1 + t120)) + t122)) + t126), wrap64 ((wrap64 (1 + t120)) + t122), t124, wrap64 (1 + t128), 0⟩ : S46)); (case aB => exact (by repeat (first | (with_reducible first | exact HB.out | apply below_alloc | apply pw_below_drewN | apply below_drew1) | exact HB.out))); (case aF => exact (fun _ _ => trivial)); (case aO => exact (by (with_reducible repeat (first | apply Kd.R_alloc | apply Kd.R_drewN | apply Kd.R_drew)); exact HO_7.out)); (case aS => exact (below_size (by repeat (first | (with_reducible first | exact HB.out | apply below_alloc | apply pw_below_drewN | apply below_drew1) | exact HB.out)))); (case aL => have := LMc20.out; omega); intro v133 w25 ho hb hg hat; rw [← Ny132.out] at ho; have n0_ := Aside0.mk (Kd.R_over' (by (with_reducible repeat (first | apply Kd.R_alloc | apply Kd.R_drewN | apply Kd.R_drew)); exact HO_0.out) (Kd.R_typed (by (with_reducible repeat (first | apply Kd.R_alloc | apply Kd.R_drewN | apply Kd.R_drew)); exact HO_7.out)) (by decide) hg); have n1_ := Aside0.mk (Kd.R_over' (by (with_reducible repeat (first | apply Kd.R_alloc | apply Kd.R_drewN | apply Kd.R_drew)); exact HO131.out) (Kd.R_typed (by (with_reducible repeat (first | apply Kd.R_alloc | apply Kd.R_drewN | apply Kd.R_drew)); exact HO_7.out)) (by decide) hg); have n2_ := Aside0.mk (hb); have n3_ := Aside0.mk (ho); clear HO_0; clear HO131; clear HB; clear HO_7; have HO_0 := n0_; have HO131 := n1_; have HB := n2_; have HO134 := n3_; clear n0_ n1_ n2_ n3_; clear ho hb hg hat))
                      go_roundg kj6
                      case measure => have := HK1.out; have := HJ6.out; omega
                      case rel => exact ⟨(y132), (wrap64 (x8_1 + 1)), (by first | rfl | (simp; done) | (simp [*]; done)), H', ⟨by have := HK1.out; have := HJ6.out; omega⟩, ⟨by (with_reducible repeat (first | apply Kd.R_alloc | apply Kd.R_drewN | apply Kd.R_drew)); exact HO_0.out⟩, ⟨by (with_reducible repeat (first | apply Kd.R_alloc | apply Kd.R_drewN | apply Kd.R_drew)); exact HO134.out⟩, ⟨by repeat (first | (with_reducible first | exact HB.out | apply below_alloc | apply pw_below_drewN | apply below_drew1) | exact HB.out)⟩⟩
                    · rw [if_neg c20] at H
                      exact absurd H (by simp)
                  · rw [if_neg c19] at H
                    exact absurd H (by simp)
                · rw [if_neg c13] at H
                  exact absurd H (by simp)
              · rw [if_neg c12] at H
                exact absurd H (by simp)
            · replace c11 := Bool.eq_false_iff.mpr c11
              subst c11
              have H1 : (cadencyref04_SetT.l1 kj6 a2 x7_1 (x7_1.length : Int) 0) = some r := by rw [if_neg (show ¬ (false = true) by decide)] at H; exact H
              clear H
              have H := H1
              clear H1
              have H' := Aside0.mk H
              clear H
              obtain ⟨Ao26, co26, eo26⟩ := Kd.R_slice HO_7.out
              subst eo26
              go_wp2
              go_loopg [15] kj6 (fun kq v15 w' => ∃ (x7_3 : List (S46)) (x15_3 : Int), v15 = .int .i64 x15_3 ∧ Aside0 (cadencyref04_SetT.l1 kq a2 x7_3 (x7_1.length : Int) x15_3 = some r) ∧ Aside0 (kq ≤ kj6) ∧ Aside0 (Kd.R k46 46 w' w.heap.size (fun _ => True) (.slice Ao26 x7_1.length co26) x7_3) ∧ Aside0 (Below w.heap.size w w'))
              case atStart => exact ⟨(x7_1), (0), (by first | rfl | (simp; done) | (simp [*]; done)), H', ⟨Nat.le_refl _⟩, ⟨by (with_reducible repeat (first | apply Kd.R_alloc | apply Kd.R_drewN | apply Kd.R_drew)); exact HO_7.out⟩, ⟨by repeat (first | (with_reducible first | exact HB.out | apply below_alloc | apply pw_below_drewN | apply below_drew1) | exact HB.out)⟩⟩
              case round =>
                clear H'
                try clear c1
                try clear p1
                try clear q1
                try clear hx1
                try clear c2
                try clear p2
                try clear hcv2
                try clear c4
                try clear c4b0
                try clear c4b1
                try clear c5
                try clear p6
                try clear c8
                try clear c8b0
                try clear c11
                try clear p11
                try clear q11
                try clear hx11
                try clear c12
                try clear c12b0
                try clear p12
                try clear q12
                try clear hx12
                try clear c13
                try clear c13b0
                try clear c19
                try clear c19b0
                try clear c19b1
                try clear c19b2
                try clear c20
                try clear c23
                try clear hcv24
                try clear hx119_0
                try clear hx119_1
                try clear hx119_2
                try clear hx119_3
                try clear hx119_4
                try clear hx121_0
                try clear hx121_1
                try clear hx121_2
                try clear hx121_3
                try clear hx121_4
                try clear hx123_0
                try clear hx123_1
                try clear hx123_2
                try clear hx123_3
                try clear hx123_4
                try clear hx125_0
                try clear hx125_1
                try clear hx125_2
                try clear hx125_3
                try clear hx125_4
                try clear hx127_0
                try clear hx127_1
                try clear hx127_2
                try clear hx127_3
                try clear hx127_4
                try clear p119
                try clear p121
                try clear p123
                try clear p125
                try clear p127
                try clear p2
                try clear q119
                try clear q121
                try clear q123
                try clear q125
                try clear q127
                obtain ⟨x7_3, x15_3, rfl, HA, HK3, HO_7, HB⟩ := hrel
                have hl7_3 := (Kd.R_reads' HO_7.out).1
                rw [hl7_3] at HO_7
                (try simp only [hl7_3])
                cases gk with
                | zero => exact absurd HA.out (by simp [cadencyref04_SetT.l1])
                | succ k3 =>
                  have H := HA.out
                  clear HA
                  simp only [cadencyref04_SetT.l1] at H
                  by_cases c27 : x15_3 < (x7_1.length : Int)
                  · rw [if_pos c27] at H
                    have c27b0 : decide (x15_3 < (x7_1.length : Int)) = true := decide_eq_true c27
                    clear c27
                    replace H := Option.bind_eq_some_iff.mp H
                    obtain ⟨t135, A280, H⟩ := H
                    replace H : ((cadencyref04_rest.f a2 (x7_1.length : Int)).bind fun t136 => (if (x7_1.length : Int) = 0 then (none) else (if 0 ≤ x15_3 then (if x15_3 < (x7_3.length : Int) then (cadencyref04_SetT.l1 k3 a2 (x7_3.set (x15_3 : Int).toNat (⟨(rd_T46 x7_3 x15_3).f0, (rd_T46 x7_3 x15_3).f1, (rd_T46 x7_3 x15_3).f2, (rd_T46 x7_3 x15_3).f3, (rd_T46 x7_3 x15_3).f4, (rd_T46 x7_3 x15_3).f5, wrap64 (1 + (Int.tmod (wrap64 ((wrap64 (x15_3 * t135)) + t136)) (x7_1.length : Int)))⟩ : S46)) (x7_1.length : Int) (wrap64 (x15_3 + 1))) else (none)) else (none)))) = some r := H
                    have A28 := Aside0.mk A280
                    clear A280
                    replace H := Option.bind_eq_some_iff.mp H
                    obtain ⟨t136, A290, H⟩ := H
                    replace H : (if (x7_1.length : Int) = 0 then (none) else (if 0 ≤ x15_3 then (if x15_3 < (x7_3.length : Int) then (cadencyref04_SetT.l1 k3 a2 (x7_3.set (x15_3 : Int).toNat (⟨(rd_T46 x7_3 x15_3).f0, (rd_T46 x7_3 x15_3).f1, (rd_T46 x7_3 x15_3).f2, (rd_T46 x7_3 x15_3).f3, (rd_T46 x7_3 x15_3).f4, (rd_T46 x7_3 x15_3).f5, wrap64 (1 + (Int.tmod (wrap64 ((wrap64 (x15_3 * t135)) + t136)) (x7_1.length : Int)))⟩ : S46)) (x7_1.length : Int) (wrap64 (x15_3 + 1))) else (none)) else (none))) = some r := H
                    have A29 := Aside0.mk A290
                    clear A290
                    by_cases c30 : (x7_1.length : Int) = 0
                    · rw [if_pos c30] at H
                      exact absurd H (by simp)
                    · rw [if_neg c30] at H
                      have c30b0 : ((x7_1.length : Int) == 0) = false := beq_eq_false_iff_ne.mpr c30
                      have c30b1 : ((x7_1.length : Int) != 0) = true := bne_iff_ne.mpr c30
                      have c30b2 : ¬ (x7_1 = []) := fun h_ => c30 (by rw [h_]; rfl)
                      by_cases c31 : 0 ≤ x15_3
                      · rw [if_pos c31] at H
                        have c31b0 : decide (0 ≤ x15_3) = true := decide_eq_true c31
                        clear c31
                        by_cases c32 : x15_3 < (x7_3.length : Int)
                        · rw [if_pos c32] at H
                          have c32b0 : decide (x15_3 < (x7_3.length : Int)) = true := decide_eq_true c32
                          clear c32
                          obtain ⟨y137, hy137⟩ : ∃ y_ : List (S46), y_ = (x7_3.set (x15_3 : Int).toNat (⟨(rd_T46 x7_3 x15_3).f0, (rd_T46 x7_3 x15_3).f1, (rd_T46 x7_3 x15_3).f2, (rd_T46 x7_3 x15_3).f3, (rd_T46 x7_3 x15_3).f4, (rd_T46 x7_3 x15_3).f5, wrap64 (1 + (Int.tmod (wrap64 ((wrap64 (x15_3 * t135)) + t136)) (x7_1.length : Int)))⟩ : S46)) := ⟨_, rfl⟩
                          replace H : (cadencyref04_SetT.l1 k3 a2 y137 (x7_1.length : Int) (wrap64 (x15_3 + 1))) = some r := by first | (rw [hy137]; with_reducible exact H) | (have H2_ := (Option.bind_some _ _).symm.trans H; rw [hy137]; with_reducible exact H2_) | (have H2_ := (Option.bind_some _ _).symm.trans H; with_reducible exact H2_) | with_reducible exact H | (rw [hy137]; exact H) | exact H
                          (try rw [hl7_3] at hy137)
                          have Ny137 := Aside0.mk hy137
                          clear hy137
                          have H' := Aside0.mk H
                          clear H
                          go_wp2_with (first | ((with_reducible refine gate_callee (f := 24) rfl ?_); refine goesL_ (some 101) rfl rfl Try.func24 (by kernel_rfl) rfl #[.int .i64 (x7_3.length : Int), .int .i64 a2] rfl (by (try simp only [List.map_toArray, List.map_cons, List.map_nil]); first | done | rfl | (simp only [List.length_drop, List.length_take]; rfl)) ?_; (with_reducible refine (cadencyref04_turns.calls (x7_3.length : Int) a2 t135 _ (by rw [← hl7_3]; exact A28.out)).mono ?_); rintro e w' ⟨rfl, ⟨nd, rfl⟩⟩; refine ⟨_, rfl, ?_⟩; (try (rw [drewN_self wr]; generalize hq_ : World.drewN wr _ = wr; have n0_ : Aside0 (Kd.R k46 46 wr w.heap.size (fun _ => True) (.slice Ao26 x7_3.length co26) x7_3) := ⟨by rw [← hq_]; exact (by (with_reducible repeat (first | apply Kd.R_alloc | apply Kd.R_drewN | apply Kd.R_drew)); exact HO_7.out)⟩; have n1_ : Aside0 (Below w.heap.size w wr) := ⟨by rw [← hq_]; exact (by repeat (first | (with_reducible first | exact HB.out | apply below_alloc | apply pw_below_drewN | apply below_drew1) | exact HB.out))⟩; clear HO_7 HB hq_; have HO_7 := n0_; have HB := n1_; clear n0_ n1_))) | ((with_reducible refine gate_callee (f := 23) rfl ?_); refine goesL_ (some 105) rfl rfl Try.func23 (by kernel_rfl) rfl #[.int .i64 a2, .int .i64 (x7_3.length : Int)] rfl (by (try simp only [List.map_toArray, List.map_cons, List.map_nil]); first | done | rfl | (simp only [List.length_drop, List.length_take]; rfl)) ?_; (with_reducible refine (cadencyref04_rest.calls a2 (x7_3.length : Int) t136 _ (by rw [← hl7_3]; exact A29.out)).mono ?_); rintro e w' ⟨rfl, ⟨nd, rfl⟩⟩; refine ⟨_, rfl, ?_⟩; (try (rw [drewN_self wr]; generalize hq_ : World.drewN wr _ = wr; have n0_ : Aside0 (Kd.R k46 46 wr w.heap.size (fun _ => True) (.slice Ao26 x7_3.length co26) x7_3) := ⟨by rw [← hq_]; exact (by (with_reducible repeat (first | apply Kd.R_alloc | apply Kd.R_drewN | apply Kd.R_drew)); exact HO_7.out)⟩; have n1_ : Aside0 (Below w.heap.size w wr) := ⟨by rw [← hq_]; exact (by repeat (first | (with_reducible first | exact HB.out | apply below_alloc | apply pw_below_drewN | apply below_drew1) | exact HB.out))⟩; clear HO_7 HB hq_; have HO_7 := n0_; have HB := n1_; clear n0_ n1_)); have p33 : 0 ≤ (x15_3 : Int) := of_decide_eq_true (by first | (with_reducible assumption) | assumption); have q33 : (x15_3 : Int) < ((x7_3.length : Int) : Int) := of_decide_eq_true (by first | (with_reducible assumption) | assumption); obtain ⟨go33, co33, eo33, gb33, gl33, cl33, HG33⟩ := Kd.R_form HO_7.out (by omega); (first | cases eo33 | (injection eo33 with ea_ en_ ec_; (first | subst ea_ | (injection ea_ with ea_; subst ea_)); subst ec_; clear en_)); have GB33 := Aside0.mk gb33; have GG33 := Aside0.mk HG33; clear gb33 gl33 HG33; obtain ⟨ce33, hcl33, hM33, hcc33, hfr33⟩ := Kd.R_elem HO_7.out z46 (x15_3 : Int) p33 q33; obtain rfl := k46_openM hM33; have hx33_0 : wr.cell? ⟨go33, (x15_3 : Int).toNat * 7, none⟩ = some (.string ((rd_T46 x7_3 x15_3).f0)) := hcc33 0 _ rfl; have hx33_1 : wr.cell? ⟨go33, (x15_3 : Int).toNat * 7 + 1, none⟩ = some (.int .i64 ((rd_T46 x7_3 x15_3).f1)) := hcc33 1 _ rfl; have hx33_2 : wr.cell? ⟨go33, (x15_3 : Int).toNat * 7 + 2, none⟩ = some (.int .i64 ((rd_T46 x7_3 x15_3).f2)) := hcc33 2 _ rfl; have hx33_3 : wr.cell? ⟨go33, (x15_3 : Int).toNat * 7 + 3, none⟩ = some (.int .i64 ((rd_T46 x7_3 x15_3).f3)) := hcc33 3 _ rfl; have hx33_4 : wr.cell? ⟨go33, (x15_3 : Int).toNat * 7 + 4, none⟩ = some (.int .i64 ((rd_T46 x7_3 x15_3).f4)) := hcc33 4 _ rfl; have hx33_5 : wr.cell? ⟨go33, (x15_3 : Int).toNat * 7 + 5, none⟩ = some (.int .i64 ((rd_T46 x7_3 x15_3).f5)) := hcc33 5 _ rfl; have hx33_6 : wr.cell? ⟨go33, (x15_3 : Int).toNat * 7 + 6, none⟩ = some (.int .i64 ((rd_T46 x7_3 x15_3).f6)) := hcc33 6 _ rfl; have hf33_0 : wr.frozen? ⟨go33, (x15_3 : Int).toNat * 7, none⟩ = false := hfr33 0; have hf33_1 : wr.frozen? ⟨go33, (x15_3 : Int).toNat * 7 + 1, none⟩ = false := hfr33 1; have hf33_2 : wr.frozen? ⟨go33, (x15_3 : Int).toNat * 7 + 2, none⟩ = false := hfr33 2; have hf33_3 : wr.frozen? ⟨go33, (x15_3 : Int).toNat * 7 + 3, none⟩ = false := hfr33 3; have hf33_4 : wr.frozen? ⟨go33, (x15_3 : Int).toNat * 7 + 4, none⟩ = false := hfr33 4; have hf33_5 : wr.frozen? ⟨go33, (x15_3 : Int).toNat * 7 + 5, none⟩ = false := hfr33 5; have hf33_6 : wr.frozen? ⟨go33, (x15_3 : Int).toNat * 7 + 6, none⟩ = false := hfr33 6; clear hcl33 hcc33 hfr33 hM33; replace p33 := eq_true p33; replace q33 := eq_true q33; have HX34 := Aside0.mk (show Kd.R k46 46 wr w.heap.size (fun _ => True) (.slice (some ⟨go33, 0, none⟩) x7_3.length co26) x7_3 from (by (with_reducible repeat (first | apply Kd.R_alloc | apply Kd.R_drewN | apply Kd.R_drew)); exact HO_7.out)); obtain ⟨ce34, hcl34, hM34, hcc34, hfr34⟩ := Kd.R_elem HX34.out z46 (x15_3 : Int) (of_decide_eq_true (by first | (with_reducible assumption) | assumption)) (by have h_ : (x15_3 : Int) < ((x7_3.length : Int) : Int) := of_decide_eq_true (by first | (with_reducible assumption) | assumption); first | exact h_ | (have e_ := (Kd.R_reads' HO_7.out).1; omega) | simpa using h_); obtain rfl := k46_openM hM34; have HP34 := Kd.R_seg HX34.out (x15_3 : Int) (of_decide_eq_true (by first | (with_reducible assumption) | assumption)) (by have h_ : (x15_3 : Int) < ((x7_3.length : Int) : Int) := of_decide_eq_true (by first | (with_reducible assumption) | assumption); first | exact h_ | (have e_ := (Kd.R_reads' HO_7.out).1; omega) | simpa using h_) (seg := [.int .i64 (wrap64 (1 + (Int.tmod (wrap64 ((wrap64 (x15_3 * t135)) + t136)) (x7_3.length : Int))))]) (j := 6) hcl34 hcc34 (show 7 ≤ 7 from by decide) (x' := (⟨(rd_T46 x7_3 x15_3).f0, (rd_T46 x7_3 x15_3).f1, (rd_T46 x7_3 x15_3).f2, (rd_T46 x7_3 x15_3).f3, (rd_T46 x7_3 x15_3).f4, (rd_T46 x7_3 x15_3).f5, wrap64 (1 + (Int.tmod (wrap64 ((wrap64 (x15_3 * t135)) + t136)) (x7_3.length : Int)))⟩ : S46)) (k46_mkM _ _ _ (⟨(rd_T46 x7_3 x15_3).f0, (rd_T46 x7_3 x15_3).f1, (rd_T46 x7_3 x15_3).f2, (rd_T46 x7_3 x15_3).f3, (rd_T46 x7_3 x15_3).f4, (rd_T46 x7_3 x15_3).f5, wrap64 (1 + (Int.tmod (wrap64 ((wrap64 (x15_3 * t135)) + t136)) (x7_3.length : Int)))⟩ : S46) ) (fun _ hk => hk); have hx34_6 := hcc34 6 _ rfl; (try simp only [show (k46).sz = 7 from rfl, Nat.mul_one, Nat.add_zero] at hx34_6); have hf34_6 := hfr34 6; (try simp only [show (k46).sz = 7 from rfl, Nat.mul_one, Nat.add_zero] at hf34_6); clear hcl34 hcc34 hfr34 hM34) | ((with_reducible refine gate_store (t := 3) (p := 111) rfl ?_); refine store_event (t := 3) (p := 111) (v := ?vo_w35) (w1 := (wr.setCell ⟨go33, (x15_3 : Int).toNat * 7 + 6, none⟩ (.int .i64 (wrap64 (1 + (Int.tmod (wrap64 ((wrap64 (x15_3 * t135)) + t136)) (x7_3.length : Int))))))) ?hg ?ho ?hn ?hr ?_; (case ho => rfl); (case hg => rfl); (case hn => rfl); (case hr => first | (go_simp; done) | (go_simp; rfl)); intro w35 hw; have hg : wr.grownBy w35 (some go33) := (by rw [hw]; exact HP34.2); have hp_ : Kd.R k46 46 w35 w.heap.size (fun _ => True) (.slice (some ⟨go33, 0, none⟩) x7_3.length co26) y137 := (by rw [hw, Ny137.out]; exact HP34.1); clear HP34; have n0_ := Aside0.mk (hp_); have n1_ := Aside0.mk ((by rw [hw]; exact below_set (HB.out) GB33.out : Below w.heap.size w w35)); clear HO_7; clear HB; have HO_7 := n0_; have HB := n1_; clear n0_ n1_; clear hg hw hp_))
                          (try simp only [← hl7_3])
                          go_roundg k3
                          case measure => have := HK1.out; have := HJ6.out; have := HK3.out; omega
                          case rel => exact ⟨(y137), (wrap64 (x15_3 + 1)), (by first | rfl | (simp; done) | (simp [*]; done)), H', ⟨by have := HK1.out; have := HJ6.out; have := HK3.out; omega⟩, ⟨by (try simp only [hl7_3]); (with_reducible repeat (first | apply Kd.R_alloc | apply Kd.R_drewN | apply Kd.R_drew)); exact HO_7.out⟩, ⟨by repeat (first | (with_reducible first | exact HB.out | apply below_alloc | apply pw_below_drewN | apply below_drew1) | exact HB.out)⟩⟩
                        · rw [if_neg c32] at H
                          exact absurd H (by simp)
                      · rw [if_neg c31] at H
                        exact absurd H (by simp)
                  · rw [if_neg c27] at H
                    have c27b0 : decide (x15_3 < (x7_1.length : Int)) = false := decide_eq_false c27
                    clear c27
                    (try rw [hl7_3] at c27b0)
                    obtain rfl := Option.some.inj H
                    go_wp2
                    go_ret
                    exact ⟨_, by first | rfl | (simp [errW_none, errW_some] <;> rfl) | (simp [*, errW_none, errW_some] <;> rfl), by (with_reducible repeat (first | apply Kd.R_alloc | apply Kd.R_drewN | apply Kd.R_drew)); exact HO_7.out, by repeat (first | (with_reducible first | exact HB.out | apply below_alloc | apply pw_below_drewN | apply below_drew1) | exact HB.out)⟩
  · rw [if_neg c4] at H
    exact absurd H (by simp)

end Go.Proofs.Ytcdmgalhboijcaa.D
