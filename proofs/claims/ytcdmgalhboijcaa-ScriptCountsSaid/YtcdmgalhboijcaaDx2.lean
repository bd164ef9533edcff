-- written by a program (wip/dev/print2.sh): functions of the program as plain Lean, with their contracts
import Derived.Test.YtcdmgalhboijcaaDx0
import Derived.Test.YtcdmgalhboijcaaDx1
namespace Go.Proofs.Ytcdmgalhboijcaa.D
open Go.RowKit Go.Proofs.YtcdmgalhboijcaaW.PrintWords Go.Proofs.YtcdmgalhboijcaaW.PrintLast Go.Proofs.YtcdmgalhboijcaaW.PrintMore
attribute [local go_sem] max2_int min2_int max_two min_two max_three min_three max_four min_four   -- for this text's walks alone
set_option linter.unusedVariables false
set_option linter.unusedSimpArgs false

/-! ### cadencyref04_SetF: function 12 -/
mutual
def cadencyref04_SetF.l0 : Nat → List (S52) → Int → Int → List (S46) → Int → Option ((List (S46)))
  | 0, _, _, _, _, _ => none
  | k + 1, x0, x1, x2, x7, x8 => if x8 < (x0.length : Int) then (cadencyref04_SetF.j1 k x0 x1 x2 x7 x8 (decide (x8 < x1))) else (cadencyref04_SetF.j1 k x0 x1 x2 x7 x8 false)
def cadencyref04_SetF.j1 : Nat → List (S52) → Int → Int → List (S46) → Int → Bool → Option ((List (S46)))
  | 0, _, _, _, _, _, _ => none
  | k + 1, x0, x1, x2, x7, x8, x30 => if x30 = true then (if 0 ≤ x8 then (if x8 < (x0.length : Int) then ((cadencyref04_rest.f ((rd_T52 x0 x8).f0) 4).bind fun t139 => ((cadencyref04_rest.f ((rd_T52 x0 x8).f1) 11).bind fun t141 => ((cadencyref04_rest.f ((rd_T52 x0 x8).f2) (wrap64 ((wrap64 ((wrap64 ((wrap64 (1 + t139)) + t141)) - (wrap64 (1 + t139)))) + 1))).bind fun t143 => ((cadencyref04_rest.f ((rd_T52 x0 x8).f4) 7).bind fun t145 => ((cadencyref04_rest.f ((rd_T52 x0 x8).f3) (wrap64 (1 + t139))).bind fun t147 => ((some (([(wrap64 (97 + x8)) % 256] : List Int) : List Int)).bind fun y148 => (if 1 + (strOfNums y148).size ≤ 9223372036854775807 then (if x7.length < 2199023255552 then (cadencyref04_SetF.l0 k x0 x1 x2 (x7 ++ [(⟨(⟨#[116]⟩ : ByteArray) ++ (strOfNums y148), wrap64 (1 + t139), wrap64 ((wrap64 ((wrap64 (1 + t139)) + t141)) + t145), wrap64 ((wrap64 (1 + t139)) + t141), t143, wrap64 (1 + t147), 0⟩ : S46)]) (wrap64 (x8 + 1))) else (none)) else (none)))))))) else (none)) else (none)) else (cadencyref04_SetF.l1 k x2 x7 (x7.length : Int) 0)
def cadencyref04_SetF.l1 : Nat → Int → List (S46) → Int → Int → Option ((List (S46)))
  | 0, _, _, _, _ => none
  | k + 1, x2, x7, x14, x15 => if x15 < x14 then ((cadencyref04_turns.f x14 x2).bind fun t154 => ((cadencyref04_rest.f x2 x14).bind fun t155 => (if x14 = 0 then (none) else (if 0 ≤ x15 then (if x15 < (x7.length : Int) then (cadencyref04_SetF.l1 k x2 (x7.set (x15 : Int).toNat (⟨(rd_T46 x7 x15).f0, (rd_T46 x7 x15).f1, (rd_T46 x7 x15).f2, (rd_T46 x7 x15).f3, (rd_T46 x7 x15).f4, (rd_T46 x7 x15).f5, wrap64 (1 + (Int.tmod (wrap64 ((wrap64 (x15 * t154)) + t155)) x14))⟩ : S46)) x14 (wrap64 (x15 + 1))) else (none)) else (none))))) else (some x7)
end
def cadencyref04_SetF.f (k : Nat) (l0 : List (S52)) (a1 : Int) (a2 : Int) : Option ((List (S46))) := if (l0.length : Int) = 0 then (none) else (cadencyref04_SetF.l0 k l0 a1 a2 ([] : List (S46)) 0)
theorem cadencyref04_SetF.mono_l : ∀ k, (∀ y0 y1 y2 y3 y4, LeO (cadencyref04_SetF.l0 k y0 y1 y2 y3 y4) (cadencyref04_SetF.l0 (k + 1) y0 y1 y2 y3 y4)) ∧ (∀ y0 y1 y2 y3 y4 y5, LeO (cadencyref04_SetF.j1 k y0 y1 y2 y3 y4 y5) (cadencyref04_SetF.j1 (k + 1) y0 y1 y2 y3 y4 y5)) ∧ (∀ y0 y1 y2 y3, LeO (cadencyref04_SetF.l1 k y0 y1 y2 y3) (cadencyref04_SetF.l1 (k + 1) y0 y1 y2 y3))
  | 0 => ⟨fun _ _ _ _ _ r h => by simp [cadencyref04_SetF.l0] at h, fun _ _ _ _ _ _ r h => by simp [cadencyref04_SetF.j1] at h, fun _ _ _ _ r h => by simp [cadencyref04_SetF.l1] at h⟩
  | k + 1 => by
    obtain ⟨ih0, ih1, ih2⟩ := cadencyref04_SetF.mono_l k
    refine ⟨?_, ?_, ?_⟩
    · intro y0 y1 y2 y3 y4
      unfold cadencyref04_SetF.l0
      repeat' first
      | (with_reducible exact ih0 _ _ _ _ _)
      | (with_reducible exact ih1 _ _ _ _ _ _)
      | (with_reducible exact ih2 _ _ _ _)
      | (with_reducible exact LeO.refl _)
      | (with_reducible exact LeO.none _)
      | (with_reducible refine LeO.ite ?_ ?_)
      | (with_reducible refine LeO.bind ?_ (fun _ => ?_))
      | exact ih0 _ _ _ _ _
      | exact ih1 _ _ _ _ _ _
      | exact ih2 _ _ _ _
      | exact LeO.none _
      | refine LeO.ite ?_ ?_
      | refine LeO.bind ?_ (fun _ => ?_)
    · intro y0 y1 y2 y3 y4 y5
      unfold cadencyref04_SetF.j1
      repeat' first
      | (with_reducible exact ih0 _ _ _ _ _)
      | (with_reducible exact ih1 _ _ _ _ _ _)
      | (with_reducible exact ih2 _ _ _ _)
      | (with_reducible exact LeO.refl _)
      | (with_reducible exact LeO.none _)
      | (with_reducible refine LeO.ite ?_ ?_)
      | (with_reducible refine LeO.bind ?_ (fun _ => ?_))
      | exact ih0 _ _ _ _ _
      | exact ih1 _ _ _ _ _ _
      | exact ih2 _ _ _ _
      | exact LeO.none _
      | refine LeO.ite ?_ ?_
      | refine LeO.bind ?_ (fun _ => ?_)
    · intro y0 y1 y2 y3
      unfold cadencyref04_SetF.l1
      repeat' first
      | (with_reducible exact ih0 _ _ _ _ _)
      | (with_reducible exact ih1 _ _ _ _ _ _)
      | (with_reducible exact ih2 _ _ _ _)
      | (with_reducible exact LeO.refl _)
      | (with_reducible exact LeO.none _)
      | (with_reducible refine LeO.ite ?_ ?_)
      | (with_reducible refine LeO.bind ?_ (fun _ => ?_))
      | exact ih0 _ _ _ _ _
      | exact ih1 _ _ _ _ _ _
      | exact ih2 _ _ _ _
      | exact LeO.none _
      | refine LeO.ite ?_ ?_
      | refine LeO.bind ?_ (fun _ => ?_)
theorem cadencyref04_SetF.mono : ∀ a0 a1 a2 k, LeO (cadencyref04_SetF.f k a0 a1 a2) (cadencyref04_SetF.f (k + 1) a0 a1 a2) := by
  intro a0 a1 a2 k
  obtain ⟨ih0, ih1, ih2⟩ := cadencyref04_SetF.mono_l k
  unfold cadencyref04_SetF.f
  repeat' first
      | (with_reducible exact ih0 _ _ _ _ _)
      | (with_reducible exact ih1 _ _ _ _ _ _)
      | (with_reducible exact ih2 _ _ _ _)
      | (with_reducible exact LeO.refl _)
      | (with_reducible exact LeO.none _)
      | (with_reducible refine LeO.ite ?_ ?_)
      | (with_reducible refine LeO.bind ?_ (fun _ => ?_))
      | exact ih0 _ _ _ _ _
      | exact ih1 _ _ _ _ _ _
      | exact ih2 _ _ _ _
      | exact LeO.none _
      | refine LeO.ite ?_ ?_
      | refine LeO.bind ?_ (fun _ => ?_)
set_option maxHeartbeats 8000000 in
set_option maxRecDepth 100000 in
theorem cadencyref04_SetF.calls (k : Nat) (A0 : Option Addr) (c0 : Nat) (l0 : List (S52)) (a1 : Int) (a2 : Int) (r : List (S46)) (w : World) (hr0 : Kd.C k52 w A0 l0.length l0) (hc0 : l0.length ≤ c0) (h : cadencyref04_SetF.f k l0 a1 a2 = some r) :
    Calls Try.prog 12 #[.slice A0 l0.length c0, .int .i64 a1, .int .i64 a2] w fun e w' => ∃ v0_ : Value, e = .returned (v0_) ∧ Kd.R k46 46 w' w.heap.size (fun _ => True) v0_ r ∧ Below w.heap.size w w' := by
  have hu52 := Try.underlying52
  have hu46 := Try.underlying46
  have HR0 := Aside0.mk hr0
  have HC0 := Aside0.mk hc0
  clear hr0 hc0
  have HB := Aside0.mk (Below.refl w.heap.size w)
  have H : (if (l0.length : Int) = 0 then (none) else (cadencyref04_SetF.l0 k l0 a1 a2 ([] : List (S46)) 0)) = some r := h
  clear h
  by_cases c4 : (l0.length : Int) = 0
  · rw [if_pos c4] at H
    exact absurd H (by simp)
  · rw [if_neg c4] at H
    have c4b0 : ((l0.length : Int) == 0) = false := beq_eq_false_iff_ne.mpr c4
    have c4b1 : ((l0.length : Int) != 0) = true := bne_iff_ne.mpr c4
    have c4b2 : ¬ (l0 = []) := fun h_ => c4 (by rw [h_]; rfl)
    have H' := Aside0.mk H
    clear H
    go_enter Try.func12, Try.ntmps12
    go_wp2
    go_loopg [7, 8] k (fun kq v7 v8 w' => ∃ (x7_1 : List (S46)) (x8_1 : Int), v8 = .int .i64 x8_1 ∧ Aside0 (cadencyref04_SetF.l0 kq l0 a1 a2 x7_1 x8_1 = some r) ∧ Aside0 (kq ≤ k) ∧ Aside0 (Kd.R k46 46 w' w.heap.size (fun _ => True) v7 x7_1) ∧ Aside0 (Below w.heap.size w w'))
    case atStart => exact ⟨(([] : List (S46))), (0), (by first | rfl | (simp; done) | (simp [*]; done)), H', ⟨Nat.le_refl _⟩, ⟨by first | exact Kd.R_nil _ _ _ _ _ | exact Kd.N_nil _ _ _ _ _ | exact Kd.V_nil _ _ _ _ _ | exact Kd.Q_nil _ _ _ _ _ | exact Kd.S_nil _ _ _ _ _⟩, ⟨by repeat (first | (with_reducible first | exact HB.out | apply below_alloc | apply pw_below_drewN | apply below_drew1) | exact HB.out)⟩⟩
    case round =>
      clear H'
      try clear c1
      try clear p2
      try clear c4
      try clear c4b0
      try clear c4b1
      try clear c4b2
      obtain ⟨x7_1, x8_1, rfl, HA, HK1, HO_7, HB⟩ := hrel
      cases gk with
      | zero => exact absurd HA.out (by simp [cadencyref04_SetF.l0])
      | succ k1 =>
        have H := HA.out
        clear HA
        simp only [cadencyref04_SetF.l0] at H
        have HC5 := Aside0.mk H
        clear H
        go_upto_region 5 with (fail)
        go_cut [30] (fun v30 wc => ∃ (kq : Nat) (x30_4 : Bool), v30 = .bool x30_4 ∧ Aside0 (cadencyref04_SetF.j1 kq l0 a1 a2 x7_1 x8_1 x30_4 = some r) ∧ Aside0 (kq ≤ k1) ∧ Aside0 (Kd.R k46 46 wc w.heap.size (fun _ => True) u7 x7_1) ∧ Aside0 (Below w.heap.size w wc))
        case first =>
          have H := HC5.out
          clear HC5
          by_cases c6 : x8_1 < (l0.length : Int)
          · rw [if_pos c6] at H
            have c6b0 : decide (x8_1 < (l0.length : Int)) = true := decide_eq_true c6
            clear c6
            (first | rw [c6b0] | (simp only [i64_w, i32_w]; rw [c6b0]) | skip)
            have H' := Aside0.mk H
            clear H
            go_wp2
            go_meet
            case rel => exact ⟨_, (decide (x8_1 < a1)), (by first | rfl | (simp; done) | (simp [*]; done)), H', ⟨by have := HK1.out; first | omega | exact Nat.le_refl _⟩, ⟨by (with_reducible repeat (first | apply Kd.R_alloc | apply Kd.R_drewN | apply Kd.R_drew)); exact HO_7.out⟩, ⟨by repeat (first | (with_reducible first | exact HB.out | apply below_alloc | apply pw_below_drewN | apply below_drew1) | exact HB.out)⟩⟩
          · rw [if_neg c6] at H
            have c6b0 : decide (x8_1 < (l0.length : Int)) = false := decide_eq_false c6
            clear c6
            (first | rw [c6b0] | (simp only [i64_w, i32_w]; rw [c6b0]) | skip)
            have H' := Aside0.mk H
            clear H
            go_wp2
            go_meet
            case rel => exact ⟨_, (false), (by first | rfl | (simp; done) | (simp [*]; done)), H', ⟨by have := HK1.out; first | omega | exact Nat.le_refl _⟩, ⟨by (with_reducible repeat (first | apply Kd.R_alloc | apply Kd.R_drewN | apply Kd.R_drew)); exact HO_7.out⟩, ⟨by repeat (first | (with_reducible first | exact HB.out | apply below_alloc | apply pw_below_drewN | apply below_drew1) | exact HB.out)⟩⟩
        case rest =>
          clear HC5
          try clear c1
          try clear p2
          try clear c4
          try clear c4b0
          try clear c4b1
          try clear c4b2
          try clear c6
          try clear c6b0
          try clear p2
          obtain ⟨kq, x30_4, rfl, HA, HJ4, HO_7, HB⟩ := hcut
          cases kq with
          | zero => exact absurd HA.out (by simp [cadencyref04_SetF.j1])
          | succ kj4 =>
            have H := HA.out
            clear HA
            simp only [cadencyref04_SetF.j1] at H
            by_cases c7 : x30_4 = true
            · subst c7
              have H1 : (if 0 ≤ x8_1 then (if x8_1 < (l0.length : Int) then ((cadencyref04_rest.f ((rd_T52 l0 x8_1).f0) 4).bind fun t139 => ((cadencyref04_rest.f ((rd_T52 l0 x8_1).f1) 11).bind fun t141 => ((cadencyref04_rest.f ((rd_T52 l0 x8_1).f2) (wrap64 ((wrap64 ((wrap64 ((wrap64 (1 + t139)) + t141)) - (wrap64 (1 + t139)))) + 1))).bind fun t143 => ((cadencyref04_rest.f ((rd_T52 l0 x8_1).f4) 7).bind fun t145 => ((cadencyref04_rest.f ((rd_T52 l0 x8_1).f3) (wrap64 (1 + t139))).bind fun t147 => ((some (([(wrap64 (97 + x8_1)) % 256] : List Int) : List Int)).bind fun y148 => (if 1 + (strOfNums y148).size ≤ 9223372036854775807 then (if x7_1.length < 2199023255552 then (cadencyref04_SetF.l0 kj4 l0 a1 a2 (x7_1 ++ [(⟨(⟨#[116]⟩ : ByteArray) ++ (strOfNums y148), wrap64 (1 + t139), wrap64 ((wrap64 ((wrap64 (1 + t139)) + t141)) + t145), wrap64 ((wrap64 (1 + t139)) + t141), t143, wrap64 (1 + t147), 0⟩ : S46)]) (wrap64 (x8_1 + 1))) else (none)) else (none)))))))) else (none)) else (none)) = some r := by rw [if_pos rfl] at H; exact H
              clear H
              have H := H1
              clear H1
              by_cases c8 : 0 ≤ x8_1
              · rw [if_pos c8] at H
                have c8b0 : decide (0 ≤ x8_1) = true := decide_eq_true c8
                clear c8
                by_cases c9 : x8_1 < (l0.length : Int)
                · rw [if_pos c9] at H
                  have c9b0 : decide (x8_1 < (l0.length : Int)) = true := decide_eq_true c9
                  clear c9
                  replace H := Option.bind_eq_some_iff.mp H
                  obtain ⟨t139, A100, H⟩ := H
                  replace H : ((cadencyref04_rest.f ((rd_T52 l0 x8_1).f1) 11).bind fun t141 => ((cadencyref04_rest.f ((rd_T52 l0 x8_1).f2) (wrap64 ((wrap64 ((wrap64 ((wrap64 (1 + t139)) + t141)) - (wrap64 (1 + t139)))) + 1))).bind fun t143 => ((cadencyref04_rest.f ((rd_T52 l0 x8_1).f4) 7).bind fun t145 => ((cadencyref04_rest.f ((rd_T52 l0 x8_1).f3) (wrap64 (1 + t139))).bind fun t147 => ((some (([(wrap64 (97 + x8_1)) % 256] : List Int) : List Int)).bind fun y148 => (if 1 + (strOfNums y148).size ≤ 9223372036854775807 then (if x7_1.length < 2199023255552 then (cadencyref04_SetF.l0 kj4 l0 a1 a2 (x7_1 ++ [(⟨(⟨#[116]⟩ : ByteArray) ++ (strOfNums y148), wrap64 (1 + t139), wrap64 ((wrap64 ((wrap64 (1 + t139)) + t141)) + t145), wrap64 ((wrap64 (1 + t139)) + t141), t143, wrap64 (1 + t147), 0⟩ : S46)]) (wrap64 (x8_1 + 1))) else (none)) else (none))))))) = some r := H
                  have A10 := Aside0.mk A100
                  clear A100
                  replace H := Option.bind_eq_some_iff.mp H
                  obtain ⟨t141, A110, H⟩ := H
                  replace H : ((cadencyref04_rest.f ((rd_T52 l0 x8_1).f2) (wrap64 ((wrap64 ((wrap64 ((wrap64 (1 + t139)) + t141)) - (wrap64 (1 + t139)))) + 1))).bind fun t143 => ((cadencyref04_rest.f ((rd_T52 l0 x8_1).f4) 7).bind fun t145 => ((cadencyref04_rest.f ((rd_T52 l0 x8_1).f3) (wrap64 (1 + t139))).bind fun t147 => ((some (([(wrap64 (97 + x8_1)) % 256] : List Int) : List Int)).bind fun y148 => (if 1 + (strOfNums y148).size ≤ 9223372036854775807 then (if x7_1.length < 2199023255552 then (cadencyref04_SetF.l0 kj4 l0 a1 a2 (x7_1 ++ [(⟨(⟨#[116]⟩ : ByteArray) ++ (strOfNums y148), wrap64 (1 + t139), wrap64 ((wrap64 ((wrap64 (1 + t139)) + t141)) + t145), wrap64 ((wrap64 (1 + t139)) + t141), t143, wrap64 (1 + t147), 0⟩ : S46)]) (wrap64 (x8_1 + 1))) else (none)) else (none)))))) = some r := H
                  have A11 := Aside0.mk A110
                  clear A110
                  replace H := Option.bind_eq_some_iff.mp H
                  obtain ⟨t143, A120, H⟩ := H
                  replace H : ((cadencyref04_rest.f ((rd_T52 l0 x8_1).f4) 7).bind fun t145 => ((cadencyref04_rest.f ((rd_T52 l0 x8_1).f3) (wrap64 (1 + t139))).bind fun t147 => ((some (([(wrap64 (97 + x8_1)) % 256] : List Int) : List Int)).bind fun y148 => (if 1 + (strOfNums y148).size ≤ 9223372036854775807 then (if x7_1.length < 2199023255552 then (cadencyref04_SetF.l0 kj4 l0 a1 a2 (x7_1 ++ [(⟨(⟨#[116]⟩ : ByteArray) ++ (strOfNums y148), wrap64 (1 + t139), wrap64 ((wrap64 ((wrap64 (1 + t139)) + t141)) + t145), wrap64 ((wrap64 (1 + t139)) + t141), t143, wrap64 (1 + t147), 0⟩ : S46)]) (wrap64 (x8_1 + 1))) else (none)) else (none))))) = some r := H
                  have A12 := Aside0.mk A120
                  clear A120
                  replace H := Option.bind_eq_some_iff.mp H
                  obtain ⟨t145, A130, H⟩ := H
                  replace H : ((cadencyref04_rest.f ((rd_T52 l0 x8_1).f3) (wrap64 (1 + t139))).bind fun t147 => ((some (([(wrap64 (97 + x8_1)) % 256] : List Int) : List Int)).bind fun y148 => (if 1 + (strOfNums y148).size ≤ 9223372036854775807 then (if x7_1.length < 2199023255552 then (cadencyref04_SetF.l0 kj4 l0 a1 a2 (x7_1 ++ [(⟨(⟨#[116]⟩ : ByteArray) ++ (strOfNums y148), wrap64 (1 + t139), wrap64 ((wrap64 ((wrap64 (1 + t139)) + t141)) + t145), wrap64 ((wrap64 (1 + t139)) + t141), t143, wrap64 (1 + t147), 0⟩ : S46)]) (wrap64 (x8_1 + 1))) else (none)) else (none)))) = some r := H
                  have A13 := Aside0.mk A130
                  clear A130
                  replace H := Option.bind_eq_some_iff.mp H
                  obtain ⟨t147, A140, H⟩ := H
                  replace H : ((some (([(wrap64 (97 + x8_1)) % 256] : List Int) : List Int)).bind fun y148 => (if 1 + (strOfNums y148).size ≤ 9223372036854775807 then (if x7_1.length < 2199023255552 then (cadencyref04_SetF.l0 kj4 l0 a1 a2 (x7_1 ++ [(⟨(⟨#[116]⟩ : ByteArray) ++ (strOfNums y148), wrap64 (1 + t139), wrap64 ((wrap64 ((wrap64 (1 + t139)) + t141)) + t145), wrap64 ((wrap64 (1 + t139)) + t141), t143, wrap64 (1 + t147), 0⟩ : S46)]) (wrap64 (x8_1 + 1))) else (none)) else (none))) = some r := H
                  have A14 := Aside0.mk A140
                  clear A140
                  obtain ⟨y148, hy148⟩ : ∃ y_ : List Int, y_ = (([(wrap64 (97 + x8_1)) % 256] : List Int)) := ⟨_, rfl⟩
                  replace H : (if 1 + (strOfNums y148).size ≤ 9223372036854775807 then (if x7_1.length < 2199023255552 then (cadencyref04_SetF.l0 kj4 l0 a1 a2 (x7_1 ++ [(⟨(⟨#[116]⟩ : ByteArray) ++ (strOfNums y148), wrap64 (1 + t139), wrap64 ((wrap64 ((wrap64 (1 + t139)) + t141)) + t145), wrap64 ((wrap64 (1 + t139)) + t141), t143, wrap64 (1 + t147), 0⟩ : S46)]) (wrap64 (x8_1 + 1))) else (none)) else (none)) = some r := by first | (rw [hy148]; with_reducible exact H) | (have H2_ := (Option.bind_some _ _).symm.trans H; rw [hy148]; with_reducible exact H2_) | (have H2_ := (Option.bind_some _ _).symm.trans H; with_reducible exact H2_) | with_reducible exact H | (rw [hy148]; exact H) | exact H
                  have Ny148 := Aside0.mk hy148
                  clear hy148
                  by_cases c15 : 1 + (strOfNums y148).size ≤ 9223372036854775807
                  · rw [if_pos c15] at H
                    have c15b0 := eq_true c15
                    have c15b1 : decide (1 + (strOfNums y148).size ≤ 9223372036854775807) = true := decide_eq_true c15
                    try have c15b2 : (9223372036854775807 < 1 + (strOfNums y148).size) = False := eq_false (Nat.not_lt.2 c15)
                    by_cases c16 : x7_1.length < 2199023255552
                    · rw [if_pos c16] at H
                      have LMc16 := Aside0.mk c16
                      clear c16
                      obtain ⟨y151, hy151⟩ : ∃ y_ : List (S46), y_ = (x7_1 ++ [(⟨(⟨#[116]⟩ : ByteArray) ++ (strOfNums y148), wrap64 (1 + t139), wrap64 ((wrap64 ((wrap64 (1 + t139)) + t141)) + t145), wrap64 ((wrap64 (1 + t139)) + t141), t143, wrap64 (1 + t147), 0⟩ : S46)]) := ⟨_, rfl⟩
                      replace H : (cadencyref04_SetF.l0 kj4 l0 a1 a2 y151 (wrap64 (x8_1 + 1))) = some r := by first | (rw [hy151]; with_reducible exact H) | (have H2_ := (Option.bind_some _ _).symm.trans H; rw [hy151]; with_reducible exact H2_) | (have H2_ := (Option.bind_some _ _).symm.trans H; with_reducible exact H2_) | with_reducible exact H | (rw [hy151]; exact H) | exact H
                      have Ny151 := Aside0.mk hy151
                      clear hy151
                      have H' := Aside0.mk H
                      clear H
                      have p138 : 0 ≤ (x8_1 : Int) := of_decide_eq_true (by first | (with_reducible assumption) | assumption)
                      have q138 : x8_1 < (l0.length : Int) := of_decide_eq_true (by first | (with_reducible assumption) | assumption)
                      obtain ⟨ad138, e138, hx138_0, hx138_1, hx138_2, hx138_3, hx138_4⟩ := at_T52 HR0.out x8_1 p138 q138
                      cases e138
                      replace hx138_0 := (HB.out.cell (World.block_lt_of_cell? w _ hx138_0)).trans hx138_0
                      replace hx138_1 := (HB.out.cell (World.block_lt_of_cell? w _ hx138_1)).trans hx138_1
                      replace hx138_2 := (HB.out.cell (World.block_lt_of_cell? w _ hx138_2)).trans hx138_2
                      replace hx138_3 := (HB.out.cell (World.block_lt_of_cell? w _ hx138_3)).trans hx138_3
                      replace hx138_4 := (HB.out.cell (World.block_lt_of_cell? w _ hx138_4)).trans hx138_4
                      replace p138 := eq_true p138
                      replace q138 := eq_true q138
                      go_wp2_with (first | ((with_reducible refine gate_callee (f := 23) rfl ?_); refine goesL_ (some 38) rfl rfl Try.func23 (by kernel_rfl) rfl #[.int .i64 ((rd_T52 l0 x8_1).f0), .int .i64 4] rfl (by (try simp only [List.map_toArray, List.map_cons, List.map_nil]); first | done | rfl | (simp only [List.length_drop, List.length_take]; rfl)) ?_; (with_reducible refine (cadencyref04_rest.calls ((rd_T52 l0 x8_1).f0) 4 t139 _ A10.out).mono ?_); rintro e w' ⟨rfl, ⟨nd, rfl⟩⟩; refine ⟨_, rfl, ?_⟩; have p140 : 0 ≤ (x8_1 : Int) := of_decide_eq_true (by first | (with_reducible assumption) | assumption); have q140 : x8_1 < (l0.length : Int) := of_decide_eq_true (by first | (with_reducible assumption) | assumption); obtain ⟨ad140, e140, hx140_0, hx140_1, hx140_2, hx140_3, hx140_4⟩ := at_T52 HR0.out x8_1 p140 q140; obtain rfl : ad138 = ad140 := (by injection e140); replace hx140_0 := (HB.out.cell (World.block_lt_of_cell? w _ hx140_0)).trans hx140_0; replace hx140_1 := (HB.out.cell (World.block_lt_of_cell? w _ hx140_1)).trans hx140_1; replace hx140_2 := (HB.out.cell (World.block_lt_of_cell? w _ hx140_2)).trans hx140_2; replace hx140_3 := (HB.out.cell (World.block_lt_of_cell? w _ hx140_3)).trans hx140_3; replace hx140_4 := (HB.out.cell (World.block_lt_of_cell? w _ hx140_4)).trans hx140_4; replace p140 := eq_true p140; replace q140 := eq_true q140) | ((with_reducible refine gate_callee (f := 23) rfl ?_); refine goesL_ (some 46) rfl rfl Try.func23 (by kernel_rfl) rfl #[.int .i64 ((rd_T52 l0 x8_1).f1), .int .i64 11] rfl (by (try simp only [List.map_toArray, List.map_cons, List.map_nil]); first | done | rfl | (simp only [List.length_drop, List.length_take]; rfl)) ?_; (with_reducible refine (cadencyref04_rest.calls ((rd_T52 l0 x8_1).f1) 11 t141 _ A11.out).mono ?_); rintro e w' ⟨rfl, ⟨nd, rfl⟩⟩; refine ⟨_, rfl, ?_⟩; have p142 : 0 ≤ (x8_1 : Int) := of_decide_eq_true (by first | (with_reducible assumption) | assumption); have q142 : x8_1 < (l0.length : Int) := of_decide_eq_true (by first | (with_reducible assumption) | assumption); obtain ⟨ad142, e142, hx142_0, hx142_1, hx142_2, hx142_3, hx142_4⟩ := at_T52 HR0.out x8_1 p142 q142; obtain rfl : ad138 = ad142 := (by injection e142); replace hx142_0 := (HB.out.cell (World.block_lt_of_cell? w _ hx142_0)).trans hx142_0; replace hx142_1 := (HB.out.cell (World.block_lt_of_cell? w _ hx142_1)).trans hx142_1; replace hx142_2 := (HB.out.cell (World.block_lt_of_cell? w _ hx142_2)).trans hx142_2; replace hx142_3 := (HB.out.cell (World.block_lt_of_cell? w _ hx142_3)).trans hx142_3; replace hx142_4 := (HB.out.cell (World.block_lt_of_cell? w _ hx142_4)).trans hx142_4; replace p142 := eq_true p142; replace q142 := eq_true q142) | ((with_reducible refine gate_callee (f := 23) rfl ?_); refine goesL_ (some 57) rfl rfl Try.func23 (by kernel_rfl) rfl #[.int .i64 ((rd_T52 l0 x8_1).f2), .int .i64 (wrap64 ((wrap64 ((wrap64 ((wrap64 (1 + t139)) + t141)) - (wrap64 (1 + t139)))) + 1))] rfl (by (try simp only [List.map_toArray, List.map_cons, List.map_nil]); first | done | rfl | (simp only [List.length_drop, List.length_take]; rfl)) ?_; (with_reducible refine (cadencyref04_rest.calls ((rd_T52 l0 x8_1).f2) (wrap64 ((wrap64 ((wrap64 ((wrap64 (1 + t139)) + t141)) - (wrap64 (1 + t139)))) + 1)) t143 _ A12.out).mono ?_); rintro e w' ⟨rfl, ⟨nd, rfl⟩⟩; refine ⟨_, rfl, ?_⟩; have p144 : 0 ≤ (x8_1 : Int) := of_decide_eq_true (by first | (with_reducible assumption) | assumption); have q144 : x8_1 < (l0.length : Int) := of_decide_eq_true (by first | (with_reducible assumption) | assumption); obtain ⟨ad144, e144, hx144_0, hx144_1, hx144_2, hx144_3, hx144_4⟩ := at_T52 HR0.out x8_1 p144 q144; obtain rfl : ad138 = ad144 := (by injection e144); replace hx144_0 := (HB.out.cell (World.block_lt_of_cell? w _ hx144_0)).trans hx144_0; replace hx144_1 := (HB.out.cell (World.block_lt_of_cell? w _ hx144_1)).trans hx144_1; replace hx144_2 := (HB.out.cell (World.block_lt_of_cell? w _ hx144_2)).trans hx144_2; replace hx144_3 := (HB.out.cell (World.block_lt_of_cell? w _ hx144_3)).trans hx144_3; replace hx144_4 := (HB.out.cell (World.block_lt_of_cell? w _ hx144_4)).trans hx144_4; replace p144 := eq_true p144; replace q144 := eq_true q144) | ((with_reducible refine gate_callee (f := 23) rfl ?_); refine goesL_ (some 64) rfl rfl Try.func23 (by kernel_rfl) rfl #[.int .i64 ((rd_T52 l0 x8_1).f4), .int .i64 7] rfl (by (try simp only [List.map_toArray, List.map_cons, List.map_nil]); first | done | rfl | (simp only [List.length_drop, List.length_take]; rfl)) ?_; (with_reducible refine (cadencyref04_rest.calls ((rd_T52 l0 x8_1).f4) 7 t145 _ A13.out).mono ?_); rintro e w' ⟨rfl, ⟨nd, rfl⟩⟩; refine ⟨_, rfl, ?_⟩; have p146 : 0 ≤ (x8_1 : Int) := of_decide_eq_true (by first | (with_reducible assumption) | assumption); have q146 : x8_1 < (l0.length : Int) := of_decide_eq_true (by first | (with_reducible assumption) | assumption); obtain ⟨ad146, e146, hx146_0, hx146_1, hx146_2, hx146_3, hx146_4⟩ := at_T52 HR0.out x8_1 p146 q146; obtain rfl : ad138 = ad146 := (by injection e146); replace hx146_0 := (HB.out.cell (World.block_lt_of_cell? w _ hx146_0)).trans hx146_0; replace hx146_1 := (HB.out.cell (World.block_lt_of_cell? w _ hx146_1)).trans hx146_1; replace hx146_2 := (HB.out.cell (World.block_lt_of_cell? w _ hx146_2)).trans hx146_2; replace hx146_3 := (HB.out.cell (World.block_lt_of_cell? w _ hx146_3)).trans hx146_3; replace hx146_4 := (HB.out.cell (World.block_lt_of_cell? w _ hx146_4)).trans hx146_4; replace p146 := eq_true p146; replace q146 := eq_true q146) | ((with_reducible refine gate_callee (f := 23) rfl ?_); refine goesL_ (some 72) rfl rfl Try.func23 (by kernel_rfl) rfl #[.int .i64 ((rd_T52 l0 x8_1).f3), .int .i64 (wrap64 (1 + t139))] rfl (by (try simp only [List.map_toArray, List.map_cons, List.map_nil]); first | done | rfl | (simp only [List.length_drop, List.length_take]; rfl)) ?_; (with_reducible refine (cadencyref04_rest.calls ((rd_T52 l0 x8_1).f3) (wrap64 (1 + t139)) t147 _ A14.out).mono ?_); rintro e w' ⟨rfl, ⟨nd, rfl⟩⟩; refine ⟨_, rfl, ?_⟩) | ((with_reducible refine gate_dst (N := 78) rfl ?_); refine Kd.R_lit (Kd.int .u8) _ 5 ?hg (N := 78) ?hd (xs := ([(wrap64 (97 + x8_1)) % 256] : List Int)) (inner := [.int .u8 ((wrap64 (97 + x8_1)) % 256)]) (ok := fun _ => True) (okp := fun _ => True) ?hr ?hp (fun _ hk => hk) trivial (Below.refl _ _) (Nat.le_refl _) (by simp) ?_; (case hd => rfl); (case hg => rfl); (case hr => first | (go_simp; done) | (go_simp; rfl)); (case hp => exact (Reps.one (show Kd.M (Kd.int .u8) _ _ _ ((wrap64 (97 + x8_1)) % 256) [.int .u8 ((wrap64 (97 + x8_1)) % 256)] from rfl) (Reps.none _ _))); intro v149 w17 ho18 hb hg_ hnew_; clear hg_ hnew_; (first | rw [← Ny148.out] at ho18 | (simp only [Int.reduceToNat] at ho18; rw [← Ny148.out] at ho18)); have n0_ := Aside0.mk (Kd.R_below (by (with_reducible repeat (first | apply Kd.R_alloc | apply Kd.R_drewN | apply Kd.R_drew)); exact HO_7.out) hb); have n1_ := Aside0.mk (Kd.R_lower ho18 (below_size (by repeat (first | (with_reducible first | exact HB.out | apply below_alloc | apply pw_below_drewN | apply below_drew1) | exact HB.out)))); have n2_ := Aside0.mk (below_step (by repeat (first | (with_reducible first | exact HB.out | apply below_alloc | apply pw_below_drewN | apply below_drew1) | exact HB.out)) hb); clear HO_7; clear HB; have HO_7 := n0_; have HO150 := n1_; have HB := n2_; clear n0_ n1_ n2_; clear hb ho18; have hcv19 := own_string (P := Try.prog) Try.underlying53 Try.underlying5 Try.underlying9 (Kd.own_of_R HO150.out)) | ((with_reducible refine gate_builtin (b := .append) (xs := #[.tmp 74, .tmp 87]) rfl ?_); at_builtin; refine Kd.R_append k46 (w0 := w) w.heap.size rfl (.tmp 74) (.tmp 87) 24 46 (.agg #[(.string ⟨#[]⟩), (.int .i64 0), (.int .i64 0), (.int .i64 0), (.int .i64 0), (.int .i64 0), (.int .i64 0)]) 64 rfl Try.underlying24 info46 rfl (by decide) (by omega) u7 x7_1 (⟨(⟨#[116]⟩ : ByteArray) ++ (strOfNums y148), wrap64 (1 + t139), wrap64 ((wrap64 ((wrap64 (1 + t139)) + t141)) + t145), wrap64 ((wrap64 (1 + t139)) + t141), t143, wrap64 (1 + t147), 0⟩ : S46) [.string ((⟨#[116]⟩ : ByteArray) ++ (strOfNums y148)), .int .i64 (wrap64 (1 + t139)), .int .i64 (wrap64 ((wrap64 ((wrap64 (1 + t139)) + t141)) + t145)), .int .i64 (wrap64 ((wrap64 (1 + t139)) + t141)), .int .i64 t143, .int .i64 (wrap64 (1 + t147)), .int .i64 0] (fun _ => True) (fun _ => False) rfl rfl ?aP (fun _ hk => hk.elim) ?aF ?aO ?aB ?aS ?aL ?_; (case aP => exact k46_mkM _ _ _ (⟨(⟨#[116]⟩ : ByteArray) ++ (strOfNums y148), wrap64 (1 + t139), wrap64 ((wrap64 ((wrap64 (1 + t139)) + t141)) + t145), wrap64 ((wrap64 (1 + t139)) + t141), t143, wrap64 (1 + t147), 0⟩ : S46)); (case aB => exact (by repeat (first | (with_reducible first | exact HB.out | apply below_alloc | apply pw_below_drewN | apply below_drew1) | exact HB.out))); (case aF => exact (fun _ _ => trivial)); (case aO => exact (by (with_reducible repeat (first | apply Kd.R_alloc | apply Kd.R_drewN | apply Kd.R_drew)); exact HO_7.out)); (case aS => exact (below_size (by repeat (first | (with_reducible first | exact HB.out | apply below_alloc | apply pw_below_drewN | apply below_drew1) | exact HB.out)))); (case aL => have := LMc16.out; omega); intro v152 w20 ho hb hg hat; rw [← Ny151.out] at ho; have n0_ := Aside0.mk (Kd.R_over' (by (with_reducible repeat (first | apply Kd.R_alloc | apply Kd.R_drewN | apply Kd.R_drew)); exact HO150.out) (Kd.R_typed (by (with_reducible repeat (first | apply Kd.R_alloc | apply Kd.R_drewN | apply Kd.R_drew)); exact HO_7.out)) (by decide) hg); have n1_ := Aside0.mk (hb); have n2_ := Aside0.mk (ho); clear HO150; clear HB; clear HO_7; have HO150 := n0_; have HB := n1_; have HO153 := n2_; clear n0_ n1_ n2_; clear ho hb hg hat))
                      go_roundg kj4
                      case measure => have := HK1.out; have := HJ4.out; omega
                      case rel => exact ⟨(y151), (wrap64 (x8_1 + 1)), (by first | rfl | (simp; done) | (simp [*]; done)), H', ⟨by have := HK1.out; have := HJ4.out; omega⟩, ⟨by (with_reducible repeat (first | apply Kd.R_alloc | apply Kd.R_drewN | apply Kd.R_drew)); exact HO153.out⟩, ⟨by repeat (first | (with_reducible first | exact HB.out | apply below_alloc | apply pw_below_drewN | apply below_drew1) | exact HB.out)⟩⟩
                    · rw [if_neg c16] at H
                      exact absurd H (by simp)
                  · rw [if_neg c15] at H
                    exact absurd H (by simp)
                · rw [if_neg c9] at H
                  exact absurd H (by simp)
              · rw [if_neg c8] at H
                exact absurd H (by simp)
            · replace c7 := Bool.eq_false_iff.mpr c7
              subst c7
              have H1 : (cadencyref04_SetF.l1 kj4 a2 x7_1 (x7_1.length : Int) 0) = some r := by rw [if_neg (show ¬ (false = true) by decide)] at H; exact H
              clear H
              have H := H1
              clear H1
              have H' := Aside0.mk H
              clear H
              obtain ⟨Ao21, co21, eo21⟩ := Kd.R_slice HO_7.out
              subst eo21
              go_wp2
              go_loopg [15] kj4 (fun kq v15 w' => ∃ (x7_3 : List (S46)) (x15_3 : Int), v15 = .int .i64 x15_3 ∧ Aside0 (cadencyref04_SetF.l1 kq a2 x7_3 (x7_1.length : Int) x15_3 = some r) ∧ Aside0 (kq ≤ kj4) ∧ Aside0 (Kd.R k46 46 w' w.heap.size (fun _ => True) (.slice Ao21 x7_1.length co21) x7_3) ∧ Aside0 (Below w.heap.size w w'))
              case atStart => exact ⟨(x7_1), (0), (by first | rfl | (simp; done) | (simp [*]; done)), H', ⟨Nat.le_refl _⟩, ⟨by (with_reducible repeat (first | apply Kd.R_alloc | apply Kd.R_drewN | apply Kd.R_drew)); exact HO_7.out⟩, ⟨by repeat (first | (with_reducible first | exact HB.out | apply below_alloc | apply pw_below_drewN | apply below_drew1) | exact HB.out)⟩⟩
              case round =>
                clear H'
                try clear c1
                try clear p1
                try clear q1
                try clear hx1
                try clear hcv1
                try clear c2
                try clear p2
                try clear c4
                try clear c4b0
                try clear c4b1
                try clear c4b2
                try clear c6
                try clear c6b0
                try clear p6
                try clear c7
                try clear c8
                try clear c8b0
                try clear c9
                try clear c9b0
                try clear c12
                try clear p13
                try clear q13
                try clear hx13
                try clear p14
                try clear q14
                try clear hx14
                try clear c15
                try clear c15b0
                try clear c15b1
                try clear c15b2
                try clear c16
                try clear hcv19
                try clear hx138_0
                try clear hx138_1
                try clear hx138_2
                try clear hx138_3
                try clear hx138_4
                try clear hx140_0
                try clear hx140_1
                try clear hx140_2
                try clear hx140_3
                try clear hx140_4
                try clear hx142_0
                try clear hx142_1
                try clear hx142_2
                try clear hx142_3
                try clear hx142_4
                try clear hx144_0
                try clear hx144_1
                try clear hx144_2
                try clear hx144_3
                try clear hx144_4
                try clear hx146_0
                try clear hx146_1
                try clear hx146_2
                try clear hx146_3
                try clear hx146_4
                try clear p138
                try clear p140
                try clear p142
                try clear p144
                try clear p146
                try clear p2
                try clear q138
                try clear q140
                try clear q142
                try clear q144
                try clear q146
                obtain ⟨x7_3, x15_3, rfl, HA, HK3, HO_7, HB⟩ := hrel
                have hl7_3 := (Kd.R_reads' HO_7.out).1
                rw [hl7_3] at HO_7
                (try simp only [hl7_3])
                cases gk with
                | zero => exact absurd HA.out (by simp [cadencyref04_SetF.l1])
                | succ k3 =>
                  have H := HA.out
                  clear HA
                  simp only [cadencyref04_SetF.l1] at H
                  by_cases c22 : x15_3 < (x7_1.length : Int)
                  · rw [if_pos c22] at H
                    have c22b0 : decide (x15_3 < (x7_1.length : Int)) = true := decide_eq_true c22
                    clear c22
                    replace H := Option.bind_eq_some_iff.mp H
                    obtain ⟨t154, A230, H⟩ := H
                    replace H : ((cadencyref04_rest.f a2 (x7_1.length : Int)).bind fun t155 => (if (x7_1.length : Int) = 0 then (none) else (if 0 ≤ x15_3 then (if x15_3 < (x7_3.length : Int) then (cadencyref04_SetF.l1 k3 a2 (x7_3.set (x15_3 : Int).toNat (⟨(rd_T46 x7_3 x15_3).f0, (rd_T46 x7_3 x15_3).f1, (rd_T46 x7_3 x15_3).f2, (rd_T46 x7_3 x15_3).f3, (rd_T46 x7_3 x15_3).f4, (rd_T46 x7_3 x15_3).f5, wrap64 (1 + (Int.tmod (wrap64 ((wrap64 (x15_3 * t154)) + t155)) (x7_1.length : Int)))⟩ : S46)) (x7_1.length : Int) (wrap64 (x15_3 + 1))) else (none)) else (none)))) = some r := H
                    have A23 := Aside0.mk A230
                    clear A230
                    replace H := Option.bind_eq_some_iff.mp H
                    obtain ⟨t155, A240, H⟩ := H
                    replace H : (if (x7_1.length : Int) = 0 then (none) else (if 0 ≤ x15_3 then (if x15_3 < (x7_3.length : Int) then (cadencyref04_SetF.l1 k3 a2 (x7_3.set (x15_3 : Int).toNat (⟨(rd_T46 x7_3 x15_3).f0, (rd_T46 x7_3 x15_3).f1, (rd_T46 x7_3 x15_3).f2, (rd_T46 x7_3 x15_3).f3, (rd_T46 x7_3 x15_3).f4, (rd_T46 x7_3 x15_3).f5, wrap64 (1 + (Int.tmod (wrap64 ((wrap64 (x15_3 * t154)) + t155)) (x7_1.length : Int)))⟩ : S46)) (x7_1.length : Int) (wrap64 (x15_3 + 1))) else (none)) else (none))) = some r := H
                    have A24 := Aside0.mk A240
                    clear A240
                    by_cases c25 : (x7_1.length : Int) = 0
                    · rw [if_pos c25] at H
                      exact absurd H (by simp)
                    · rw [if_neg c25] at H
                      have c25b0 : ((x7_1.length : Int) == 0) = false := beq_eq_false_iff_ne.mpr c25
                      have c25b1 : ((x7_1.length : Int) != 0) = true := bne_iff_ne.mpr c25
                      have c25b2 : ¬ (x7_1 = []) := fun h_ => c25 (by rw [h_]; rfl)
                      by_cases c26 : 0 ≤ x15_3
                      · rw [if_pos c26] at H
                        have c26b0 : decide (0 ≤ x15_3) = true := decide_eq_true c26
                        clear c26
                        by_cases c27 : x15_3 < (x7_3.length : Int)
                        · rw [if_pos c27] at H
                          have c27b0 : decide (x15_3 < (x7_3.length : Int)) = true := decide_eq_true c27
                          clear c27
                          obtain ⟨y156, hy156⟩ : ∃ y_ : List (S46), y_ = (x7_3.set (x15_3 : Int).toNat (⟨(rd_T46 x7_3 x15_3).f0, (rd_T46 x7_3 x15_3).f1, (rd_T46 x7_3 x15_3).f2, (rd_T46 x7_3 x15_3).f3, (rd_T46 x7_3 x15_3).f4, (rd_T46 x7_3 x15_3).f5, wrap64 (1 + (Int.tmod (wrap64 ((wrap64 (x15_3 * t154)) + t155)) (x7_1.length : Int)))⟩ : S46)) := ⟨_, rfl⟩
                          replace H : (cadencyref04_SetF.l1 k3 a2 y156 (x7_1.length : Int) (wrap64 (x15_3 + 1))) = some r := by first | (rw [hy156]; with_reducible exact H) | (have H2_ := (Option.bind_some _ _).symm.trans H; rw [hy156]; with_reducible exact H2_) | (have H2_ := (Option.bind_some _ _).symm.trans H; with_reducible exact H2_) | with_reducible exact H | (rw [hy156]; exact H) | exact H
                          (try rw [hl7_3] at hy156)
                          have Ny156 := Aside0.mk hy156
                          clear hy156
                          have H' := Aside0.mk H
                          clear H
                          go_wp2_with (first | ((with_reducible refine gate_callee (f := 24) rfl ?_); refine goesL_ (some 101) rfl rfl Try.func24 (by kernel_rfl) rfl #[.int .i64 (x7_3.length : Int), .int .i64 a2] rfl (by (try simp only [List.map_toArray, List.map_cons, List.map_nil]); first | done | rfl | (simp only [List.length_drop, List.length_take]; rfl)) ?_; (with_reducible refine (cadencyref04_turns.calls (x7_3.length : Int) a2 t154 _ (by rw [← hl7_3]; exact A23.out)).mono ?_); rintro e w' ⟨rfl, ⟨nd, rfl⟩⟩; refine ⟨_, rfl, ?_⟩; (try (rw [drewN_self wr]; generalize hq_ : World.drewN wr _ = wr; have n0_ : Aside0 (Kd.R k46 46 wr w.heap.size (fun _ => True) (.slice Ao21 x7_3.length co21) x7_3) := ⟨by rw [← hq_]; exact (by (with_reducible repeat (first | apply Kd.R_alloc | apply Kd.R_drewN | apply Kd.R_drew)); exact HO_7.out)⟩; have n1_ : Aside0 (Below w.heap.size w wr) := ⟨by rw [← hq_]; exact (by repeat (first | (with_reducible first | exact HB.out | apply below_alloc | apply pw_below_drewN | apply below_drew1) | exact HB.out))⟩; clear HO_7 HB hq_; have HO_7 := n0_; have HB := n1_; clear n0_ n1_))) | ((with_reducible refine gate_callee (f := 23) rfl ?_); refine goesL_ (some 105) rfl rfl Try.func23 (by kernel_rfl) rfl #[.int .i64 a2, .int .i64 (x7_3.length : Int)] rfl (by (try simp only [List.map_toArray, List.map_cons, List.map_nil]); first | done | rfl | (simp only [List.length_drop, List.length_take]; rfl)) ?_; (with_reducible refine (cadencyref04_rest.calls a2 (x7_3.length : Int) t155 _ (by rw [← hl7_3]; exact A24.out)).mono ?_); rintro e w' ⟨rfl, ⟨nd, rfl⟩⟩; refine ⟨_, rfl, ?_⟩; (try (rw [drewN_self wr]; generalize hq_ : World.drewN wr _ = wr; have n0_ : Aside0 (Kd.R k46 46 wr w.heap.size (fun _ => True) (.slice Ao21 x7_3.length co21) x7_3) := ⟨by rw [← hq_]; exact (by (with_reducible repeat (first | apply Kd.R_alloc | apply Kd.R_drewN | apply Kd.R_drew)); exact HO_7.out)⟩; have n1_ : Aside0 (Below w.heap.size w wr) := ⟨by rw [← hq_]; exact (by repeat (first | (with_reducible first | exact HB.out | apply below_alloc | apply pw_below_drewN | apply below_drew1) | exact HB.out))⟩; clear HO_7 HB hq_; have HO_7 := n0_; have HB := n1_; clear n0_ n1_)); have p28 : 0 ≤ (x15_3 : Int) := of_decide_eq_true (by first | (with_reducible assumption) | assumption); have q28 : (x15_3 : Int) < ((x7_3.length : Int) : Int) := of_decide_eq_true (by first | (with_reducible assumption) | assumption); obtain ⟨go28, co28, eo28, gb28, gl28, cl28, HG28⟩ := Kd.R_form HO_7.out (by omega); (first | cases eo28 | (injection eo28 with ea_ en_ ec_; (first | subst ea_ | (injection ea_ with ea_; subst ea_)); subst ec_; clear en_)); have GB28 := Aside0.mk gb28; have GG28 := Aside0.mk HG28; clear gb28 gl28 HG28; obtain ⟨ce28, hcl28, hM28, hcc28, hfr28⟩ := Kd.R_elem HO_7.out z46 (x15_3 : Int) p28 q28; obtain rfl := k46_openM hM28; have hx28_0 : wr.cell? ⟨go28, (x15_3 : Int).toNat * 7, none⟩ = some (.string ((rd_T46 x7_3 x15_3).f0)) := hcc28 0 _ rfl; have hx28_1 : wr.cell? ⟨go28, (x15_3 : Int).toNat * 7 + 1, none⟩ = some (.int .i64 ((rd_T46 x7_3 x15_3).f1)) := hcc28 1 _ rfl; have hx28_2 : wr.cell? ⟨go28, (x15_3 : Int).toNat * 7 + 2, none⟩ = some (.int .i64 ((rd_T46 x7_3 x15_3).f2)) := hcc28 2 _ rfl; have hx28_3 : wr.cell? ⟨go28, (x15_3 : Int).toNat * 7 + 3, none⟩ = some (.int .i64 ((rd_T46 x7_3 x15_3).f3)) := hcc28 3 _ rfl; have hx28_4 : wr.cell? ⟨go28, (x15_3 : Int).toNat * 7 + 4, none⟩ = some (.int .i64 ((rd_T46 x7_3 x15_3).f4)) := hcc28 4 _ rfl; have hx28_5 : wr.cell? ⟨go28, (x15_3 : Int).toNat * 7 + 5, none⟩ = some (.int .i64 ((rd_T46 x7_3 x15_3).f5)) := hcc28 5 _ rfl; have hx28_6 : wr.cell? ⟨go28, (x15_3 : Int).toNat * 7 + 6, none⟩ = some (.int .i64 ((rd_T46 x7_3 x15_3).f6)) := hcc28 6 _ rfl; have hf28_0 : wr.frozen? ⟨go28, (x15_3 : Int).toNat * 7, none⟩ = false := hfr28 0; have hf28_1 : wr.frozen? ⟨go28, (x15_3 : Int).toNat * 7 + 1, none⟩ = false := hfr28 1; have hf28_2 : wr.frozen? ⟨go28, (x15_3 : Int).toNat * 7 + 2, none⟩ = false := hfr28 2; have hf28_3 : wr.frozen? ⟨go28, (x15_3 : Int).toNat * 7 + 3, none⟩ = false := hfr28 3; have hf28_4 : wr.frozen? ⟨go28, (x15_3 : Int).toNat * 7 + 4, none⟩ = false := hfr28 4; have hf28_5 : wr.frozen? ⟨go28, (x15_3 : Int).toNat * 7 + 5, none⟩ = false := hfr28 5; have hf28_6 : wr.frozen? ⟨go28, (x15_3 : Int).toNat * 7 + 6, none⟩ = false := hfr28 6; clear hcl28 hcc28 hfr28 hM28; replace p28 := eq_true p28; replace q28 := eq_true q28; have HX29 := Aside0.mk (show Kd.R k46 46 wr w.heap.size (fun _ => True) (.slice (some ⟨go28, 0, none⟩) x7_3.length co21) x7_3 from (by (with_reducible repeat (first | apply Kd.R_alloc | apply Kd.R_drewN | apply Kd.R_drew)); exact HO_7.out)); obtain ⟨ce29, hcl29, hM29, hcc29, hfr29⟩ := Kd.R_elem HX29.out z46 (x15_3 : Int) (of_decide_eq_true (by first | (with_reducible assumption) | assumption)) (by have h_ : (x15_3 : Int) < ((x7_3.length : Int) : Int) := of_decide_eq_true (by first | (with_reducible assumption) | assumption); first | exact h_ | (have e_ := (Kd.R_reads' HO_7.out).1; omega) | simpa using h_); obtain rfl := k46_openM hM29; have HP29 := Kd.R_seg HX29.out (x15_3 : Int) (of_decide_eq_true (by first | (with_reducible assumption) | assumption)) (by have h_ : (x15_3 : Int) < ((x7_3.length : Int) : Int) := of_decide_eq_true (by first | (with_reducible assumption) | assumption); first | exact h_ | (have e_ := (Kd.R_reads' HO_7.out).1; omega) | simpa using h_) (seg := [.int .i64 (wrap64 (1 + (Int.tmod (wrap64 ((wrap64 (x15_3 * t154)) + t155)) (x7_3.length : Int))))]) (j := 6) hcl29 hcc29 (show 7 ≤ 7 from by decide) (x' := (⟨(rd_T46 x7_3 x15_3).f0, (rd_T46 x7_3 x15_3).f1, (rd_T46 x7_3 x15_3).f2, (rd_T46 x7_3 x15_3).f3, (rd_T46 x7_3 x15_3).f4, (rd_T46 x7_3 x15_3).f5, wrap64 (1 + (Int.tmod (wrap64 ((wrap64 (x15_3 * t154)) + t155)) (x7_3.length : Int)))⟩ : S46)) (k46_mkM _ _ _ (⟨(rd_T46 x7_3 x15_3).f0, (rd_T46 x7_3 x15_3).f1, (rd_T46 x7_3 x15_3).f2, (rd_T46 x7_3 x15_3).f3, (rd_T46 x7_3 x15_3).f4, (rd_T46 x7_3 x15_3).f5, wrap64 (1 + (Int.tmod (wrap64 ((wrap64 (x15_3 * t154)) + t155)) (x7_3.length : Int)))⟩ : S46) ) (fun _ hk => hk); have hx29_6 := hcc29 6 _ rfl; (try simp only [show (k46).sz = 7 from rfl, Nat.mul_one, Nat.add_zero] at hx29_6); have hf29_6 := hfr29 6; (try simp only [show (k46).sz = 7 from rfl, Nat.mul_one, Nat.add_zero] at hf29_6); clear hcl29 hcc29 hfr29 hM29) | ((with_reducible refine gate_store (t := 3) (p := 111) rfl ?_); refine store_event (t := 3) (p := 111) (v := ?vo_w30) (w1 := (wr.setCell ⟨go28, (x15_3 : Int).toNat * 7 + 6, none⟩ (.int .i64 (wrap64 (1 + (Int.tmod (wrap64 ((wrap64 (x15_3 * t154)) + t155)) (x7_3.length : Int))))))) ?hg ?ho ?hn ?hr ?_; (case ho => rfl); (case hg => rfl); (case hn => rfl); (case hr => first | (go_simp; done) | (go_simp; rfl)); intro w30 hw; have hg : wr.grownBy w30 (some go28) := (by rw [hw]; exact HP29.2); have hp_ : Kd.R k46 46 w30 w.heap.size (fun _ => True) (.slice (some ⟨go28, 0, none⟩) x7_3.length co21) y156 := (by rw [hw, Ny156.out]; exact HP29.1); clear HP29; have n0_ := Aside0.mk (hp_); have n1_ := Aside0.mk ((by rw [hw]; exact below_set (HB.out) GB28.out : Below w.heap.size w w30)); clear HO_7; clear HB; have HO_7 := n0_; have HB := n1_; clear n0_ n1_; clear hg hw hp_))
                          (try simp only [← hl7_3])
                          go_roundg k3
                          case measure => have := HK1.out; have := HJ4.out; have := HK3.out; omega
                          case rel => exact ⟨(y156), (wrap64 (x15_3 + 1)), (by first | rfl | (simp; done) | (simp [*]; done)), H', ⟨by have := HK1.out; have := HJ4.out; have := HK3.out; omega⟩, ⟨by (try simp only [hl7_3]); (with_reducible repeat (first | apply Kd.R_alloc | apply Kd.R_drewN | apply Kd.R_drew)); exact HO_7.out⟩, ⟨by repeat (first | (with_reducible first | exact HB.out | apply below_alloc | apply pw_below_drewN | apply below_drew1) | exact HB.out)⟩⟩
                        · rw [if_neg c27] at H
                          exact absurd H (by simp)
                      · rw [if_neg c26] at H
                        exact absurd H (by simp)
                  · rw [if_neg c22] at H
                    have c22b0 : decide (x15_3 < (x7_1.length : Int)) = false := decide_eq_false c22
                    clear c22
                    (try rw [hl7_3] at c22b0)
                    obtain rfl := Option.some.inj H
                    go_wp2
                    go_ret
                    exact ⟨_, by first | rfl | (simp [errW_none, errW_some] <;> rfl) | (simp [*, errW_none, errW_some] <;> rfl), by (with_reducible repeat (first | apply Kd.R_alloc | apply Kd.R_drewN | apply Kd.R_drew)); exact HO_7.out, by repeat (first | (with_reducible first | exact HB.out | apply below_alloc | apply pw_below_drewN | apply below_drew1) | exact HB.out)⟩

/-! ### cadencyref04_Set: function 12, its two halves as one -/
def cadencyref04_Set.f (k : Nat) (l0 : List (S52)) (a1 : Int) (a2 : Int) : Option ((List (S46))) := if (l0.length : Int) = 0 then cadencyref04_SetT.f k l0 a1 a2 else cadencyref04_SetF.f k l0 a1 a2
theorem cadencyref04_Set.mono : ∀ (l0 : List (S52)) (a1 : Int) (a2 : Int) (k : Nat), LeO (cadencyref04_Set.f k l0 a1 a2) (cadencyref04_Set.f (k + 1) l0 a1 a2) := by
  intro l0 a1 a2 k
  unfold cadencyref04_Set.f
  exact LeO.ite (cadencyref04_SetT.mono l0 a1 a2 k) (cadencyref04_SetF.mono l0 a1 a2 k)
theorem cadencyref04_Set.calls (k : Nat) (A0 : Option Addr) (c0 : Nat) (l0 : List (S52)) (a1 : Int) (a2 : Int) (r : List (S46)) (w : World) (hr0 : Kd.C k52 w A0 l0.length l0) (hc0 : l0.length ≤ c0) (h : cadencyref04_Set.f k l0 a1 a2 = some r) :
    Calls Try.prog 12 #[.slice A0 l0.length c0, .int .i64 a1, .int .i64 a2] w fun e w' => ∃ v0_ : Value, e = .returned (v0_) ∧ Kd.R k46 46 w' w.heap.size (fun _ => True) v0_ r ∧ Below w.heap.size w w' := by
  unfold cadencyref04_Set.f at h
  split at h
  · exact cadencyref04_SetT.calls k A0 c0 l0 a1 a2 r w hr0 hc0 h
  · exact cadencyref04_SetF.calls k A0 c0 l0 a1 a2 r w hr0 hc0 h

/-! ### cadencyref03_letter: function 53 -/
def cadencyref03_letter.f (a0 : Int) : Option (Bool) := if a0 ≥ 97 then (if a0 ≤ 122 then (some true) else (if a0 ≥ 65 then (if a0 ≤ 90 then (some true) else (some (a0 == 95))) else (some (a0 == 95)))) else (if a0 ≥ 65 then (if a0 ≤ 90 then (some true) else (some (a0 == 95))) else (some (a0 == 95)))
set_option maxHeartbeats 8000000 in
set_option maxRecDepth 100000 in
theorem cadencyref03_letter.calls (a0 : Int) (r : Bool) (w : World) (h : cadencyref03_letter.f a0 = some r) :
    Calls Try.prog 53 #[.int .u8 a0] w fun e w' => e = .returned (.bool r) ∧ Drawn0 w w' := by
  have H : (if a0 ≥ 97 then (if a0 ≤ 122 then (some true) else (if a0 ≥ 65 then (if a0 ≤ 90 then (some true) else (some (a0 == 95))) else (some (a0 == 95)))) else (if a0 ≥ 65 then (if a0 ≤ 90 then (some true) else (some (a0 == 95))) else (some (a0 == 95)))) = some r := h
  clear h
  by_cases c2 : a0 ≥ 97
  · rw [if_pos c2] at H
    have c2b0 : decide (97 ≤ a0) = true := decide_eq_true c2
    clear c2
    by_cases c3 : a0 ≤ 122
    · rw [if_pos c3] at H
      have c3b0 : decide (a0 ≤ 122) = true := decide_eq_true c3
      clear c3
      obtain rfl := Option.some.inj H
      go_enter Try.func53, Try.ntmps53
      go_wp2
      go_ret
      exact ⟨by first | rfl | (simp; done) | (simp [*]; done), by repeat (first | exact Drawn0.refl _ | apply Drawn0.step)⟩
    · rw [if_neg c3] at H
      have c3b0 : decide (a0 ≤ 122) = false := decide_eq_false c3
      clear c3
      by_cases c4 : a0 ≥ 65
      · rw [if_pos c4] at H
        have c4b0 : decide (65 ≤ a0) = true := decide_eq_true c4
        clear c4
        by_cases c5 : a0 ≤ 90
        · rw [if_pos c5] at H
          have c5b0 : decide (a0 ≤ 90) = true := decide_eq_true c5
          clear c5
          obtain rfl := Option.some.inj H
          go_enter Try.func53, Try.ntmps53
          go_wp2
          go_ret
          exact ⟨by first | rfl | (simp; done) | (simp [*]; done), by repeat (first | exact Drawn0.refl _ | apply Drawn0.step)⟩
        · rw [if_neg c5] at H
          have c5b0 : decide (a0 ≤ 90) = false := decide_eq_false c5
          clear c5
          obtain rfl := Option.some.inj H
          go_enter Try.func53, Try.ntmps53
          go_wp2
          go_ret
          exact ⟨by first | rfl | (simp; done) | (simp [*]; done), by repeat (first | exact Drawn0.refl _ | apply Drawn0.step)⟩
      · rw [if_neg c4] at H
        have c4b0 : decide (65 ≤ a0) = false := decide_eq_false c4
        clear c4
        obtain rfl := Option.some.inj H
        go_enter Try.func53, Try.ntmps53
        go_wp2
        go_ret
        exact ⟨by first | rfl | (simp; done) | (simp [*]; done), by repeat (first | exact Drawn0.refl _ | apply Drawn0.step)⟩
  · rw [if_neg c2] at H
    have c2b0 : decide (97 ≤ a0) = false := decide_eq_false c2
    clear c2
    by_cases c6 : a0 ≥ 65
    · rw [if_pos c6] at H
      have c6b0 : decide (65 ≤ a0) = true := decide_eq_true c6
      clear c6
      by_cases c7 : a0 ≤ 90
      · rw [if_pos c7] at H
        have c7b0 : decide (a0 ≤ 90) = true := decide_eq_true c7
        clear c7
        obtain rfl := Option.some.inj H
        go_enter Try.func53, Try.ntmps53
        go_wp2
        go_ret
        exact ⟨by first | rfl | (simp; done) | (simp [*]; done), by repeat (first | exact Drawn0.refl _ | apply Drawn0.step)⟩
      · rw [if_neg c7] at H
        have c7b0 : decide (a0 ≤ 90) = false := decide_eq_false c7
        clear c7
        obtain rfl := Option.some.inj H
        go_enter Try.func53, Try.ntmps53
        go_wp2
        go_ret
        exact ⟨by first | rfl | (simp; done) | (simp [*]; done), by repeat (first | exact Drawn0.refl _ | apply Drawn0.step)⟩
    · rw [if_neg c6] at H
      have c6b0 : decide (65 ≤ a0) = false := decide_eq_false c6
      clear c6
      obtain rfl := Option.some.inj H
      go_enter Try.func53, Try.ntmps53
      go_wp2
      go_ret
      exact ⟨by first | rfl | (simp; done) | (simp [*]; done), by repeat (first | exact Drawn0.refl _ | apply Drawn0.step)⟩

/-! ### cadencyref03_digit: function 54 -/
def cadencyref03_digit.f (a0 : Int) : Option (Bool) := if a0 ≥ 48 then (some (decide (a0 ≤ 57))) else (some false)
set_option maxHeartbeats 8000000 in
set_option maxRecDepth 100000 in
theorem cadencyref03_digit.calls (a0 : Int) (r : Bool) (w : World) (h : cadencyref03_digit.f a0 = some r) :
    Calls Try.prog 54 #[.int .u8 a0] w fun e w' => e = .returned (.bool r) ∧ Drawn0 w w' := by
  have H : (if a0 ≥ 48 then (some (decide (a0 ≤ 57))) else (some false)) = some r := h
  clear h
  by_cases c2 : a0 ≥ 48
  · rw [if_pos c2] at H
    have c2b0 : decide (48 ≤ a0) = true := decide_eq_true c2
    clear c2
    obtain rfl := Option.some.inj H
    go_enter Try.func54, Try.ntmps54
    go_wp2
    go_ret
    exact ⟨by first | rfl | (simp; done) | (simp [*]; done), by repeat (first | exact Drawn0.refl _ | apply Drawn0.step)⟩
  · rw [if_neg c2] at H
    have c2b0 : decide (48 ≤ a0) = false := decide_eq_false c2
    clear c2
    obtain rfl := Option.some.inj H
    go_enter Try.func54, Try.ntmps54
    go_wp2
    go_ret
    exact ⟨by first | rfl | (simp; done) | (simp [*]; done), by repeat (first | exact Drawn0.refl _ | apply Drawn0.step)⟩

end Go.Proofs.Ytcdmgalhboijcaa.D
