-- written by a program (wip/dev/print2.sh): functions of the program as plain Lean, with their contracts
import Derived.Test.YtefdcjmfbjlinaaAx0
import Derived.Test.YtefdcjmfbjlinaaAx3
namespace Go.Proofs.Ytefdcjmfbjlinaa.A
open Go.RowKit Go.Proofs.YtefdcjmfbjlinaaW.PrintWords Go.Proofs.YtefdcjmfbjlinaaW.PrintLast Go.Proofs.YtefdcjmfbjlinaaW.PrintMore
set_option linter.unusedVariables false
set_option linter.unusedSimpArgs false

/-! ### cadencyref05_Print: function 7 -/
def cadencyref05_Print.l0 : Nat → List (S33) → ByteArray → Int → Option (ByteArray)
  | 0, _, _, _ => none
  | k + 1, x0, x3, x4 => if x4 < (x0.length : Int) then (if 0 ≤ x4 then ((cadencyref05_Line.f k ((rd_T33 x0 x4).f0) ((rd_T33 x0 x4).f1) ((rd_T33 x0 x4).f2) ((rd_T33 x0 x4).f3) ((rd_T33 x0 x4).f4) ((rd_T33 x0 x4).f5) ((rd_T33 x0 x4).f6)).bind fun t135 => (if x3.size + t135.size ≤ 9223372036854775807 then (cadencyref05_Print.l0 k x0 (x3 ++ t135) (wrap64 (x4 + 1))) else (none))) else (none)) else (some x3)
def cadencyref05_Print.f (k : Nat) (l0 : List (S33)) : Option (ByteArray) := cadencyref05_Print.l0 k l0 (⟨#[]⟩ : ByteArray) 0
/-! ### cadencyref04_rest: function 18 -/
def cadencyref04_rest.f (a0 : Int) (a1 : Int) : Option (Int) := if a1 = 0 then (none) else (some (Int.tmod (wrap64 ((Int.tmod a0 a1) + a1)) a1))
set_option maxHeartbeats 8000000 in
set_option maxRecDepth 100000 in
theorem cadencyref04_rest.calls (a0 : Int) (a1 : Int) (r : Int) (w : World) (h : cadencyref04_rest.f a0 a1 = some r) :
    Calls Try.prog 18 #[.int .i64 a0, .int .i64 a1] w fun e w' => e = .returned (.int .i64 r) ∧ Drawn0 w w' := by
  have H : (if a1 = 0 then (none) else (some (Int.tmod (wrap64 ((Int.tmod a0 a1) + a1)) a1))) = some r := h
  clear h
  by_cases c3 : a1 = 0
  · rw [if_pos c3] at H
    exact absurd H (by simp)
  · rw [if_neg c3] at H
    have c3b0 : (a1 == 0) = false := beq_eq_false_iff_ne.mpr c3
    have c3b1 : (a1 != 0) = true := bne_iff_ne.mpr c3
    obtain rfl := Option.some.inj H
    go_enter Try.func18, Try.ntmps18
    go_wp2
    go_ret
    exact ⟨by first | rfl | (simp; done) | (simp [*]; done), by repeat (first | exact Drawn0.refl _ | apply Drawn0.step)⟩

/-! ### cadencyref04_turns: function 19 -/
def cadencyref04_turns.f (a0 : Int) (a1 : Int) : Option (Int) := if a0 > 2 then (if a0 = 0 then (none) else ((cadencyref04_rest.f (wrap64 (Int.tdiv a1 a0)) 2).bind fun t136 => (if t136 = 1 then (some (wrap64 (a0 - 1))) else (some 1)))) else (some 1)
set_option maxHeartbeats 8000000 in
set_option maxRecDepth 100000 in
theorem cadencyref04_turns.calls (a0 : Int) (a1 : Int) (r : Int) (w : World) (h : cadencyref04_turns.f a0 a1 = some r) :
    Calls Try.prog 19 #[.int .i64 a0, .int .i64 a1] w fun e w' => e = .returned (.int .i64 r) ∧ Drawn0 w w' := by
  have H : (if a0 > 2 then (if a0 = 0 then (none) else ((cadencyref04_rest.f (wrap64 (Int.tdiv a1 a0)) 2).bind fun t136 => (if t136 = 1 then (some (wrap64 (a0 - 1))) else (some 1)))) else (some 1)) = some r := h
  clear h
  by_cases c3 : a0 > 2
  · rw [if_pos c3] at H
    have c3b0 : decide (2 < a0) = true := decide_eq_true c3
    clear c3
    by_cases c4 : a0 = 0
    · rw [if_pos c4] at H
      exact absurd H (by simp)
    · rw [if_neg c4] at H
      have c4b0 : (a0 == 0) = false := beq_eq_false_iff_ne.mpr c4
      have c4b1 : (a0 != 0) = true := bne_iff_ne.mpr c4
      replace H := Option.bind_eq_some_iff.mp H
      obtain ⟨t136, A50, H⟩ := H
      replace H : (if t136 = 1 then (some (wrap64 (a0 - 1))) else (some 1)) = some r := H
      have A5 := Aside0.mk A50
      clear A50
      by_cases c6 : t136 = 1
      · rw [if_pos c6] at H
        have c6b0 : (t136 == 1) = true := beq_iff_eq.mpr c6
        have c6b1 : (t136 != 1) = false := bne_eq_false_iff_eq.mpr c6
        clear c6
        obtain rfl := Option.some.inj H
        go_enter Try.func19, Try.ntmps19
        go_wp2_with (first | (go_at_call 18; (with_reducible refine (cadencyref04_rest.calls (wrap64 (Int.tdiv a1 a0)) 2 t136 _ A5.out).mono ?_); rintro e w' ⟨rfl, ⟨nd, rfl⟩⟩))
        go_ret
        exact ⟨by first | rfl | (simp; done) | (simp [*]; done), by repeat (first | exact Drawn0.refl _ | apply Drawn0.step)⟩
      · rw [if_neg c6] at H
        have c6b0 : (t136 == 1) = false := beq_eq_false_iff_ne.mpr c6
        have c6b1 : (t136 != 1) = true := bne_iff_ne.mpr c6
        obtain rfl := Option.some.inj H
        go_enter Try.func19, Try.ntmps19
        go_wp2_with (first | (go_at_call 18; (with_reducible refine (cadencyref04_rest.calls (wrap64 (Int.tdiv a1 a0)) 2 t136 _ A5.out).mono ?_); rintro e w' ⟨rfl, ⟨nd, rfl⟩⟩))
        go_ret
        exact ⟨by first | rfl | (simp; done) | (simp [*]; done), by repeat (first | exact Drawn0.refl _ | apply Drawn0.step)⟩
  · rw [if_neg c3] at H
    have c3b0 : decide (2 < a0) = false := decide_eq_false c3
    clear c3
    obtain rfl := Option.some.inj H
    go_enter Try.func19, Try.ntmps19
    go_wp2
    go_ret
    exact ⟨by first | rfl | (simp; done) | (simp [*]; done), by repeat (first | exact Drawn0.refl _ | apply Drawn0.step)⟩

/-! ### cadencyref04_SetT: function 8 -/
mutual
def cadencyref04_SetT.l0 : Nat → List (S43) → Int → Int → List (S33) → Int → Option ((List (S33)))
  | 0, _, _, _, _, _ => none
  | k + 1, x0, x1, x2, x7, x8 => if x8 < (x0.length : Int) then (cadencyref04_SetT.j1 k x0 x1 x2 x7 x8 (decide (x8 < x1))) else (cadencyref04_SetT.j1 k x0 x1 x2 x7 x8 false)
def cadencyref04_SetT.j1 : Nat → List (S43) → Int → Int → List (S33) → Int → Bool → Option ((List (S33)))
  | 0, _, _, _, _, _, _ => none
  | k + 1, x0, x1, x2, x7, x8, x30 => if x30 = true then (if 0 ≤ x8 then (if x8 < (x0.length : Int) then ((cadencyref04_rest.f ((rd_T43 x0 x8).f0) 4).bind fun t141 => ((cadencyref04_rest.f ((rd_T43 x0 x8).f1) 11).bind fun t143 => ((cadencyref04_rest.f ((rd_T43 x0 x8).f2) (wrap64 ((wrap64 ((wrap64 ((wrap64 (1 + t141)) + t143)) - (wrap64 (1 + t141)))) + 1))).bind fun t145 => ((cadencyref04_rest.f ((rd_T43 x0 x8).f4) 7).bind fun t147 => ((cadencyref04_rest.f ((rd_T43 x0 x8).f3) (wrap64 (1 + t141))).bind fun t149 => ((some (([(wrap64 (97 + x8)) % 256] : List Int) : List Int)).bind fun y150 => (if 1 + (strOfNums y150).size ≤ 9223372036854775807 then (if x7.length < 2199023255552 then (cadencyref04_SetT.l0 k x0 x1 x2 (x7 ++ [(⟨(⟨#[116]⟩ : ByteArray) ++ (strOfNums y150), wrap64 (1 + t141), wrap64 ((wrap64 ((wrap64 (1 + t141)) + t143)) + t147), wrap64 ((wrap64 (1 + t141)) + t143), t145, wrap64 (1 + t149), 0⟩ : S33)]) (wrap64 (x8 + 1))) else (none)) else (none)))))))) else (none)) else (none)) else (cadencyref04_SetT.l1 k x2 x7 (x7.length : Int) 0)
def cadencyref04_SetT.l1 : Nat → Int → List (S33) → Int → Int → Option ((List (S33)))
  | 0, _, _, _, _ => none
  | k + 1, x2, x7, x14, x15 => if x15 < x14 then ((cadencyref04_turns.f x14 x2).bind fun t156 => ((cadencyref04_rest.f x2 x14).bind fun t157 => (if x14 = 0 then (none) else (if 0 ≤ x15 then (if x15 < (x7.length : Int) then (cadencyref04_SetT.l1 k x2 (x7.set (x15 : Int).toNat (⟨(rd_T33 x7 x15).f0, (rd_T33 x7 x15).f1, (rd_T33 x7 x15).f2, (rd_T33 x7 x15).f3, (rd_T33 x7 x15).f4, (rd_T33 x7 x15).f5, wrap64 (1 + (Int.tmod (wrap64 ((wrap64 (x15 * t156)) + t157)) x14))⟩ : S33)) x14 (wrap64 (x15 + 1))) else (none)) else (none))))) else (some x7)
end
def cadencyref04_SetT.f (k : Nat) (l0 : List (S43)) (a1 : Int) (a2 : Int) : Option ((List (S33))) := if (l0.length : Int) = 0 then (cadencyref04_SetT.l0 k (([(⟨a2, 0, 0, 0, 0⟩ : S43)] : List (S43))) a1 a2 ([] : List (S33)) 0) else (none)
set_option maxHeartbeats 8000000 in
set_option maxRecDepth 100000 in
theorem cadencyref04_SetT.calls (k : Nat) (A0 : Option Addr) (c0 : Nat) (l0 : List (S43)) (a1 : Int) (a2 : Int) (r : List (S33)) (w : World) (hr0 : Kd.C k43 w A0 l0.length l0) (hc0 : l0.length ≤ c0) (h : cadencyref04_SetT.f k l0 a1 a2 = some r) :
    Calls Try.prog 8 #[.slice A0 l0.length c0, .int .i64 a1, .int .i64 a2] w fun e w' => ∃ v0_ : Value, e = .returned (v0_) ∧ Kd.R k33 33 w' w.heap.size (fun _ => True) v0_ r ∧ Below w.heap.size w w' := by
  have hu43 := Try.underlying43
  have hu33 := Try.underlying33
  have HR0 := Aside0.mk hr0
  have HC0 := Aside0.mk hc0
  clear hr0 hc0
  have HB := Aside0.mk (Below.refl w.heap.size w)
  have H : (if (l0.length : Int) = 0 then (cadencyref04_SetT.l0 k (([(⟨a2, 0, 0, 0, 0⟩ : S43)] : List (S43))) a1 a2 ([] : List (S33)) 0) else (none)) = some r := h
  clear h
  by_cases c4 : (l0.length : Int) = 0
  · rw [if_pos c4] at H
    have c4b0 : ((l0.length : Int) == 0) = true := beq_iff_eq.mpr c4
    have c4b1 : ((l0.length : Int) != 0) = false := bne_eq_false_iff_eq.mpr c4
    clear c4
    obtain ⟨y137, hy137⟩ : ∃ y_ : List (S43), y_ = (([(⟨a2, 0, 0, 0, 0⟩ : S43)] : List (S43))) := ⟨_, rfl⟩
    replace H : (cadencyref04_SetT.l0 k y137 a1 a2 ([] : List (S33)) 0) = some r := by first | (rw [hy137]; with_reducible exact H) | (have H2_ := (Option.bind_some _ _).symm.trans H; rw [hy137]; with_reducible exact H2_) | (have H2_ := (Option.bind_some _ _).symm.trans H; with_reducible exact H2_) | with_reducible exact H | (rw [hy137]; exact H) | exact H
    have Ny137 := Aside0.mk hy137
    clear hy137
    have H' := Aside0.mk H
    clear H
    go_enter Try.func8, Try.ntmps8
    go_wp2_with (first | ((with_reducible refine gate_dst (N := 21) rfl ?_); refine Kd.R_lit k43 _ 43 ?hg (N := 21) ?hd (xs := ([(⟨a2, 0, 0, 0, 0⟩ : S43)] : List (S43))) (inner := [.int .i64 a2, .int .i64 0, .int .i64 0, .int .i64 0, .int .i64 0]) (ok := fun _ => True) (okp := fun _ => True) ?hr ?hp (fun _ hk => hk) trivial (Below.refl _ _) (Nat.le_refl _) (by simp) ?_; (case hd => rfl); (case hg => rfl); (case hr => first | (go_simp; done) | (go_simp; rfl)); (case hp => exact (Reps.c5 (show Kd.M k43 _ _ _ (⟨a2, 0, 0, 0, 0⟩ : S43) [.int .i64 a2, .int .i64 0, .int .i64 0, .int .i64 0, .int .i64 0] from (k43_mkM _ _ _ (⟨a2, 0, 0, 0, 0⟩ : S43) )) (Reps.none _ _))); intro v138 w5 ho6 hb hg_ hnew_; clear hg_ hnew_; (first | rw [← Ny137.out] at ho6 | (simp only [Int.reduceToNat] at ho6; rw [← Ny137.out] at ho6)); have n0_ := Aside0.mk (Kd.R_lower ho6 (below_size (by repeat (first | (with_reducible first | exact HB.out | apply below_alloc | apply pw_below_drewN | apply below_drew1) | exact HB.out)))); have n1_ := Aside0.mk (below_step (by repeat (first | (with_reducible first | exact HB.out | apply below_alloc | apply pw_below_drewN | apply below_drew1) | exact HB.out)) hb); clear HB; have HO139 := n0_; have HB := n1_; clear n0_ n1_; clear hb ho6))
    go_loopg [7, 8] k (fun kq v7 v8 w' => ∃ (x7_1 : List (S33)) (x8_1 : Int), v8 = .int .i64 x8_1 ∧ Aside0 (cadencyref04_SetT.l0 kq y137 a1 a2 x7_1 x8_1 = some r) ∧ Aside0 (kq ≤ k) ∧ Aside0 (Kd.R k43 43 w' w.heap.size (fun _ => True) v138 y137) ∧ Aside0 (Kd.R k33 33 w' w.heap.size (fun _ => True) v7 x7_1) ∧ Aside0 (Below w.heap.size w w'))
    case atStart => exact ⟨(([] : List (S33))), (0), (by first | rfl | (simp; done) | (simp [*]; done)), H', ⟨Nat.le_refl _⟩, ⟨by (with_reducible repeat (first | apply Kd.R_alloc | apply Kd.R_drewN | apply Kd.R_drew)); exact HO139.out⟩, ⟨by first | exact Kd.R_nil _ _ _ _ _ | exact Kd.N_nil _ _ _ _ _ | exact Kd.V_nil _ _ _ _ _ | exact Kd.Q_nil _ _ _ _ _ | exact Kd.S_nil _ _ _ _ _⟩, ⟨by repeat (first | (with_reducible first | exact HB.out | apply below_alloc | apply pw_below_drewN | apply below_drew1) | exact HB.out)⟩⟩
    case round =>
      clear H'
      try clear p2
      try clear c4
      try clear c4b0
      try clear c4b1
      try clear c5
      obtain ⟨x7_1, x8_1, rfl, HA, HK1, HO_0, HO_7, HB⟩ := hrel
      cases gk with
      | zero => exact absurd HA.out (by simp [cadencyref04_SetT.l0])
      | succ k1 =>
        have H := HA.out
        clear HA
        simp only [cadencyref04_SetT.l0] at H
        have HC7 := Aside0.mk H
        clear H
        go_upto_region 5 with (fail)
        go_cut [30] (fun v30 wc => ∃ (kq : Nat) (x30_6 : Bool), v30 = .bool x30_6 ∧ Aside0 (cadencyref04_SetT.j1 kq y137 a1 a2 x7_1 x8_1 x30_6 = some r) ∧ Aside0 (kq ≤ k1) ∧ Aside0 (Kd.R k43 43 wc w.heap.size (fun _ => True) v138 y137) ∧ Aside0 (Kd.R k33 33 wc w.heap.size (fun _ => True) u7 x7_1) ∧ Aside0 (Below w.heap.size w wc))
        case first =>
          have H := HC7.out
          clear HC7
          by_cases c8 : x8_1 < (y137.length : Int)
          · rw [if_pos c8] at H
            have c8b0 : decide (x8_1 < (y137.length : Int)) = true := decide_eq_true c8
            clear c8
            (first | rw [c8b0] | (simp only [i64_w, i32_w]; rw [c8b0]) | skip)
            have H' := Aside0.mk H
            clear H
            obtain ⟨Ao9, co9, eo9⟩ := Kd.R_slice HO_0.out
            subst eo9
            go_wp2
            go_meet
            case rel => exact ⟨_, (decide (x8_1 < a1)), (by first | rfl | (simp; done) | (simp [*]; done)), H', ⟨by have := HK1.out; first | omega | exact Nat.le_refl _⟩, ⟨by (with_reducible repeat (first | apply Kd.R_alloc | apply Kd.R_drewN | apply Kd.R_drew)); exact HO_0.out⟩, ⟨by (with_reducible repeat (first | apply Kd.R_alloc | apply Kd.R_drewN | apply Kd.R_drew)); exact HO_7.out⟩, ⟨by repeat (first | (with_reducible first | exact HB.out | apply below_alloc | apply pw_below_drewN | apply below_drew1) | exact HB.out)⟩⟩
          · rw [if_neg c8] at H
            have c8b0 : decide (x8_1 < (y137.length : Int)) = false := decide_eq_false c8
            clear c8
            (first | rw [c8b0] | (simp only [i64_w, i32_w]; rw [c8b0]) | skip)
            have H' := Aside0.mk H
            clear H
            obtain ⟨Ao10, co10, eo10⟩ := Kd.R_slice HO_0.out
            subst eo10
            go_wp2
            go_meet
            case rel => exact ⟨_, (false), (by first | rfl | (simp; done) | (simp [*]; done)), H', ⟨by have := HK1.out; first | omega | exact Nat.le_refl _⟩, ⟨by (with_reducible repeat (first | apply Kd.R_alloc | apply Kd.R_drewN | apply Kd.R_drew)); exact HO_0.out⟩, ⟨by (with_reducible repeat (first | apply Kd.R_alloc | apply Kd.R_drewN | apply Kd.R_drew)); exact HO_7.out⟩, ⟨by repeat (first | (with_reducible first | exact HB.out | apply below_alloc | apply pw_below_drewN | apply below_drew1) | exact HB.out)⟩⟩
        case rest =>
          clear HC7
          try clear p2
          try clear c4
          try clear c4b0
          try clear c4b1
          try clear c5
          try clear c8
          try clear c8b0
          try clear p2
          obtain ⟨kq, x30_6, rfl, HA, HJ6, HO_0, HO_7, HB⟩ := hcut
          cases kq with
          | zero => exact absurd HA.out (by simp [cadencyref04_SetT.j1])
          | succ kj6 =>
            have H := HA.out
            clear HA
            simp only [cadencyref04_SetT.j1] at H
            by_cases c11 : x30_6 = true
            · subst c11
              have H1 : (if 0 ≤ x8_1 then (if x8_1 < (y137.length : Int) then ((cadencyref04_rest.f ((rd_T43 y137 x8_1).f0) 4).bind fun t141 => ((cadencyref04_rest.f ((rd_T43 y137 x8_1).f1) 11).bind fun t143 => ((cadencyref04_rest.f ((rd_T43 y137 x8_1).f2) (wrap64 ((wrap64 ((wrap64 ((wrap64 (1 + t141)) + t143)) - (wrap64 (1 + t141)))) + 1))).bind fun t145 => ((cadencyref04_rest.f ((rd_T43 y137 x8_1).f4) 7).bind fun t147 => ((cadencyref04_rest.f ((rd_T43 y137 x8_1).f3) (wrap64 (1 + t141))).bind fun t149 => ((some (([(wrap64 (97 + x8_1)) % 256] : List Int) : List Int)).bind fun y150 => (if 1 + (strOfNums y150).size ≤ 9223372036854775807 then (if x7_1.length < 2199023255552 then (cadencyref04_SetT.l0 kj6 y137 a1 a2 (x7_1 ++ [(⟨(⟨#[116]⟩ : ByteArray) ++ (strOfNums y150), wrap64 (1 + t141), wrap64 ((wrap64 ((wrap64 (1 + t141)) + t143)) + t147), wrap64 ((wrap64 (1 + t141)) + t143), t145, wrap64 (1 + t149), 0⟩ : S33)]) (wrap64 (x8_1 + 1))) else (none)) else (none)))))))) else (none)) else (none)) = some r := by rw [if_pos rfl] at H; exact H
              clear H
              have H := H1
              clear H1
              by_cases c12 : 0 ≤ x8_1
              · rw [if_pos c12] at H
                have c12b0 : decide (0 ≤ x8_1) = true := decide_eq_true c12
                clear c12
                by_cases c13 : x8_1 < (y137.length : Int)
                · rw [if_pos c13] at H
                  have c13b0 : decide (x8_1 < (y137.length : Int)) = true := decide_eq_true c13
                  clear c13
                  replace H := Option.bind_eq_some_iff.mp H
                  obtain ⟨t141, A140, H⟩ := H
                  replace H : ((cadencyref04_rest.f ((rd_T43 y137 x8_1).f1) 11).bind fun t143 => ((cadencyref04_rest.f ((rd_T43 y137 x8_1).f2) (wrap64 ((wrap64 ((wrap64 ((wrap64 (1 + t141)) + t143)) - (wrap64 (1 + t141)))) + 1))).bind fun t145 => ((cadencyref04_rest.f ((rd_T43 y137 x8_1).f4) 7).bind fun t147 => ((cadencyref04_rest.f ((rd_T43 y137 x8_1).f3) (wrap64 (1 + t141))).bind fun t149 => ((some (([(wrap64 (97 + x8_1)) % 256] : List Int) : List Int)).bind fun y150 => (if 1 + (strOfNums y150).size ≤ 9223372036854775807 then (if x7_1.length < 2199023255552 then (cadencyref04_SetT.l0 kj6 y137 a1 a2 (x7_1 ++ [(⟨(⟨#[116]⟩ : ByteArray) ++ (strOfNums y150), wrap64 (1 + t141), wrap64 ((wrap64 ((wrap64 (1 + t141)) + t143)) + t147), wrap64 ((wrap64 (1 + t141)) + t143), t145, wrap64 (1 + t149), 0⟩ : S33)]) (wrap64 (x8_1 + 1))) else (none)) else (none))))))) = some r := H
                  have A14 := Aside0.mk A140
                  clear A140
                  replace H := Option.bind_eq_some_iff.mp H
                  obtain ⟨t143, A150, H⟩ := H
                  replace H : ((cadencyref04_rest.f ((rd_T43 y137 x8_1).f2) (wrap64 ((wrap64 ((wrap64 ((wrap64 (1 + t141)) + t143)) - (wrap64 (1 + t141)))) + 1))).bind fun t145 => ((cadencyref04_rest.f ((rd_T43 y137 x8_1).f4) 7).bind fun t147 => ((cadencyref04_rest.f ((rd_T43 y137 x8_1).f3) (wrap64 (1 + t141))).bind fun t149 => ((some (([(wrap64 (97 + x8_1)) % 256] : List Int) : List Int)).bind fun y150 => (if 1 + (strOfNums y150).size ≤ 9223372036854775807 then (if x7_1.length < 2199023255552 then (cadencyref04_SetT.l0 kj6 y137 a1 a2 (x7_1 ++ [(⟨(⟨#[116]⟩ : ByteArray) ++ (strOfNums y150), wrap64 (1 + t141), wrap64 ((wrap64 ((wrap64 (1 + t141)) + t143)) + t147), wrap64 ((wrap64 (1 + t141)) + t143), t145, wrap64 (1 + t149), 0⟩ : S33)]) (wrap64 (x8_1 + 1))) else (none)) else (none)))))) = some r := H
                  have A15 := Aside0.mk A150
                  clear A150
                  replace H := Option.bind_eq_some_iff.mp H
                  obtain ⟨t145, A160, H⟩ := H
                  replace H : ((cadencyref04_rest.f ((rd_T43 y137 x8_1).f4) 7).bind fun t147 => ((cadencyref04_rest.f ((rd_T43 y137 x8_1).f3) (wrap64 (1 + t141))).bind fun t149 => ((some (([(wrap64 (97 + x8_1)) % 256] : List Int) : List Int)).bind fun y150 => (if 1 + (strOfNums y150).size ≤ 9223372036854775807 then (if x7_1.length < 2199023255552 then (cadencyref04_SetT.l0 kj6 y137 a1 a2 (x7_1 ++ [(⟨(⟨#[116]⟩ : ByteArray) ++ (strOfNums y150), wrap64 (1 + t141), wrap64 ((wrap64 ((wrap64 (1 + t141)) + t143)) + t147), wrap64 ((wrap64 (1 + t141)) + t143), t145, wrap64 (1 + t149), 0⟩ : S33)]) (wrap64 (x8_1 + 1))) else (none)) else (none))))) = some r := H
                  have A16 := Aside0.mk A160
                  clear A160
                  replace H := Option.bind_eq_some_iff.mp H
                  obtain ⟨t147, A170, H⟩ := H
                  replace H : ((cadencyref04_rest.f ((rd_T43 y137 x8_1).f3) (wrap64 (1 + t141))).bind fun t149 => ((some (([(wrap64 (97 + x8_1)) % 256] : List Int) : List Int)).bind fun y150 => (if 1 + (strOfNums y150).size ≤ 9223372036854775807 then (if x7_1.length < 2199023255552 then (cadencyref04_SetT.l0 kj6 y137 a1 a2 (x7_1 ++ [(⟨(⟨#[116]⟩ : ByteArray) ++ (strOfNums y150), wrap64 (1 + t141), wrap64 ((wrap64 ((wrap64 (1 + t141)) + t143)) + t147), wrap64 ((wrap64 (1 + t141)) + t143), t145, wrap64 (1 + t149), 0⟩ : S33)]) (wrap64 (x8_1 + 1))) else (none)) else (none)))) = some r := H
                  have A17 := Aside0.mk A170
                  clear A170
                  replace H := Option.bind_eq_some_iff.mp H
                  obtain ⟨t149, A180, H⟩ := H
                  replace H : ((some (([(wrap64 (97 + x8_1)) % 256] : List Int) : List Int)).bind fun y150 => (if 1 + (strOfNums y150).size ≤ 9223372036854775807 then (if x7_1.length < 2199023255552 then (cadencyref04_SetT.l0 kj6 y137 a1 a2 (x7_1 ++ [(⟨(⟨#[116]⟩ : ByteArray) ++ (strOfNums y150), wrap64 (1 + t141), wrap64 ((wrap64 ((wrap64 (1 + t141)) + t143)) + t147), wrap64 ((wrap64 (1 + t141)) + t143), t145, wrap64 (1 + t149), 0⟩ : S33)]) (wrap64 (x8_1 + 1))) else (none)) else (none))) = some r := H
                  have A18 := Aside0.mk A180
                  clear A180
                  obtain ⟨y150, hy150⟩ : ∃ y_ : List Int, y_ = (([(wrap64 (97 + x8_1)) % 256] : List Int)) := ⟨_, rfl⟩
                  replace H : (if 1 + (strOfNums y150).size ≤ 9223372036854775807 then (if x7_1.length < 2199023255552 then (cadencyref04_SetT.l0 kj6 y137 a1 a2 (x7_1 ++ [(⟨(⟨#[116]⟩ : ByteArray) ++ (strOfNums y150), wrap64 (1 + t141), wrap64 ((wrap64 ((wrap64 (1 + t141)) + t143)) + t147), wrap64 ((wrap64 (1 + t141)) + t143), t145, wrap64 (1 + t149), 0⟩ : S33)]) (wrap64 (x8_1 + 1))) else (none)) else (none)) = some r := by first | (rw [hy150]; with_reducible exact H) | (have H2_ := (Option.bind_some _ _).symm.trans H; rw [hy150]; with_reducible exact H2_) | (have H2_ := (Option.bind_some _ _).symm.trans H; with_reducible exact H2_) | with_reducible exact H | (rw [hy150]; exact H) | exact H
                  have Ny150 := Aside0.mk hy150
                  clear hy150
                  by_cases c19 : 1 + (strOfNums y150).size ≤ 9223372036854775807
                  · rw [if_pos c19] at H
                    have c19b0 := eq_true c19
                    have c19b1 : decide (1 + (strOfNums y150).size ≤ 9223372036854775807) = true := decide_eq_true c19
                    try have c19b2 : (9223372036854775807 < 1 + (strOfNums y150).size) = False := eq_false (Nat.not_lt.2 c19)
                    by_cases c20 : x7_1.length < 2199023255552
                    · rw [if_pos c20] at H
                      have LMc20 := Aside0.mk c20
                      clear c20
                      obtain ⟨y153, hy153⟩ : ∃ y_ : List (S33), y_ = (x7_1 ++ [(⟨(⟨#[116]⟩ : ByteArray) ++ (strOfNums y150), wrap64 (1 + t141), wrap64 ((wrap64 ((wrap64 (1 + t141)) + t143)) + t147), wrap64 ((wrap64 (1 + t141)) + t143), t145, wrap64 (1 + t149), 0⟩ : S33)]) := ⟨_, rfl⟩
                      replace H : (cadencyref04_SetT.l0 kj6 y137 a1 a2 y153 (wrap64 (x8_1 + 1))) = some r := by first | (rw [hy153]; with_reducible exact H) | (have H2_ := (Option.bind_some _ _).symm.trans H; rw [hy153]; with_reducible exact H2_) | (have H2_ := (Option.bind_some _ _).symm.trans H; with_reducible exact H2_) | with_reducible exact H | (rw [hy153]; exact H) | exact H
                      have Ny153 := Aside0.mk hy153
                      clear hy153
                      have H' := Aside0.mk H
                      clear H
                      obtain ⟨Ao21, co21, eo21⟩ := Kd.R_slice HO_0.out
                      subst eo21
                      have p140 : 0 ≤ (x8_1 : Int) := of_decide_eq_true (by first | (with_reducible assumption) | assumption)
                      have q140 : x8_1 < (y137.length : Int) := of_decide_eq_true (by first | (with_reducible assumption) | assumption)
                      obtain ⟨ad140, e140, hx140_0, hx140_1, hx140_2, hx140_3, hx140_4⟩ := at_T43 (Kd.R_reads' HO_0.out).2.2 x8_1 p140 q140
                      cases e140
                      replace p140 := eq_true p140
                      replace q140 := eq_true q140
                      go_wp2_with (first | ((with_reducible refine gate_callee (f := 18) rfl ?_); refine goesL_ (some 38) rfl rfl Try.func18 (by kernel_rfl) rfl #[.int .i64 ((rd_T43 y137 x8_1).f0), .int .i64 4] rfl (by (try simp only [List.map_toArray, List.map_cons, List.map_nil]); first | done | rfl | (simp only [List.length_drop, List.length_take]; rfl)) ?_; (with_reducible refine (cadencyref04_rest.calls ((rd_T43 y137 x8_1).f0) 4 t141 _ A14.out).mono ?_); rintro e w' ⟨rfl, ⟨nd, rfl⟩⟩; refine ⟨_, rfl, ?_⟩; have p142 : 0 ≤ (x8_1 : Int) := of_decide_eq_true (by first | (with_reducible assumption) | assumption); have q142 : x8_1 < (y137.length : Int) := of_decide_eq_true (by first | (with_reducible assumption) | assumption); obtain ⟨ad142, e142, hx142_0, hx142_1, hx142_2, hx142_3, hx142_4⟩ := at_T43 (Kd.R_reads' HO_0.out).2.2 x8_1 p142 q142; obtain rfl : ad140 = ad142 := (by injection e142); replace p142 := eq_true p142; replace q142 := eq_true q142) | ((with_reducible refine gate_callee (f := 18) rfl ?_); refine goesL_ (some 46) rfl rfl Try.func18 (by kernel_rfl) rfl #[.int .i64 ((rd_T43 y137 x8_1).f1), .int .i64 11] rfl (by (try simp only [List.map_toArray, List.map_cons, List.map_nil]); first | done | rfl | (simp only [List.length_drop, List.length_take]; rfl)) ?_; (with_reducible refine (cadencyref04_rest.calls ((rd_T43 y137 x8_1).f1) 11 t143 _ A15.out).mono ?_); rintro e w' ⟨rfl, ⟨nd, rfl⟩⟩; refine ⟨_, rfl, ?_⟩; have p144 : 0 ≤ (x8_1 : Int) := of_decide_eq_true (by first | (with_reducible assumption) | assumption); have q144 : x8_1 < (y137.length : Int) := of_decide_eq_true (by first | (with_reducible assumption) | assumption); obtain ⟨ad144, e144, hx144_0, hx144_1, hx144_2, hx144_3, hx144_4⟩ := at_T43 (Kd.R_reads' HO_0.out).2.2 x8_1 p144 q144; obtain rfl : ad140 = ad144 := (by injection e144); replace p144 := eq_true p144; replace q144 := eq_true q144) | ((with_reducible refine gate_callee (f := 18) rfl ?_); refine goesL_ (some 57) rfl rfl Try.func18 (by kernel_rfl) rfl #[.int .i64 ((rd_T43 y137 x8_1).f2), .int .i64 (wrap64 ((wrap64 ((wrap64 ((wrap64 (1 + t141)) + t143)) - (wrap64 (1 + t141)))) + 1))] rfl (by (try simp only [List.map_toArray, List.map_cons, List.map_nil]); first | done | rfl | (simp only [List.length_drop, List.length_take]; rfl)) ?_; (with_reducible refine (cadencyref04_rest.calls ((rd_T43 y137 x8_1).f2) (wrap64 ((wrap64 ((wrap64 ((wrap64 (1 + t141)) + t143)) - (wrap64 (1 + t141)))) + 1)) t145 _ A16.out).mono ?_); rintro e w' ⟨rfl, ⟨nd, rfl⟩⟩; refine ⟨_, rfl, ?_⟩; have p146 : 0 ≤ (x8_1 : Int) := of_decide_eq_true (by first | (with_reducible assumption) | assumption); have q146 : x8_1 < (y137.length : Int) := of_decide_eq_true (by first | (with_reducible assumption) | assumption); obtain ⟨ad146, e146, hx146_0, hx146_1, hx146_2, hx146_3, hx146_4⟩ := at_T43 (Kd.R_reads' HO_0.out).2.2 x8_1 p146 q146; obtain rfl : ad140 = ad146 := (by injection e146); replace p146 := eq_true p146; replace q146 := eq_true q146) | ((with_reducible refine gate_callee (f := 18) rfl ?_); refine goesL_ (some 64) rfl rfl Try.func18 (by kernel_rfl) rfl #[.int .i64 ((rd_T43 y137 x8_1).f4), .int .i64 7] rfl (by (try simp only [List.map_toArray, List.map_cons, List.map_nil]); first | done | rfl | (simp only [List.length_drop, List.length_take]; rfl)) ?_; (with_reducible refine (cadencyref04_rest.calls ((rd_T43 y137 x8_1).f4) 7 t147 _ A17.out).mono ?_); rintro e w' ⟨rfl, ⟨nd, rfl⟩⟩; refine ⟨_, rfl, ?_⟩; have p148 : 0 ≤ (x8_1 : Int) := of_decide_eq_true (by first | (with_reducible assumption) | assumption); have q148 : x8_1 < (y137.length : Int) := of_decide_eq_true (by first | (with_reducible assumption) | assumption); obtain ⟨ad148, e148, hx148_0, hx148_1, hx148_2, hx148_3, hx148_4⟩ := at_T43 (Kd.R_reads' HO_0.out).2.2 x8_1 p148 q148; obtain rfl : ad140 = ad148 := (by injection e148); replace p148 := eq_true p148; replace q148 := eq_true q148) | ((with_reducible refine gate_callee (f := 18) rfl ?_); refine goesL_ (some 72) rfl rfl Try.func18 (by kernel_rfl) rfl #[.int .i64 ((rd_T43 y137 x8_1).f3), .int .i64 (wrap64 (1 + t141))] rfl (by (try simp only [List.map_toArray, List.map_cons, List.map_nil]); first | done | rfl | (simp only [List.length_drop, List.length_take]; rfl)) ?_; (with_reducible refine (cadencyref04_rest.calls ((rd_T43 y137 x8_1).f3) (wrap64 (1 + t141)) t149 _ A18.out).mono ?_); rintro e w' ⟨rfl, ⟨nd, rfl⟩⟩; refine ⟨_, rfl, ?_⟩) | ((with_reducible refine gate_dst (N := 78) rfl ?_); refine Kd.R_lit (Kd.int .u8) _ 5 ?hg (N := 78) ?hd (xs := ([(wrap64 (97 + x8_1)) % 256] : List Int)) (inner := [.int .u8 ((wrap64 (97 + x8_1)) % 256)]) (ok := fun _ => True) (okp := fun _ => True) ?hr ?hp (fun _ hk => hk) trivial (Below.refl _ _) (Nat.le_refl _) (by simp) ?_; (case hd => rfl); (case hg => rfl); (case hr => first | (go_simp; done) | (go_simp; rfl)); (case hp => exact (Reps.one (show Kd.M (Kd.int .u8) _ _ _ ((wrap64 (97 + x8_1)) % 256) [.int .u8 ((wrap64 (97 + x8_1)) % 256)] from rfl) (Reps.none _ _))); intro v151 w22 ho23 hb hg_ hnew_; clear hg_ hnew_; (first | rw [← Ny150.out] at ho23 | (simp only [Int.reduceToNat] at ho23; rw [← Ny150.out] at ho23)); have n0_ := Aside0.mk (Kd.R_below (by (with_reducible repeat (first | apply Kd.R_alloc | apply Kd.R_drewN | apply Kd.R_drew)); exact HO_0.out) hb); have n1_ := Aside0.mk (Kd.R_below (by (with_reducible repeat (first | apply Kd.R_alloc | apply Kd.R_drewN | apply Kd.R_drew)); exact HO_7.out) hb); have n2_ := Aside0.mk (Kd.R_lower ho23 (below_size (by repeat (first | (with_reducible first | exact HB.out | apply below_alloc | apply pw_below_drewN | apply below_drew1) | exact HB.out)))); have n3_ := Aside0.mk (below_step (by repeat (first | (with_reducible first | exact HB.out | apply below_alloc | apply pw_below_drewN | apply below_drew1) | exact HB.out)) hb); clear HO_0; clear HO_7; clear HB; have HO_0 := n0_; have HO_7 := n1_; have HO152 := n2_; have HB := n3_; clear n0_ n1_ n2_ n3_; clear hb ho23; have hcv24 := own_string (P := Try.prog) Try.underlying44 Try.underlying5 Try.underlying9 (Kd.own_of_R HO152.out)) | ((with_reducible refine gate_builtin (b := .append) (xs := #[.tmp 74, .tmp 87]) rfl ?_); at_builtin; refine Kd.R_append k33 (w0 := w) w.heap.size rfl (.tmp 74) (.tmp 87) 26 33 (.agg #[(.string ⟨#[]⟩), (.int .i64 0), (.int .i64 0), (.int .i64 0), (.int .i64 0), (.int .i64 0), (.int .i64 0)]) 64 rfl Try.underlying26 info33 rfl (by decide) (by omega) u7 x7_1 (⟨(⟨#[116]⟩ : ByteArray) ++ (strOfNums y150), wrap64 (1 + t141), wrap64 ((wrap64 ((wrap64 (1 + t141)) + t143)) + t147), wrap64 ((wrap64 (1 + t141)) + t143), t145, wrap64 (1 + t149), 0⟩ : S33) [.string ((⟨#[116]⟩ : ByteArray) ++ (strOfNums y150)), .int .i64 (wrap64 (1 + t141)), .int .i64 (wrap64 ((wrap64 ((wrap64 (1 + t141)) + t143)) + t147)), .int .i64 (wrap64 ((wrap64 (1 + t141)) + t143)), .int .i64 t145, .int .i64 (wrap64 (1 + t149)), .int .i64 0] (fun _ => True) (fun _ => False) rfl rfl ?aP (fun _ hk => hk.elim) ?aF ?aO ?aB ?aS ?aL ?_; (case aP => exact k33_mkM _ _ _ (⟨(⟨#[116]⟩ : ByteArray) ++ (strOfNums y150), wrap64 (1 + t141), wrap64 ((wrap64 ((wrap64 (1 + t141)) + t143)) + t147), wrap64 ((wrap64 (1 + t141)) + t143), t145, wrap64 (1 + t149), 0⟩ : S33)); (case aB => exact (by repeat (first | (with_reducible first | exact HB.out | apply below_alloc | apply pw_below_drewN | apply below_drew1) | exact HB.out))); (case aF => exact (fun _ _ => trivial)); (case aO => exact (by (with_reducible repeat (first | apply Kd.R_alloc | apply Kd.R_drewN | apply Kd.R_drew)); exact HO_7.out)); (case aS => exact (below_size (by repeat (first | (with_reducible first | exact HB.out | apply below_alloc | apply pw_below_drewN | apply below_drew1) | exact HB.out)))); (case aL => have := LMc20.out; omega); intro v154 w25 ho hb hg hat; rw [← Ny153.out] at ho; have n0_ := Aside0.mk (Kd.R_over' (by (with_reducible repeat (first | apply Kd.R_alloc | apply Kd.R_drewN | apply Kd.R_drew)); exact HO_0.out) (Kd.R_typed (by (with_reducible repeat (first | apply Kd.R_alloc | apply Kd.R_drewN | apply Kd.R_drew)); exact HO_7.out)) (by decide) hg); have n1_ := Aside0.mk (Kd.R_over' (by (with_reducible repeat (first | apply Kd.R_alloc | apply Kd.R_drewN | apply Kd.R_drew)); exact HO152.out) (Kd.R_typed (by (with_reducible repeat (first | apply Kd.R_alloc | apply Kd.R_drewN | apply Kd.R_drew)); exact HO_7.out)) (by decide) hg); have n2_ := Aside0.mk (hb); have n3_ := Aside0.mk (ho); clear HO_0; clear HO152; clear HB; clear HO_7; have HO_0 := n0_; have HO152 := n1_; have HB := n2_; have HO155 := n3_; clear n0_ n1_ n2_ n3_; clear ho hb hg hat))
                      go_roundg kj6
                      case measure => have := HK1.out; have := HJ6.out; omega
                      case rel => exact ⟨(y153), (wrap64 (x8_1 + 1)), (by first | rfl | (simp; done) | (simp [*]; done)), H', ⟨by have := HK1.out; have := HJ6.out; omega⟩, ⟨by (with_reducible repeat (first | apply Kd.R_alloc | apply Kd.R_drewN | apply Kd.R_drew)); exact HO_0.out⟩, ⟨by (with_reducible repeat (first | apply Kd.R_alloc | apply Kd.R_drewN | apply Kd.R_drew)); exact HO155.out⟩, ⟨by repeat (first | (with_reducible first | exact HB.out | apply below_alloc | apply pw_below_drewN | apply below_drew1) | exact HB.out)⟩⟩
                    · rw [if_neg c20] at H
                      exact absurd H (by simp)
                  · rw [if_neg c19] at H
                    exact absurd H (by simp)
                · rw [if_neg c13] at H
                  exact absurd H (by simp)
              · rw [if_neg c12] at H
                exact absurd H (by simp)
            · replace c11 := Bool.eq_false_iff.mpr c11
              subst c11
              have H1 : (cadencyref04_SetT.l1 kj6 a2 x7_1 (x7_1.length : Int) 0) = some r := by rw [if_neg (show ¬ (false = true) by decide)] at H; exact H
              clear H
              have H := H1
              clear H1
              have H' := Aside0.mk H
              clear H
              obtain ⟨Ao26, co26, eo26⟩ := Kd.R_slice HO_7.out
              subst eo26
              go_wp2
              go_loopg [15] kj6 (fun kq v15 w' => ∃ (x7_3 : List (S33)) (x15_3 : Int), v15 = .int .i64 x15_3 ∧ Aside0 (cadencyref04_SetT.l1 kq a2 x7_3 (x7_1.length : Int) x15_3 = some r) ∧ Aside0 (kq ≤ kj6) ∧ Aside0 (Kd.R k33 33 w' w.heap.size (fun _ => True) (.slice Ao26 x7_1.length co26) x7_3) ∧ Aside0 (Below w.heap.size w w'))
              case atStart => exact ⟨(x7_1), (0), (by first | rfl | (simp; done) | (simp [*]; done)), H', ⟨Nat.le_refl _⟩, ⟨by (with_reducible repeat (first | apply Kd.R_alloc | apply Kd.R_drewN | apply Kd.R_drew)); exact HO_7.out⟩, ⟨by repeat (first | (with_reducible first | exact HB.out | apply below_alloc | apply pw_below_drewN | apply below_drew1) | exact HB.out)⟩⟩
              case round =>
                clear H'
                try clear c1
                try clear p1
                try clear q1
                try clear hx1
                try clear c2
                try clear p2
                try clear hcv2
                try clear c4
                try clear c4b0
                try clear c4b1
                try clear c5
                try clear p6
                try clear c8
                try clear c8b0
                try clear c11
                try clear c12
                try clear c12b0
                try clear c13
                try clear c13b0
                try clear p14
                try clear q14
                try clear hx14
                try clear c18
                try clear c19
                try clear c19b0
                try clear c19b1
                try clear c19b2
                try clear c20
                try clear hcv24
                try clear hx140_0
                try clear hx140_1
                try clear hx140_2
                try clear hx140_3
                try clear hx140_4
                try clear hx142_0
                try clear hx142_1
                try clear hx142_2
                try clear hx142_3
                try clear hx142_4
                try clear hx144_0
                try clear hx144_1
                try clear hx144_2
                try clear hx144_3
                try clear hx144_4
                try clear hx146_0
                try clear hx146_1
                try clear hx146_2
                try clear hx146_3
                try clear hx146_4
                try clear hx148_0
                try clear hx148_1
                try clear hx148_2
                try clear hx148_3
                try clear hx148_4
                try clear p140
                try clear p142
                try clear p144
                try clear p146
                try clear p148
                try clear p2
                try clear q140
                try clear q142
                try clear q144
                try clear q146
                try clear q148
                obtain ⟨x7_3, x15_3, rfl, HA, HK3, HO_7, HB⟩ := hrel
                have hl7_3 := (Kd.R_reads' HO_7.out).1
                rw [hl7_3] at HO_7
                (try simp only [hl7_3])
                cases gk with
                | zero => exact absurd HA.out (by simp [cadencyref04_SetT.l1])
                | succ k3 =>
                  have H := HA.out
                  clear HA
                  simp only [cadencyref04_SetT.l1] at H
                  by_cases c27 : x15_3 < (x7_1.length : Int)
                  · rw [if_pos c27] at H
                    have c27b0 : decide (x15_3 < (x7_1.length : Int)) = true := decide_eq_true c27
                    clear c27
                    replace H := Option.bind_eq_some_iff.mp H
                    obtain ⟨t156, A280, H⟩ := H
                    replace H : ((cadencyref04_rest.f a2 (x7_1.length : Int)).bind fun t157 => (if (x7_1.length : Int) = 0 then (none) else (if 0 ≤ x15_3 then (if x15_3 < (x7_3.length : Int) then (cadencyref04_SetT.l1 k3 a2 (x7_3.set (x15_3 : Int).toNat (⟨(rd_T33 x7_3 x15_3).f0, (rd_T33 x7_3 x15_3).f1, (rd_T33 x7_3 x15_3).f2, (rd_T33 x7_3 x15_3).f3, (rd_T33 x7_3 x15_3).f4, (rd_T33 x7_3 x15_3).f5, wrap64 (1 + (Int.tmod (wrap64 ((wrap64 (x15_3 * t156)) + t157)) (x7_1.length : Int)))⟩ : S33)) (x7_1.length : Int) (wrap64 (x15_3 + 1))) else (none)) else (none)))) = some r := H
                    have A28 := Aside0.mk A280
                    clear A280
                    replace H := Option.bind_eq_some_iff.mp H
                    obtain ⟨t157, A290, H⟩ := H
                    replace H : (if (x7_1.length : Int) = 0 then (none) else (if 0 ≤ x15_3 then (if x15_3 < (x7_3.length : Int) then (cadencyref04_SetT.l1 k3 a2 (x7_3.set (x15_3 : Int).toNat (⟨(rd_T33 x7_3 x15_3).f0, (rd_T33 x7_3 x15_3).f1, (rd_T33 x7_3 x15_3).f2, (rd_T33 x7_3 x15_3).f3, (rd_T33 x7_3 x15_3).f4, (rd_T33 x7_3 x15_3).f5, wrap64 (1 + (Int.tmod (wrap64 ((wrap64 (x15_3 * t156)) + t157)) (x7_1.length : Int)))⟩ : S33)) (x7_1.length : Int) (wrap64 (x15_3 + 1))) else (none)) else (none))) = some r := H
                    have A29 := Aside0.mk A290
                    clear A290
                    by_cases c30 : (x7_1.length : Int) = 0
                    · rw [if_pos c30] at H
                      exact absurd H (by simp)
                    · rw [if_neg c30] at H
                      have c30b0 : ((x7_1.length : Int) == 0) = false := beq_eq_false_iff_ne.mpr c30
                      have c30b1 : ((x7_1.length : Int) != 0) = true := bne_iff_ne.mpr c30
                      have c30b2 : ¬ (x7_1 = []) := fun h_ => c30 (by rw [h_]; rfl)
                      by_cases c31 : 0 ≤ x15_3
                      · rw [if_pos c31] at H
                        have c31b0 : decide (0 ≤ x15_3) = true := decide_eq_true c31
                        clear c31
                        by_cases c32 : x15_3 < (x7_3.length : Int)
                        · rw [if_pos c32] at H
                          have c32b0 : decide (x15_3 < (x7_3.length : Int)) = true := decide_eq_true c32
                          clear c32
                          obtain ⟨y158, hy158⟩ : ∃ y_ : List (S33), y_ = (x7_3.set (x15_3 : Int).toNat (⟨(rd_T33 x7_3 x15_3).f0, (rd_T33 x7_3 x15_3).f1, (rd_T33 x7_3 x15_3).f2, (rd_T33 x7_3 x15_3).f3, (rd_T33 x7_3 x15_3).f4, (rd_T33 x7_3 x15_3).f5, wrap64 (1 + (Int.tmod (wrap64 ((wrap64 (x15_3 * t156)) + t157)) (x7_1.length : Int)))⟩ : S33)) := ⟨_, rfl⟩
                          replace H : (cadencyref04_SetT.l1 k3 a2 y158 (x7_1.length : Int) (wrap64 (x15_3 + 1))) = some r := by first | (rw [hy158]; with_reducible exact H) | (have H2_ := (Option.bind_some _ _).symm.trans H; rw [hy158]; with_reducible exact H2_) | (have H2_ := (Option.bind_some _ _).symm.trans H; with_reducible exact H2_) | with_reducible exact H | (rw [hy158]; exact H) | exact H
                          (try rw [hl7_3] at hy158)
                          have Ny158 := Aside0.mk hy158
                          clear hy158
                          have H' := Aside0.mk H
                          clear H
                          go_wp2_with (first | ((with_reducible refine gate_callee (f := 19) rfl ?_); refine goesL_ (some 101) rfl rfl Try.func19 (by kernel_rfl) rfl #[.int .i64 (x7_3.length : Int), .int .i64 a2] rfl (by (try simp only [List.map_toArray, List.map_cons, List.map_nil]); first | done | rfl | (simp only [List.length_drop, List.length_take]; rfl)) ?_; (with_reducible refine (cadencyref04_turns.calls (x7_3.length : Int) a2 t156 _ (by rw [← hl7_3]; exact A28.out)).mono ?_); rintro e w' ⟨rfl, ⟨nd, rfl⟩⟩; refine ⟨_, rfl, ?_⟩; (try (rw [drewN_self wr]; generalize hq_ : World.drewN wr _ = wr; have n0_ : Aside0 (Kd.R k33 33 wr w.heap.size (fun _ => True) (.slice Ao26 x7_3.length co26) x7_3) := ⟨by rw [← hq_]; exact (by (with_reducible repeat (first | apply Kd.R_alloc | apply Kd.R_drewN | apply Kd.R_drew)); exact HO_7.out)⟩; have n1_ : Aside0 (Below w.heap.size w wr) := ⟨by rw [← hq_]; exact (by repeat (first | (with_reducible first | exact HB.out | apply below_alloc | apply pw_below_drewN | apply below_drew1) | exact HB.out))⟩; clear HO_7 HB hq_; have HO_7 := n0_; have HB := n1_; clear n0_ n1_))) | ((with_reducible refine gate_callee (f := 18) rfl ?_); refine goesL_ (some 105) rfl rfl Try.func18 (by kernel_rfl) rfl #[.int .i64 a2, .int .i64 (x7_3.length : Int)] rfl (by (try simp only [List.map_toArray, List.map_cons, List.map_nil]); first | done | rfl | (simp only [List.length_drop, List.length_take]; rfl)) ?_; (with_reducible refine (cadencyref04_rest.calls a2 (x7_3.length : Int) t157 _ (by rw [← hl7_3]; exact A29.out)).mono ?_); rintro e w' ⟨rfl, ⟨nd, rfl⟩⟩; refine ⟨_, rfl, ?_⟩; (try (rw [drewN_self wr]; generalize hq_ : World.drewN wr _ = wr; have n0_ : Aside0 (Kd.R k33 33 wr w.heap.size (fun _ => True) (.slice Ao26 x7_3.length co26) x7_3) := ⟨by rw [← hq_]; exact (by (with_reducible repeat (first | apply Kd.R_alloc | apply Kd.R_drewN | apply Kd.R_drew)); exact HO_7.out)⟩; have n1_ : Aside0 (Below w.heap.size w wr) := ⟨by rw [← hq_]; exact (by repeat (first | (with_reducible first | exact HB.out | apply below_alloc | apply pw_below_drewN | apply below_drew1) | exact HB.out))⟩; clear HO_7 HB hq_; have HO_7 := n0_; have HB := n1_; clear n0_ n1_)); have p33 : 0 ≤ (x15_3 : Int) := of_decide_eq_true (by first | (with_reducible assumption) | assumption); have q33 : (x15_3 : Int) < ((x7_3.length : Int) : Int) := of_decide_eq_true (by first | (with_reducible assumption) | assumption); obtain ⟨go33, co33, eo33, gb33, gl33, cl33, HG33⟩ := Kd.R_form HO_7.out (by omega); (first | cases eo33 | (injection eo33 with ea_ en_ ec_; (first | subst ea_ | (injection ea_ with ea_; subst ea_)); subst ec_; clear en_)); have GB33 := Aside0.mk gb33; have GG33 := Aside0.mk HG33; clear gb33 gl33 HG33; obtain ⟨ce33, hcl33, hM33, hcc33, hfr33⟩ := Kd.R_elem HO_7.out z33 (x15_3 : Int) p33 q33; obtain rfl := k33_openM hM33; have hx33_0 : wr.cell? ⟨go33, (x15_3 : Int).toNat * 7, none⟩ = some (.string ((rd_T33 x7_3 x15_3).f0)) := hcc33 0 _ rfl; have hx33_1 : wr.cell? ⟨go33, (x15_3 : Int).toNat * 7 + 1, none⟩ = some (.int .i64 ((rd_T33 x7_3 x15_3).f1)) := hcc33 1 _ rfl; have hx33_2 : wr.cell? ⟨go33, (x15_3 : Int).toNat * 7 + 2, none⟩ = some (.int .i64 ((rd_T33 x7_3 x15_3).f2)) := hcc33 2 _ rfl; have hx33_3 : wr.cell? ⟨go33, (x15_3 : Int).toNat * 7 + 3, none⟩ = some (.int .i64 ((rd_T33 x7_3 x15_3).f3)) := hcc33 3 _ rfl; have hx33_4 : wr.cell? ⟨go33, (x15_3 : Int).toNat * 7 + 4, none⟩ = some (.int .i64 ((rd_T33 x7_3 x15_3).f4)) := hcc33 4 _ rfl; have hx33_5 : wr.cell? ⟨go33, (x15_3 : Int).toNat * 7 + 5, none⟩ = some (.int .i64 ((rd_T33 x7_3 x15_3).f5)) := hcc33 5 _ rfl; have hx33_6 : wr.cell? ⟨go33, (x15_3 : Int).toNat * 7 + 6, none⟩ = some (.int .i64 ((rd_T33 x7_3 x15_3).f6)) := hcc33 6 _ rfl; have hf33_0 : wr.frozen? ⟨go33, (x15_3 : Int).toNat * 7, none⟩ = false := hfr33 0; have hf33_1 : wr.frozen? ⟨go33, (x15_3 : Int).toNat * 7 + 1, none⟩ = false := hfr33 1; have hf33_2 : wr.frozen? ⟨go33, (x15_3 : Int).toNat * 7 + 2, none⟩ = false := hfr33 2; have hf33_3 : wr.frozen? ⟨go33, (x15_3 : Int).toNat * 7 + 3, none⟩ = false := hfr33 3; have hf33_4 : wr.frozen? ⟨go33, (x15_3 : Int).toNat * 7 + 4, none⟩ = false := hfr33 4; have hf33_5 : wr.frozen? ⟨go33, (x15_3 : Int).toNat * 7 + 5, none⟩ = false := hfr33 5; have hf33_6 : wr.frozen? ⟨go33, (x15_3 : Int).toNat * 7 + 6, none⟩ = false := hfr33 6; clear hcl33 hcc33 hfr33 hM33; replace p33 := eq_true p33; replace q33 := eq_true q33; have HX34 := Aside0.mk (show Kd.R k33 33 wr w.heap.size (fun _ => True) (.slice (some ⟨go33, 0, none⟩) x7_3.length co26) x7_3 from (by (with_reducible repeat (first | apply Kd.R_alloc | apply Kd.R_drewN | apply Kd.R_drew)); exact HO_7.out)); obtain ⟨ce34, hcl34, hM34, hcc34, hfr34⟩ := Kd.R_elem HX34.out z33 (x15_3 : Int) (of_decide_eq_true (by first | (with_reducible assumption) | assumption)) (by have h_ : (x15_3 : Int) < ((x7_3.length : Int) : Int) := of_decide_eq_true (by first | (with_reducible assumption) | assumption); first | exact h_ | (have e_ := (Kd.R_reads' HO_7.out).1; omega) | simpa using h_); obtain rfl := k33_openM hM34; have HP34 := Kd.R_seg HX34.out (x15_3 : Int) (of_decide_eq_true (by first | (with_reducible assumption) | assumption)) (by have h_ : (x15_3 : Int) < ((x7_3.length : Int) : Int) := of_decide_eq_true (by first | (with_reducible assumption) | assumption); first | exact h_ | (have e_ := (Kd.R_reads' HO_7.out).1; omega) | simpa using h_) (seg := [.int .i64 (wrap64 (1 + (Int.tmod (wrap64 ((wrap64 (x15_3 * t156)) + t157)) (x7_3.length : Int))))]) (j := 6) hcl34 hcc34 (show 7 ≤ 7 from by decide) (x' := (⟨(rd_T33 x7_3 x15_3).f0, (rd_T33 x7_3 x15_3).f1, (rd_T33 x7_3 x15_3).f2, (rd_T33 x7_3 x15_3).f3, (rd_T33 x7_3 x15_3).f4, (rd_T33 x7_3 x15_3).f5, wrap64 (1 + (Int.tmod (wrap64 ((wrap64 (x15_3 * t156)) + t157)) (x7_3.length : Int)))⟩ : S33)) (k33_mkM _ _ _ (⟨(rd_T33 x7_3 x15_3).f0, (rd_T33 x7_3 x15_3).f1, (rd_T33 x7_3 x15_3).f2, (rd_T33 x7_3 x15_3).f3, (rd_T33 x7_3 x15_3).f4, (rd_T33 x7_3 x15_3).f5, wrap64 (1 + (Int.tmod (wrap64 ((wrap64 (x15_3 * t156)) + t157)) (x7_3.length : Int)))⟩ : S33) ) (fun _ hk => hk); have hx34_6 := hcc34 6 _ rfl; (try simp only [show (k33).sz = 7 from rfl, Nat.mul_one, Nat.add_zero] at hx34_6); have hf34_6 := hfr34 6; (try simp only [show (k33).sz = 7 from rfl, Nat.mul_one, Nat.add_zero] at hf34_6); clear hcl34 hcc34 hfr34 hM34) | ((with_reducible refine gate_store (t := 3) (p := 111) rfl ?_); refine store_event (t := 3) (p := 111) (v := ?vo_w35) (w1 := (wr.setCell ⟨go33, (x15_3 : Int).toNat * 7 + 6, none⟩ (.int .i64 (wrap64 (1 + (Int.tmod (wrap64 ((wrap64 (x15_3 * t156)) + t157)) (x7_3.length : Int))))))) ?hg ?ho ?hn ?hr ?_; (case ho => rfl); (case hg => rfl); (case hn => rfl); (case hr => first | (go_simp; done) | (go_simp; rfl)); intro w35 hw; have hg : wr.grownBy w35 (some go33) := (by rw [hw]; exact HP34.2); have hp_ : Kd.R k33 33 w35 w.heap.size (fun _ => True) (.slice (some ⟨go33, 0, none⟩) x7_3.length co26) y158 := (by rw [hw, Ny158.out]; exact HP34.1); clear HP34; have n0_ := Aside0.mk (hp_); have n1_ := Aside0.mk ((by rw [hw]; exact below_set (HB.out) GB33.out : Below w.heap.size w w35)); clear HO_7; clear HB; have HO_7 := n0_; have HB := n1_; clear n0_ n1_; clear hg hw hp_))
                          (try simp only [← hl7_3])
                          go_roundg k3
                          case measure => have := HK1.out; have := HJ6.out; have := HK3.out; omega
                          case rel => exact ⟨(y158), (wrap64 (x15_3 + 1)), (by first | rfl | (simp; done) | (simp [*]; done)), H', ⟨by have := HK1.out; have := HJ6.out; have := HK3.out; omega⟩, ⟨by (try simp only [hl7_3]); (with_reducible repeat (first | apply Kd.R_alloc | apply Kd.R_drewN | apply Kd.R_drew)); exact HO_7.out⟩, ⟨by repeat (first | (with_reducible first | exact HB.out | apply below_alloc | apply pw_below_drewN | apply below_drew1) | exact HB.out)⟩⟩
                        · rw [if_neg c32] at H
                          exact absurd H (by simp)
                      · rw [if_neg c31] at H
                        exact absurd H (by simp)
                  · rw [if_neg c27] at H
                    have c27b0 : decide (x15_3 < (x7_1.length : Int)) = false := decide_eq_false c27
                    clear c27
                    (try rw [hl7_3] at c27b0)
                    obtain rfl := Option.some.inj H
                    go_wp2
                    go_ret
                    exact ⟨_, by first | rfl | (simp [errW_none, errW_some] <;> rfl) | (simp [*, errW_none, errW_some] <;> rfl), by (with_reducible repeat (first | apply Kd.R_alloc | apply Kd.R_drewN | apply Kd.R_drew)); exact HO_7.out, by repeat (first | (with_reducible first | exact HB.out | apply below_alloc | apply pw_below_drewN | apply below_drew1) | exact HB.out)⟩
  · rw [if_neg c4] at H
    exact absurd H (by simp)

end Go.Proofs.Ytefdcjmfbjlinaa.A
