-- written by a program (wip/dev/print2.sh): functions of the program as plain Lean, with their contracts
import Derived.Test.YtefdcjmfbjlinaaAx0
import Derived.Test.YtefdcjmfbjlinaaAx4
namespace Go.Proofs.Ytefdcjmfbjlinaa.A
open Go.RowKit Go.Proofs.YtefdcjmfbjlinaaW.PrintWords Go.Proofs.YtefdcjmfbjlinaaW.PrintLast Go.Proofs.YtefdcjmfbjlinaaW.PrintMore
set_option linter.unusedVariables false
set_option linter.unusedSimpArgs false

/-! ### cadencyref04_SetF: function 8 -/
mutual
def cadencyref04_SetF.l0 : Nat → List (S43) → Int → Int → List (S33) → Int → Option ((List (S33)))
  | 0, _, _, _, _, _ => none
  | k + 1, x0, x1, x2, x7, x8 => if x8 < (x0.length : Int) then (cadencyref04_SetF.j1 k x0 x1 x2 x7 x8 (decide (x8 < x1))) else (cadencyref04_SetF.j1 k x0 x1 x2 x7 x8 false)
def cadencyref04_SetF.j1 : Nat → List (S43) → Int → Int → List (S33) → Int → Bool → Option ((List (S33)))
  | 0, _, _, _, _, _, _ => none
  | k + 1, x0, x1, x2, x7, x8, x30 => if x30 = true then (if 0 ≤ x8 then (if x8 < (x0.length : Int) then ((cadencyref04_rest.f ((rd_T43 x0 x8).f0) 4).bind fun t160 => ((cadencyref04_rest.f ((rd_T43 x0 x8).f1) 11).bind fun t162 => ((cadencyref04_rest.f ((rd_T43 x0 x8).f2) (wrap64 ((wrap64 ((wrap64 ((wrap64 (1 + t160)) + t162)) - (wrap64 (1 + t160)))) + 1))).bind fun t164 => ((cadencyref04_rest.f ((rd_T43 x0 x8).f4) 7).bind fun t166 => ((cadencyref04_rest.f ((rd_T43 x0 x8).f3) (wrap64 (1 + t160))).bind fun t168 => ((some (([(wrap64 (97 + x8)) % 256] : List Int) : List Int)).bind fun y169 => (if 1 + (strOfNums y169).size ≤ 9223372036854775807 then (if x7.length < 2199023255552 then (cadencyref04_SetF.l0 k x0 x1 x2 (x7 ++ [(⟨(⟨#[116]⟩ : ByteArray) ++ (strOfNums y169), wrap64 (1 + t160), wrap64 ((wrap64 ((wrap64 (1 + t160)) + t162)) + t166), wrap64 ((wrap64 (1 + t160)) + t162), t164, wrap64 (1 + t168), 0⟩ : S33)]) (wrap64 (x8 + 1))) else (none)) else (none)))))))) else (none)) else (none)) else (cadencyref04_SetF.l1 k x2 x7 (x7.length : Int) 0)
def cadencyref04_SetF.l1 : Nat → Int → List (S33) → Int → Int → Option ((List (S33)))
  | 0, _, _, _, _ => none
  | k + 1, x2, x7, x14, x15 => if x15 < x14 then ((cadencyref04_turns.f x14 x2).bind fun t175 => ((cadencyref04_rest.f x2 x14).bind fun t176 => (if x14 = 0 then (none) else (if 0 ≤ x15 then (if x15 < (x7.length : Int) then (cadencyref04_SetF.l1 k x2 (x7.set (x15 : Int).toNat (⟨(rd_T33 x7 x15).f0, (rd_T33 x7 x15).f1, (rd_T33 x7 x15).f2, (rd_T33 x7 x15).f3, (rd_T33 x7 x15).f4, (rd_T33 x7 x15).f5, wrap64 (1 + (Int.tmod (wrap64 ((wrap64 (x15 * t175)) + t176)) x14))⟩ : S33)) x14 (wrap64 (x15 + 1))) else (none)) else (none))))) else (some x7)
end
def cadencyref04_SetF.f (k : Nat) (l0 : List (S43)) (a1 : Int) (a2 : Int) : Option ((List (S33))) := if (l0.length : Int) = 0 then (none) else (cadencyref04_SetF.l0 k l0 a1 a2 ([] : List (S33)) 0)
set_option maxHeartbeats 8000000 in
set_option maxRecDepth 100000 in
theorem cadencyref04_SetF.calls (k : Nat) (A0 : Option Addr) (c0 : Nat) (l0 : List (S43)) (a1 : Int) (a2 : Int) (r : List (S33)) (w : World) (hr0 : Kd.C k43 w A0 l0.length l0) (hc0 : l0.length ≤ c0) (h : cadencyref04_SetF.f k l0 a1 a2 = some r) :
    Calls Try.prog 8 #[.slice A0 l0.length c0, .int .i64 a1, .int .i64 a2] w fun e w' => ∃ v0_ : Value, e = .returned (v0_) ∧ Kd.R k33 33 w' w.heap.size (fun _ => True) v0_ r ∧ Below w.heap.size w w' := by
  have hu43 := Try.underlying43
  have hu33 := Try.underlying33
  have HR0 := Aside0.mk hr0
  have HC0 := Aside0.mk hc0
  clear hr0 hc0
  have HB := Aside0.mk (Below.refl w.heap.size w)
  have H : (if (l0.length : Int) = 0 then (none) else (cadencyref04_SetF.l0 k l0 a1 a2 ([] : List (S33)) 0)) = some r := h
  clear h
  by_cases c4 : (l0.length : Int) = 0
  · rw [if_pos c4] at H
    exact absurd H (by simp)
  · rw [if_neg c4] at H
    have c4b0 : ((l0.length : Int) == 0) = false := beq_eq_false_iff_ne.mpr c4
    have c4b1 : ((l0.length : Int) != 0) = true := bne_iff_ne.mpr c4
    have c4b2 : ¬ (l0 = []) := fun h_ => c4 (by rw [h_]; rfl)
    have H' := Aside0.mk H
    clear H
    go_enter Try.func8, Try.ntmps8
    go_wp2
    go_loopg [7, 8] k (fun kq v7 v8 w' => ∃ (x7_1 : List (S33)) (x8_1 : Int), v8 = .int .i64 x8_1 ∧ Aside0 (cadencyref04_SetF.l0 kq l0 a1 a2 x7_1 x8_1 = some r) ∧ Aside0 (kq ≤ k) ∧ Aside0 (Kd.R k33 33 w' w.heap.size (fun _ => True) v7 x7_1) ∧ Aside0 (Below w.heap.size w w'))
    case atStart => exact ⟨(([] : List (S33))), (0), (by first | rfl | (simp; done) | (simp [*]; done)), H', ⟨Nat.le_refl _⟩, ⟨by first | exact Kd.R_nil _ _ _ _ _ | exact Kd.N_nil _ _ _ _ _ | exact Kd.V_nil _ _ _ _ _ | exact Kd.Q_nil _ _ _ _ _ | exact Kd.S_nil _ _ _ _ _⟩, ⟨by repeat (first | (with_reducible first | exact HB.out | apply below_alloc | apply pw_below_drewN | apply below_drew1) | exact HB.out)⟩⟩
    case round =>
      clear H'
      try clear p2
      try clear c4
      try clear c4b0
      try clear c4b1
      try clear c4b2
      obtain ⟨x7_1, x8_1, rfl, HA, HK1, HO_7, HB⟩ := hrel
      cases gk with
      | zero => exact absurd HA.out (by simp [cadencyref04_SetF.l0])
      | succ k1 =>
        have H := HA.out
        clear HA
        simp only [cadencyref04_SetF.l0] at H
        have HC5 := Aside0.mk H
        clear H
        go_upto_region 5 with (fail)
        go_cut [30] (fun v30 wc => ∃ (kq : Nat) (x30_4 : Bool), v30 = .bool x30_4 ∧ Aside0 (cadencyref04_SetF.j1 kq l0 a1 a2 x7_1 x8_1 x30_4 = some r) ∧ Aside0 (kq ≤ k1) ∧ Aside0 (Kd.R k33 33 wc w.heap.size (fun _ => True) u7 x7_1) ∧ Aside0 (Below w.heap.size w wc))
        case first =>
          have H := HC5.out
          clear HC5
          by_cases c6 : x8_1 < (l0.length : Int)
          · rw [if_pos c6] at H
            have c6b0 : decide (x8_1 < (l0.length : Int)) = true := decide_eq_true c6
            clear c6
            (first | rw [c6b0] | (simp only [i64_w, i32_w]; rw [c6b0]) | skip)
            have H' := Aside0.mk H
            clear H
            go_wp2
            go_meet
            case rel => exact ⟨_, (decide (x8_1 < a1)), (by first | rfl | (simp; done) | (simp [*]; done)), H', ⟨by have := HK1.out; first | omega | exact Nat.le_refl _⟩, ⟨by (with_reducible repeat (first | apply Kd.R_alloc | apply Kd.R_drewN | apply Kd.R_drew)); exact HO_7.out⟩, ⟨by repeat (first | (with_reducible first | exact HB.out | apply below_alloc | apply pw_below_drewN | apply below_drew1) | exact HB.out)⟩⟩
          · rw [if_neg c6] at H
            have c6b0 : decide (x8_1 < (l0.length : Int)) = false := decide_eq_false c6
            clear c6
            (first | rw [c6b0] | (simp only [i64_w, i32_w]; rw [c6b0]) | skip)
            have H' := Aside0.mk H
            clear H
            go_wp2
            go_meet
            case rel => exact ⟨_, (false), (by first | rfl | (simp; done) | (simp [*]; done)), H', ⟨by have := HK1.out; first | omega | exact Nat.le_refl _⟩, ⟨by (with_reducible repeat (first | apply Kd.R_alloc | apply Kd.R_drewN | apply Kd.R_drew)); exact HO_7.out⟩, ⟨by repeat (first | (with_reducible first | exact HB.out | apply below_alloc | apply pw_below_drewN | apply below_drew1) | exact HB.out)⟩⟩
        case rest =>
          clear HC5
          try clear p2
          try clear c4
          try clear c4b0
          try clear c4b1
          try clear c4b2
          try clear c6
          try clear c6b0
          try clear p2
          obtain ⟨kq, x30_4, rfl, HA, HJ4, HO_7, HB⟩ := hcut
          cases kq with
          | zero => exact absurd HA.out (by simp [cadencyref04_SetF.j1])
          | succ kj4 =>
            have H := HA.out
            clear HA
            simp only [cadencyref04_SetF.j1] at H
            by_cases c7 : x30_4 = true
            · subst c7
              have H1 : (if 0 ≤ x8_1 then (if x8_1 < (l0.length : Int) then ((cadencyref04_rest.f ((rd_T43 l0 x8_1).f0) 4).bind fun t160 => ((cadencyref04_rest.f ((rd_T43 l0 x8_1).f1) 11).bind fun t162 => ((cadencyref04_rest.f ((rd_T43 l0 x8_1).f2) (wrap64 ((wrap64 ((wrap64 ((wrap64 (1 + t160)) + t162)) - (wrap64 (1 + t160)))) + 1))).bind fun t164 => ((cadencyref04_rest.f ((rd_T43 l0 x8_1).f4) 7).bind fun t166 => ((cadencyref04_rest.f ((rd_T43 l0 x8_1).f3) (wrap64 (1 + t160))).bind fun t168 => ((some (([(wrap64 (97 + x8_1)) % 256] : List Int) : List Int)).bind fun y169 => (if 1 + (strOfNums y169).size ≤ 9223372036854775807 then (if x7_1.length < 2199023255552 then (cadencyref04_SetF.l0 kj4 l0 a1 a2 (x7_1 ++ [(⟨(⟨#[116]⟩ : ByteArray) ++ (strOfNums y169), wrap64 (1 + t160), wrap64 ((wrap64 ((wrap64 (1 + t160)) + t162)) + t166), wrap64 ((wrap64 (1 + t160)) + t162), t164, wrap64 (1 + t168), 0⟩ : S33)]) (wrap64 (x8_1 + 1))) else (none)) else (none)))))))) else (none)) else (none)) = some r := by rw [if_pos rfl] at H; exact H
              clear H
              have H := H1
              clear H1
              by_cases c8 : 0 ≤ x8_1
              · rw [if_pos c8] at H
                have c8b0 : decide (0 ≤ x8_1) = true := decide_eq_true c8
                clear c8
                by_cases c9 : x8_1 < (l0.length : Int)
                · rw [if_pos c9] at H
                  have c9b0 : decide (x8_1 < (l0.length : Int)) = true := decide_eq_true c9
                  clear c9
                  replace H := Option.bind_eq_some_iff.mp H
                  obtain ⟨t160, A100, H⟩ := H
                  replace H : ((cadencyref04_rest.f ((rd_T43 l0 x8_1).f1) 11).bind fun t162 => ((cadencyref04_rest.f ((rd_T43 l0 x8_1).f2) (wrap64 ((wrap64 ((wrap64 ((wrap64 (1 + t160)) + t162)) - (wrap64 (1 + t160)))) + 1))).bind fun t164 => ((cadencyref04_rest.f ((rd_T43 l0 x8_1).f4) 7).bind fun t166 => ((cadencyref04_rest.f ((rd_T43 l0 x8_1).f3) (wrap64 (1 + t160))).bind fun t168 => ((some (([(wrap64 (97 + x8_1)) % 256] : List Int) : List Int)).bind fun y169 => (if 1 + (strOfNums y169).size ≤ 9223372036854775807 then (if x7_1.length < 2199023255552 then (cadencyref04_SetF.l0 kj4 l0 a1 a2 (x7_1 ++ [(⟨(⟨#[116]⟩ : ByteArray) ++ (strOfNums y169), wrap64 (1 + t160), wrap64 ((wrap64 ((wrap64 (1 + t160)) + t162)) + t166), wrap64 ((wrap64 (1 + t160)) + t162), t164, wrap64 (1 + t168), 0⟩ : S33)]) (wrap64 (x8_1 + 1))) else (none)) else (none))))))) = some r := H
                  have A10 := Aside0.mk A100
                  clear A100
                  replace H := Option.bind_eq_some_iff.mp H
                  obtain ⟨t162, A110, H⟩ := H
                  replace H : ((cadencyref04_rest.f ((rd_T43 l0 x8_1).f2) (wrap64 ((wrap64 ((wrap64 ((wrap64 (1 + t160)) + t162)) - (wrap64 (1 + t160)))) + 1))).bind fun t164 => ((cadencyref04_rest.f ((rd_T43 l0 x8_1).f4) 7).bind fun t166 => ((cadencyref04_rest.f ((rd_T43 l0 x8_1).f3) (wrap64 (1 + t160))).bind fun t168 => ((some (([(wrap64 (97 + x8_1)) % 256] : List Int) : List Int)).bind fun y169 => (if 1 + (strOfNums y169).size ≤ 9223372036854775807 then (if x7_1.length < 2199023255552 then (cadencyref04_SetF.l0 kj4 l0 a1 a2 (x7_1 ++ [(⟨(⟨#[116]⟩ : ByteArray) ++ (strOfNums y169), wrap64 (1 + t160), wrap64 ((wrap64 ((wrap64 (1 + t160)) + t162)) + t166), wrap64 ((wrap64 (1 + t160)) + t162), t164, wrap64 (1 + t168), 0⟩ : S33)]) (wrap64 (x8_1 + 1))) else (none)) else (none)))))) = some r := H
                  have A11 := Aside0.mk A110
                  clear A110
                  replace H := Option.bind_eq_some_iff.mp H
                  obtain ⟨t164, A120, H⟩ := H
                  replace H : ((cadencyref04_rest.f ((rd_T43 l0 x8_1).f4) 7).bind fun t166 => ((cadencyref04_rest.f ((rd_T43 l0 x8_1).f3) (wrap64 (1 + t160))).bind fun t168 => ((some (([(wrap64 (97 + x8_1)) % 256] : List Int) : List Int)).bind fun y169 => (if 1 + (strOfNums y169).size ≤ 9223372036854775807 then (if x7_1.length < 2199023255552 then (cadencyref04_SetF.l0 kj4 l0 a1 a2 (x7_1 ++ [(⟨(⟨#[116]⟩ : ByteArray) ++ (strOfNums y169), wrap64 (1 + t160), wrap64 ((wrap64 ((wrap64 (1 + t160)) + t162)) + t166), wrap64 ((wrap64 (1 + t160)) + t162), t164, wrap64 (1 + t168), 0⟩ : S33)]) (wrap64 (x8_1 + 1))) else (none)) else (none))))) = some r := H
                  have A12 := Aside0.mk A120
                  clear A120
                  replace H := Option.bind_eq_some_iff.mp H
                  obtain ⟨t166, A130, H⟩ := H
                  replace H : ((cadencyref04_rest.f ((rd_T43 l0 x8_1).f3) (wrap64 (1 + t160))).bind fun t168 => ((some (([(wrap64 (97 + x8_1)) % 256] : List Int) : List Int)).bind fun y169 => (if 1 + (strOfNums y169).size ≤ 9223372036854775807 then (if x7_1.length < 2199023255552 then (cadencyref04_SetF.l0 kj4 l0 a1 a2 (x7_1 ++ [(⟨(⟨#[116]⟩ : ByteArray) ++ (strOfNums y169), wrap64 (1 + t160), wrap64 ((wrap64 ((wrap64 (1 + t160)) + t162)) + t166), wrap64 ((wrap64 (1 + t160)) + t162), t164, wrap64 (1 + t168), 0⟩ : S33)]) (wrap64 (x8_1 + 1))) else (none)) else (none)))) = some r := H
                  have A13 := Aside0.mk A130
                  clear A130
                  replace H := Option.bind_eq_some_iff.mp H
                  obtain ⟨t168, A140, H⟩ := H
                  replace H : ((some (([(wrap64 (97 + x8_1)) % 256] : List Int) : List Int)).bind fun y169 => (if 1 + (strOfNums y169).size ≤ 9223372036854775807 then (if x7_1.length < 2199023255552 then (cadencyref04_SetF.l0 kj4 l0 a1 a2 (x7_1 ++ [(⟨(⟨#[116]⟩ : ByteArray) ++ (strOfNums y169), wrap64 (1 + t160), wrap64 ((wrap64 ((wrap64 (1 + t160)) + t162)) + t166), wrap64 ((wrap64 (1 + t160)) + t162), t164, wrap64 (1 + t168), 0⟩ : S33)]) (wrap64 (x8_1 + 1))) else (none)) else (none))) = some r := H
                  have A14 := Aside0.mk A140
                  clear A140
                  obtain ⟨y169, hy169⟩ : ∃ y_ : List Int, y_ = (([(wrap64 (97 + x8_1)) % 256] : List Int)) := ⟨_, rfl⟩
                  replace H : (if 1 + (strOfNums y169).size ≤ 9223372036854775807 then (if x7_1.length < 2199023255552 then (cadencyref04_SetF.l0 kj4 l0 a1 a2 (x7_1 ++ [(⟨(⟨#[116]⟩ : ByteArray) ++ (strOfNums y169), wrap64 (1 + t160), wrap64 ((wrap64 ((wrap64 (1 + t160)) + t162)) + t166), wrap64 ((wrap64 (1 + t160)) + t162), t164, wrap64 (1 + t168), 0⟩ : S33)]) (wrap64 (x8_1 + 1))) else (none)) else (none)) = some r := by first | (rw [hy169]; with_reducible exact H) | (have H2_ := (Option.bind_some _ _).symm.trans H; rw [hy169]; with_reducible exact H2_) | (have H2_ := (Option.bind_some _ _).symm.trans H; with_reducible exact H2_) | with_reducible exact H | (rw [hy169]; exact H) | exact H
                  have Ny169 := Aside0.mk hy169
                  clear hy169
                  by_cases c15 : 1 + (strOfNums y169).size ≤ 9223372036854775807
                  · rw [if_pos c15] at H
                    have c15b0 := eq_true c15
                    have c15b1 : decide (1 + (strOfNums y169).size ≤ 9223372036854775807) = true := decide_eq_true c15
                    try have c15b2 : (9223372036854775807 < 1 + (strOfNums y169).size) = False := eq_false (Nat.not_lt.2 c15)
                    by_cases c16 : x7_1.length < 2199023255552
                    · rw [if_pos c16] at H
                      have LMc16 := Aside0.mk c16
                      clear c16
                      obtain ⟨y172, hy172⟩ : ∃ y_ : List (S33), y_ = (x7_1 ++ [(⟨(⟨#[116]⟩ : ByteArray) ++ (strOfNums y169), wrap64 (1 + t160), wrap64 ((wrap64 ((wrap64 (1 + t160)) + t162)) + t166), wrap64 ((wrap64 (1 + t160)) + t162), t164, wrap64 (1 + t168), 0⟩ : S33)]) := ⟨_, rfl⟩
                      replace H : (cadencyref04_SetF.l0 kj4 l0 a1 a2 y172 (wrap64 (x8_1 + 1))) = some r := by first | (rw [hy172]; with_reducible exact H) | (have H2_ := (Option.bind_some _ _).symm.trans H; rw [hy172]; with_reducible exact H2_) | (have H2_ := (Option.bind_some _ _).symm.trans H; with_reducible exact H2_) | with_reducible exact H | (rw [hy172]; exact H) | exact H
                      have Ny172 := Aside0.mk hy172
                      clear hy172
                      have H' := Aside0.mk H
                      clear H
                      have p159 : 0 ≤ (x8_1 : Int) := of_decide_eq_true (by first | (with_reducible assumption) | assumption)
                      have q159 : x8_1 < (l0.length : Int) := of_decide_eq_true (by first | (with_reducible assumption) | assumption)
                      obtain ⟨ad159, e159, hx159_0, hx159_1, hx159_2, hx159_3, hx159_4⟩ := at_T43 HR0.out x8_1 p159 q159
                      cases e159
                      replace hx159_0 := (HB.out.cell (World.block_lt_of_cell? w _ hx159_0)).trans hx159_0
                      replace hx159_1 := (HB.out.cell (World.block_lt_of_cell? w _ hx159_1)).trans hx159_1
                      replace hx159_2 := (HB.out.cell (World.block_lt_of_cell? w _ hx159_2)).trans hx159_2
                      replace hx159_3 := (HB.out.cell (World.block_lt_of_cell? w _ hx159_3)).trans hx159_3
                      replace hx159_4 := (HB.out.cell (World.block_lt_of_cell? w _ hx159_4)).trans hx159_4
                      replace p159 := eq_true p159
                      replace q159 := eq_true q159
                      go_wp2_with (first | ((with_reducible refine gate_callee (f := 18) rfl ?_); refine goesL_ (some 38) rfl rfl Try.func18 (by kernel_rfl) rfl #[.int .i64 ((rd_T43 l0 x8_1).f0), .int .i64 4] rfl (by (try simp only [List.map_toArray, List.map_cons, List.map_nil]); first | done | rfl | (simp only [List.length_drop, List.length_take]; rfl)) ?_; (with_reducible refine (cadencyref04_rest.calls ((rd_T43 l0 x8_1).f0) 4 t160 _ A10.out).mono ?_); rintro e w' ⟨rfl, ⟨nd, rfl⟩⟩; refine ⟨_, rfl, ?_⟩; have p161 : 0 ≤ (x8_1 : Int) := of_decide_eq_true (by first | (with_reducible assumption) | assumption); have q161 : x8_1 < (l0.length : Int) := of_decide_eq_true (by first | (with_reducible assumption) | assumption); obtain ⟨ad161, e161, hx161_0, hx161_1, hx161_2, hx161_3, hx161_4⟩ := at_T43 HR0.out x8_1 p161 q161; obtain rfl : ad159 = ad161 := (by injection e161); replace hx161_0 := (HB.out.cell (World.block_lt_of_cell? w _ hx161_0)).trans hx161_0; replace hx161_1 := (HB.out.cell (World.block_lt_of_cell? w _ hx161_1)).trans hx161_1; replace hx161_2 := (HB.out.cell (World.block_lt_of_cell? w _ hx161_2)).trans hx161_2; replace hx161_3 := (HB.out.cell (World.block_lt_of_cell? w _ hx161_3)).trans hx161_3; replace hx161_4 := (HB.out.cell (World.block_lt_of_cell? w _ hx161_4)).trans hx161_4; replace p161 := eq_true p161; replace q161 := eq_true q161) | ((with_reducible refine gate_callee (f := 18) rfl ?_); refine goesL_ (some 46) rfl rfl Try.func18 (by kernel_rfl) rfl #[.int .i64 ((rd_T43 l0 x8_1).f1), .int .i64 11] rfl (by (try simp only [List.map_toArray, List.map_cons, List.map_nil]); first | done | rfl | (simp only [List.length_drop, List.length_take]; rfl)) ?_; (with_reducible refine (cadencyref04_rest.calls ((rd_T43 l0 x8_1).f1) 11 t162 _ A11.out).mono ?_); rintro e w' ⟨rfl, ⟨nd, rfl⟩⟩; refine ⟨_, rfl, ?_⟩; have p163 : 0 ≤ (x8_1 : Int) := of_decide_eq_true (by first | (with_reducible assumption) | assumption); have q163 : x8_1 < (l0.length : Int) := of_decide_eq_true (by first | (with_reducible assumption) | assumption); obtain ⟨ad163, e163, hx163_0, hx163_1, hx163_2, hx163_3, hx163_4⟩ := at_T43 HR0.out x8_1 p163 q163; obtain rfl : ad159 = ad163 := (by injection e163); replace hx163_0 := (HB.out.cell (World.block_lt_of_cell? w _ hx163_0)).trans hx163_0; replace hx163_1 := (HB.out.cell (World.block_lt_of_cell? w _ hx163_1)).trans hx163_1; replace hx163_2 := (HB.out.cell (World.block_lt_of_cell? w _ hx163_2)).trans hx163_2; replace hx163_3 := (HB.out.cell (World.block_lt_of_cell? w _ hx163_3)).trans hx163_3; replace hx163_4 := (HB.out.cell (World.block_lt_of_cell? w _ hx163_4)).trans hx163_4; replace p163 := eq_true p163; replace q163 := eq_true q163) | ((with_reducible refine gate_callee (f := 18) rfl ?_); refine goesL_ (some 57) rfl rfl Try.func18 (by kernel_rfl) rfl #[.int .i64 ((rd_T43 l0 x8_1).f2), .int .i64 (wrap64 ((wrap64 ((wrap64 ((wrap64 (1 + t160)) + t162)) - (wrap64 (1 + t160)))) + 1))] rfl (by (try simp only [List.map_toArray, List.map_cons, List.map_nil]); first | done | rfl | (simp only [List.length_drop, List.length_take]; rfl)) ?_; (with_reducible refine (cadencyref04_rest.calls ((rd_T43 l0 x8_1).f2) (wrap64 ((wrap64 ((wrap64 ((wrap64 (1 + t160)) + t162)) - (wrap64 (1 + t160)))) + 1)) t164 _ A12.out).mono ?_); rintro e w' ⟨rfl, ⟨nd, rfl⟩⟩; refine ⟨_, rfl, ?_⟩; have p165 : 0 ≤ (x8_1 : Int) := of_decide_eq_true (by first | (with_reducible assumption) | assumption); have q165 : x8_1 < (l0.length : Int) := of_decide_eq_true (by first | (with_reducible assumption) | assumption); obtain ⟨ad165, e165, hx165_0, hx165_1, hx165_2, hx165_3, hx165_4⟩ := at_T43 HR0.out x8_1 p165 q165; obtain rfl : ad159 = ad165 := (by injection e165); replace hx165_0 := (HB.out.cell (World.block_lt_of_cell? w _ hx165_0)).trans hx165_0; replace hx165_1 := (HB.out.cell (World.block_lt_of_cell? w _ hx165_1)).trans hx165_1; replace hx165_2 := (HB.out.cell (World.block_lt_of_cell? w _ hx165_2)).trans hx165_2; replace hx165_3 := (HB.out.cell (World.block_lt_of_cell? w _ hx165_3)).trans hx165_3; replace hx165_4 := (HB.out.cell (World.block_lt_of_cell? w _ hx165_4)).trans hx165_4; replace p165 := eq_true p165; replace q165 := eq_true q165) | ((with_reducible refine gate_callee (f := 18) rfl ?_); refine goesL_ (some 64) rfl rfl Try.func18 (by kernel_rfl) rfl #[.int .i64 ((rd_T43 l0 x8_1).f4), .int .i64 7] rfl (by (try simp only [List.map_toArray, List.map_cons, List.map_nil]); first | done | rfl | (simp only [List.length_drop, List.length_take]; rfl)) ?_; (with_reducible refine (cadencyref04_rest.calls ((rd_T43 l0 x8_1).f4) 7 t166 _ A13.out).mono ?_); rintro e w' ⟨rfl, ⟨nd, rfl⟩⟩; refine ⟨_, rfl, ?_⟩; have p167 : 0 ≤ (x8_1 : Int) := of_decide_eq_true (by first | (with_reducible assumption) | assumption); have q167 : x8_1 < (l0.length : Int) := of_decide_eq_true (by first | (with_reducible assumption) | assumption); obtain ⟨ad167, e167, hx167_0, hx167_1, hx167_2, hx167_3, hx167_4⟩ := at_T43 HR0.out x8_1 p167 q167; obtain rfl : ad159 = ad167 := (by injection e167); replace hx167_0 := (HB.out.cell (World.block_lt_of_cell? w _ hx167_0)).trans hx167_0; replace hx167_1 := (HB.out.cell (World.block_lt_of_cell? w _ hx167_1)).trans hx167_1; replace hx167_2 := (HB.out.cell (World.block_lt_of_cell? w _ hx167_2)).trans hx167_2; replace hx167_3 := (HB.out.cell (World.block_lt_of_cell? w _ hx167_3)).trans hx167_3; replace hx167_4 := (HB.out.cell (World.block_lt_of_cell? w _ hx167_4)).trans hx167_4; replace p167 := eq_true p167; replace q167 := eq_true q167) | ((with_reducible refine gate_callee (f := 18) rfl ?_); refine goesL_ (some 72) rfl rfl Try.func18 (by kernel_rfl) rfl #[.int .i64 ((rd_T43 l0 x8_1).f3), .int .i64 (wrap64 (1 + t160))] rfl (by (try simp only [List.map_toArray, List.map_cons, List.map_nil]); first | done | rfl | (simp only [List.length_drop, List.length_take]; rfl)) ?_; (with_reducible refine (cadencyref04_rest.calls ((rd_T43 l0 x8_1).f3) (wrap64 (1 + t160)) t168 _ A14.out).mono ?_); rintro e w' ⟨rfl, ⟨nd, rfl⟩⟩; refine ⟨_, rfl, ?_⟩) | ((with_reducible refine gate_dst (N := 78) rfl ?_); refine Kd.R_lit (Kd.int .u8) _ 5 ?hg (N := 78) ?hd (xs := ([(wrap64 (97 + x8_1)) % 256] : List Int)) (inner := [.int .u8 ((wrap64 (97 + x8_1)) % 256)]) (ok := fun _ => True) (okp := fun _ => True) ?hr ?hp (fun _ hk => hk) trivial (Below.refl _ _) (Nat.le_refl _) (by simp) ?_; (case hd => rfl); (case hg => rfl); (case hr => first | (go_simp; done) | (go_simp; rfl)); (case hp => exact (Reps.one (show Kd.M (Kd.int .u8) _ _ _ ((wrap64 (97 + x8_1)) % 256) [.int .u8 ((wrap64 (97 + x8_1)) % 256)] from rfl) (Reps.none _ _))); intro v170 w17 ho18 hb hg_ hnew_; clear hg_ hnew_; (first | rw [← Ny169.out] at ho18 | (simp only [Int.reduceToNat] at ho18; rw [← Ny169.out] at ho18)); have n0_ := Aside0.mk (Kd.R_below (by (with_reducible repeat (first | apply Kd.R_alloc | apply Kd.R_drewN | apply Kd.R_drew)); exact HO_7.out) hb); have n1_ := Aside0.mk (Kd.R_lower ho18 (below_size (by repeat (first | (with_reducible first | exact HB.out | apply below_alloc | apply pw_below_drewN | apply below_drew1) | exact HB.out)))); have n2_ := Aside0.mk (below_step (by repeat (first | (with_reducible first | exact HB.out | apply below_alloc | apply pw_below_drewN | apply below_drew1) | exact HB.out)) hb); clear HO_7; clear HB; have HO_7 := n0_; have HO171 := n1_; have HB := n2_; clear n0_ n1_ n2_; clear hb ho18; have hcv19 := own_string (P := Try.prog) Try.underlying44 Try.underlying5 Try.underlying9 (Kd.own_of_R HO171.out)) | ((with_reducible refine gate_builtin (b := .append) (xs := #[.tmp 74, .tmp 87]) rfl ?_); at_builtin; refine Kd.R_append k33 (w0 := w) w.heap.size rfl (.tmp 74) (.tmp 87) 26 33 (.agg #[(.string ⟨#[]⟩), (.int .i64 0), (.int .i64 0), (.int .i64 0), (.int .i64 0), (.int .i64 0), (.int .i64 0)]) 64 rfl Try.underlying26 info33 rfl (by decide) (by omega) u7 x7_1 (⟨(⟨#[116]⟩ : ByteArray) ++ (strOfNums y169), wrap64 (1 + t160), wrap64 ((wrap64 ((wrap64 (1 + t160)) + t162)) + t166), wrap64 ((wrap64 (1 + t160)) + t162), t164, wrap64 (1 + t168), 0⟩ : S33) [.string ((⟨#[116]⟩ : ByteArray) ++ (strOfNums y169)), .int .i64 (wrap64 (1 + t160)), .int .i64 (wrap64 ((wrap64 ((wrap64 (1 + t160)) + t162)) + t166)), .int .i64 (wrap64 ((wrap64 (1 + t160)) + t162)), .int .i64 t164, .int .i64 (wrap64 (1 + t168)), .int .i64 0] (fun _ => True) (fun _ => False) rfl rfl ?aP (fun _ hk => hk.elim) ?aF ?aO ?aB ?aS ?aL ?_; (case aP => exact k33_mkM _ _ _ (⟨(⟨#[116]⟩ : ByteArray) ++ (strOfNums y169), wrap64 (1 + t160), wrap64 ((wrap64 ((wrap64 (1 + t160)) + t162)) + t166), wrap64 ((wrap64 (1 + t160)) + t162), t164, wrap64 (1 + t168), 0⟩ : S33)); (case aB => exact (by repeat (first | (with_reducible first | exact HB.out | apply below_alloc | apply pw_below_drewN | apply below_drew1) | exact HB.out))); (case aF => exact (fun _ _ => trivial)); (case aO => exact (by (with_reducible repeat (first | apply Kd.R_alloc | apply Kd.R_drewN | apply Kd.R_drew)); exact HO_7.out)); (case aS => exact (below_size (by repeat (first | (with_reducible first | exact HB.out | apply below_alloc | apply pw_below_drewN | apply below_drew1) | exact HB.out)))); (case aL => have := LMc16.out; omega); intro v173 w20 ho hb hg hat; rw [← Ny172.out] at ho; have n0_ := Aside0.mk (Kd.R_over' (by (with_reducible repeat (first | apply Kd.R_alloc | apply Kd.R_drewN | apply Kd.R_drew)); exact HO171.out) (Kd.R_typed (by (with_reducible repeat (first | apply Kd.R_alloc | apply Kd.R_drewN | apply Kd.R_drew)); exact HO_7.out)) (by decide) hg); have n1_ := Aside0.mk (hb); have n2_ := Aside0.mk (ho); clear HO171; clear HB; clear HO_7; have HO171 := n0_; have HB := n1_; have HO174 := n2_; clear n0_ n1_ n2_; clear ho hb hg hat))
                      go_roundg kj4
                      case measure => have := HK1.out; have := HJ4.out; omega
                      case rel => exact ⟨(y172), (wrap64 (x8_1 + 1)), (by first | rfl | (simp; done) | (simp [*]; done)), H', ⟨by have := HK1.out; have := HJ4.out; omega⟩, ⟨by (with_reducible repeat (first | apply Kd.R_alloc | apply Kd.R_drewN | apply Kd.R_drew)); exact HO174.out⟩, ⟨by repeat (first | (with_reducible first | exact HB.out | apply below_alloc | apply pw_below_drewN | apply below_drew1) | exact HB.out)⟩⟩
                    · rw [if_neg c16] at H
                      exact absurd H (by simp)
                  · rw [if_neg c15] at H
                    exact absurd H (by simp)
                · rw [if_neg c9] at H
                  exact absurd H (by simp)
              · rw [if_neg c8] at H
                exact absurd H (by simp)
            · replace c7 := Bool.eq_false_iff.mpr c7
              subst c7
              have H1 : (cadencyref04_SetF.l1 kj4 a2 x7_1 (x7_1.length : Int) 0) = some r := by rw [if_neg (show ¬ (false = true) by decide)] at H; exact H
              clear H
              have H := H1
              clear H1
              have H' := Aside0.mk H
              clear H
              obtain ⟨Ao21, co21, eo21⟩ := Kd.R_slice HO_7.out
              subst eo21
              go_wp2
              go_loopg [15] kj4 (fun kq v15 w' => ∃ (x7_3 : List (S33)) (x15_3 : Int), v15 = .int .i64 x15_3 ∧ Aside0 (cadencyref04_SetF.l1 kq a2 x7_3 (x7_1.length : Int) x15_3 = some r) ∧ Aside0 (kq ≤ kj4) ∧ Aside0 (Kd.R k33 33 w' w.heap.size (fun _ => True) (.slice Ao21 x7_1.length co21) x7_3) ∧ Aside0 (Below w.heap.size w w'))
              case atStart => exact ⟨(x7_1), (0), (by first | rfl | (simp; done) | (simp [*]; done)), H', ⟨Nat.le_refl _⟩, ⟨by (with_reducible repeat (first | apply Kd.R_alloc | apply Kd.R_drewN | apply Kd.R_drew)); exact HO_7.out⟩, ⟨by repeat (first | (with_reducible first | exact HB.out | apply below_alloc | apply pw_below_drewN | apply below_drew1) | exact HB.out)⟩⟩
              case round =>
                clear H'
                try clear c1
                try clear p1
                try clear q1
                try clear hx1
                try clear hcv1
                try clear p2
                try clear c4
                try clear c4b0
                try clear c4b1
                try clear c4b2
                try clear c6
                try clear c6b0
                try clear p6
                try clear c7
                try clear c8
                try clear c8b0
                try clear c9
                try clear c9b0
                try clear c15
                try clear c15b0
                try clear c15b1
                try clear c15b2
                try clear p15
                try clear q15
                try clear hx15
                try clear c16
                try clear p16
                try clear q16
                try clear hx16
                try clear c18
                try clear hcv19
                try clear hx159_0
                try clear hx159_1
                try clear hx159_2
                try clear hx159_3
                try clear hx159_4
                try clear hx161_0
                try clear hx161_1
                try clear hx161_2
                try clear hx161_3
                try clear hx161_4
                try clear hx163_0
                try clear hx163_1
                try clear hx163_2
                try clear hx163_3
                try clear hx163_4
                try clear hx165_0
                try clear hx165_1
                try clear hx165_2
                try clear hx165_3
                try clear hx165_4
                try clear hx167_0
                try clear hx167_1
                try clear hx167_2
                try clear hx167_3
                try clear hx167_4
                try clear p159
                try clear p161
                try clear p163
                try clear p165
                try clear p167
                try clear p2
                try clear q159
                try clear q161
                try clear q163
                try clear q165
                try clear q167
                obtain ⟨x7_3, x15_3, rfl, HA, HK3, HO_7, HB⟩ := hrel
                have hl7_3 := (Kd.R_reads' HO_7.out).1
                rw [hl7_3] at HO_7
                (try simp only [hl7_3])
                cases gk with
                | zero => exact absurd HA.out (by simp [cadencyref04_SetF.l1])
                | succ k3 =>
                  have H := HA.out
                  clear HA
                  simp only [cadencyref04_SetF.l1] at H
                  by_cases c22 : x15_3 < (x7_1.length : Int)
                  · rw [if_pos c22] at H
                    have c22b0 : decide (x15_3 < (x7_1.length : Int)) = true := decide_eq_true c22
                    clear c22
                    replace H := Option.bind_eq_some_iff.mp H
                    obtain ⟨t175, A230, H⟩ := H
                    replace H : ((cadencyref04_rest.f a2 (x7_1.length : Int)).bind fun t176 => (if (x7_1.length : Int) = 0 then (none) else (if 0 ≤ x15_3 then (if x15_3 < (x7_3.length : Int) then (cadencyref04_SetF.l1 k3 a2 (x7_3.set (x15_3 : Int).toNat (⟨(rd_T33 x7_3 x15_3).f0, (rd_T33 x7_3 x15_3).f1, (rd_T33 x7_3 x15_3).f2, (rd_T33 x7_3 x15_3).f3, (rd_T33 x7_3 x15_3).f4, (rd_T33 x7_3 x15_3).f5, wrap64 (1 + (Int.tmod (wrap64 ((wrap64 (x15_3 * t175)) + t176)) (x7_1.length : Int)))⟩ : S33)) (x7_1.length : Int) (wrap64 (x15_3 + 1))) else (none)) else (none)))) = some r := H
                    have A23 := Aside0.mk A230
                    clear A230
                    replace H := Option.bind_eq_some_iff.mp H
                    obtain ⟨t176, A240, H⟩ := H
                    replace H : (if (x7_1.length : Int) = 0 then (none) else (if 0 ≤ x15_3 then (if x15_3 < (x7_3.length : Int) then (cadencyref04_SetF.l1 k3 a2 (x7_3.set (x15_3 : Int).toNat (⟨(rd_T33 x7_3 x15_3).f0, (rd_T33 x7_3 x15_3).f1, (rd_T33 x7_3 x15_3).f2, (rd_T33 x7_3 x15_3).f3, (rd_T33 x7_3 x15_3).f4, (rd_T33 x7_3 x15_3).f5, wrap64 (1 + (Int.tmod (wrap64 ((wrap64 (x15_3 * t175)) + t176)) (x7_1.length : Int)))⟩ : S33)) (x7_1.length : Int) (wrap64 (x15_3 + 1))) else (none)) else (none))) = some r := H
                    have A24 := Aside0.mk A240
                    clear A240
                    by_cases c25 : (x7_1.length : Int) = 0
                    · rw [if_pos c25] at H
                      exact absurd H (by simp)
                    · rw [if_neg c25] at H
                      have c25b0 : ((x7_1.length : Int) == 0) = false := beq_eq_false_iff_ne.mpr c25
                      have c25b1 : ((x7_1.length : Int) != 0) = true := bne_iff_ne.mpr c25
                      have c25b2 : ¬ (x7_1 = []) := fun h_ => c25 (by rw [h_]; rfl)
                      by_cases c26 : 0 ≤ x15_3
                      · rw [if_pos c26] at H
                        have c26b0 : decide (0 ≤ x15_3) = true := decide_eq_true c26
                        clear c26
                        by_cases c27 : x15_3 < (x7_3.length : Int)
                        · rw [if_pos c27] at H
                          have c27b0 : decide (x15_3 < (x7_3.length : Int)) = true := decide_eq_true c27
                          clear c27
                          obtain ⟨y177, hy177⟩ : ∃ y_ : List (S33), y_ = (x7_3.set (x15_3 : Int).toNat (⟨(rd_T33 x7_3 x15_3).f0, (rd_T33 x7_3 x15_3).f1, (rd_T33 x7_3 x15_3).f2, (rd_T33 x7_3 x15_3).f3, (rd_T33 x7_3 x15_3).f4, (rd_T33 x7_3 x15_3).f5, wrap64 (1 + (Int.tmod (wrap64 ((wrap64 (x15_3 * t175)) + t176)) (x7_1.length : Int)))⟩ : S33)) := ⟨_, rfl⟩
                          replace H : (cadencyref04_SetF.l1 k3 a2 y177 (x7_1.length : Int) (wrap64 (x15_3 + 1))) = some r := by first | (rw [hy177]; with_reducible exact H) | (have H2_ := (Option.bind_some _ _).symm.trans H; rw [hy177]; with_reducible exact H2_) | (have H2_ := (Option.bind_some _ _).symm.trans H; with_reducible exact H2_) | with_reducible exact H | (rw [hy177]; exact H) | exact H
                          (try rw [hl7_3] at hy177)
                          have Ny177 := Aside0.mk hy177
                          clear hy177
                          have H' := Aside0.mk H
                          clear H
                          go_wp2_with (first | ((with_reducible refine gate_callee (f := 19) rfl ?_); refine goesL_ (some 101) rfl rfl Try.func19 (by kernel_rfl) rfl #[.int .i64 (x7_3.length : Int), .int .i64 a2] rfl (by (try simp only [List.map_toArray, List.map_cons, List.map_nil]); first | done | rfl | (simp only [List.length_drop, List.length_take]; rfl)) ?_; (with_reducible refine (cadencyref04_turns.calls (x7_3.length : Int) a2 t175 _ (by rw [← hl7_3]; exact A23.out)).mono ?_); rintro e w' ⟨rfl, ⟨nd, rfl⟩⟩; refine ⟨_, rfl, ?_⟩; (try (rw [drewN_self wr]; generalize hq_ : World.drewN wr _ = wr; have n0_ : Aside0 (Kd.R k33 33 wr w.heap.size (fun _ => True) (.slice Ao21 x7_3.length co21) x7_3) := ⟨by rw [← hq_]; exact (by (with_reducible repeat (first | apply Kd.R_alloc | apply Kd.R_drewN | apply Kd.R_drew)); exact HO_7.out)⟩; have n1_ : Aside0 (Below w.heap.size w wr) := ⟨by rw [← hq_]; exact (by repeat (first | (with_reducible first | exact HB.out | apply below_alloc | apply pw_below_drewN | apply below_drew1) | exact HB.out))⟩; clear HO_7 HB hq_; have HO_7 := n0_; have HB := n1_; clear n0_ n1_))) | ((with_reducible refine gate_callee (f := 18) rfl ?_); refine goesL_ (some 105) rfl rfl Try.func18 (by kernel_rfl) rfl #[.int .i64 a2, .int .i64 (x7_3.length : Int)] rfl (by (try simp only [List.map_toArray, List.map_cons, List.map_nil]); first | done | rfl | (simp only [List.length_drop, List.length_take]; rfl)) ?_; (with_reducible refine (cadencyref04_rest.calls a2 (x7_3.length : Int) t176 _ (by rw [← hl7_3]; exact A24.out)).mono ?_); rintro e w' ⟨rfl, ⟨nd, rfl⟩⟩; refine ⟨_, rfl, ?_⟩; (try (rw [drewN_self wr]; generalize hq_ : World.drewN wr _ = wr; have n0_ : Aside0 (Kd.R k33 33 wr w.heap.size (fun _ => True) (.slice Ao21 x7_3.length co21) x7_3) := ⟨by rw [← hq_]; exact (by (with_reducible repeat (first | apply Kd.R_alloc | apply Kd.R_drewN | apply Kd.R_drew)); exact HO_7.out)⟩; have n1_ : Aside0 (Below w.heap.size w wr) := ⟨by rw [← hq_]; exact (by repeat (first | (with_reducible first | exact HB.out | apply below_alloc | apply pw_below_drewN | apply below_drew1) | exact HB.out))⟩; clear HO_7 HB hq_; have HO_7 := n0_; have HB := n1_; clear n0_ n1_)); have p28 : 0 ≤ (x15_3 : Int) := of_decide_eq_true (by first | (with_reducible assumption) | assumption); have q28 : (x15_3 : Int) < ((x7_3.length : Int) : Int) := of_decide_eq_true (by first | (with_reducible assumption) | assumption); obtain ⟨go28, co28, eo28, gb28, gl28, cl28, HG28⟩ := Kd.R_form HO_7.out (by omega); (first | cases eo28 | (injection eo28 with ea_ en_ ec_; (first | subst ea_ | (injection ea_ with ea_; subst ea_)); subst ec_; clear en_)); have GB28 := Aside0.mk gb28; have GG28 := Aside0.mk HG28; clear gb28 gl28 HG28; obtain ⟨ce28, hcl28, hM28, hcc28, hfr28⟩ := Kd.R_elem HO_7.out z33 (x15_3 : Int) p28 q28; obtain rfl := k33_openM hM28; have hx28_0 : wr.cell? ⟨go28, (x15_3 : Int).toNat * 7, none⟩ = some (.string ((rd_T33 x7_3 x15_3).f0)) := hcc28 0 _ rfl; have hx28_1 : wr.cell? ⟨go28, (x15_3 : Int).toNat * 7 + 1, none⟩ = some (.int .i64 ((rd_T33 x7_3 x15_3).f1)) := hcc28 1 _ rfl; have hx28_2 : wr.cell? ⟨go28, (x15_3 : Int).toNat * 7 + 2, none⟩ = some (.int .i64 ((rd_T33 x7_3 x15_3).f2)) := hcc28 2 _ rfl; have hx28_3 : wr.cell? ⟨go28, (x15_3 : Int).toNat * 7 + 3, none⟩ = some (.int .i64 ((rd_T33 x7_3 x15_3).f3)) := hcc28 3 _ rfl; have hx28_4 : wr.cell? ⟨go28, (x15_3 : Int).toNat * 7 + 4, none⟩ = some (.int .i64 ((rd_T33 x7_3 x15_3).f4)) := hcc28 4 _ rfl; have hx28_5 : wr.cell? ⟨go28, (x15_3 : Int).toNat * 7 + 5, none⟩ = some (.int .i64 ((rd_T33 x7_3 x15_3).f5)) := hcc28 5 _ rfl; have hx28_6 : wr.cell? ⟨go28, (x15_3 : Int).toNat * 7 + 6, none⟩ = some (.int .i64 ((rd_T33 x7_3 x15_3).f6)) := hcc28 6 _ rfl; have hf28_0 : wr.frozen? ⟨go28, (x15_3 : Int).toNat * 7, none⟩ = false := hfr28 0; have hf28_1 : wr.frozen? ⟨go28, (x15_3 : Int).toNat * 7 + 1, none⟩ = false := hfr28 1; have hf28_2 : wr.frozen? ⟨go28, (x15_3 : Int).toNat * 7 + 2, none⟩ = false := hfr28 2; have hf28_3 : wr.frozen? ⟨go28, (x15_3 : Int).toNat * 7 + 3, none⟩ = false := hfr28 3; have hf28_4 : wr.frozen? ⟨go28, (x15_3 : Int).toNat * 7 + 4, none⟩ = false := hfr28 4; have hf28_5 : wr.frozen? ⟨go28, (x15_3 : Int).toNat * 7 + 5, none⟩ = false := hfr28 5; have hf28_6 : wr.frozen? ⟨go28, (x15_3 : Int).toNat * 7 + 6, none⟩ = false := hfr28 6; clear hcl28 hcc28 hfr28 hM28; replace p28 := eq_true p28; replace q28 := eq_true q28; have HX29 := Aside0.mk (show Kd.R k33 33 wr w.heap.size (fun _ => True) (.slice (some ⟨go28, 0, none⟩) x7_3.length co21) x7_3 from (by (with_reducible repeat (first | apply Kd.R_alloc | apply Kd.R_drewN | apply Kd.R_drew)); exact HO_7.out)); obtain ⟨ce29, hcl29, hM29, hcc29, hfr29⟩ := Kd.R_elem HX29.out z33 (x15_3 : Int) (of_decide_eq_true (by first | (with_reducible assumption) | assumption)) (by have h_ : (x15_3 : Int) < ((x7_3.length : Int) : Int) := of_decide_eq_true (by first | (with_reducible assumption) | assumption); first | exact h_ | (have e_ := (Kd.R_reads' HO_7.out).1; omega) | simpa using h_); obtain rfl := k33_openM hM29; have HP29 := Kd.R_seg HX29.out (x15_3 : Int) (of_decide_eq_true (by first | (with_reducible assumption) | assumption)) (by have h_ : (x15_3 : Int) < ((x7_3.length : Int) : Int) := of_decide_eq_true (by first | (with_reducible assumption) | assumption); first | exact h_ | (have e_ := (Kd.R_reads' HO_7.out).1; omega) | simpa using h_) (seg := [.int .i64 (wrap64 (1 + (Int.tmod (wrap64 ((wrap64 (x15_3 * t175)) + t176)) (x7_3.length : Int))))]) (j := 6) hcl29 hcc29 (show 7 ≤ 7 from by decide) (x' := (⟨(rd_T33 x7_3 x15_3).f0, (rd_T33 x7_3 x15_3).f1, (rd_T33 x7_3 x15_3).f2, (rd_T33 x7_3 x15_3).f3, (rd_T33 x7_3 x15_3).f4, (rd_T33 x7_3 x15_3).f5, wrap64 (1 + (Int.tmod (wrap64 ((wrap64 (x15_3 * t175)) + t176)) (x7_3.length : Int)))⟩ : S33)) (k33_mkM _ _ _ (⟨(rd_T33 x7_3 x15_3).f0, (rd_T33 x7_3 x15_3).f1, (rd_T33 x7_3 x15_3).f2, (rd_T33 x7_3 x15_3).f3, (rd_T33 x7_3 x15_3).f4, (rd_T33 x7_3 x15_3).f5, wrap64 (1 + (Int.tmod (wrap64 ((wrap64 (x15_3 * t175)) + t176)) (x7_3.length : Int)))⟩ : S33) ) (fun _ hk => hk); have hx29_6 := hcc29 6 _ rfl; (try simp only [show (k33).sz = 7 from rfl, Nat.mul_one, Nat.add_zero] at hx29_6); have hf29_6 := hfr29 6; (try simp only [show (k33).sz = 7 from rfl, Nat.mul_one, Nat.add_zero] at hf29_6); clear hcl29 hcc29 hfr29 hM29) | ((with_reducible refine gate_store (t := 3) (p := 111) rfl ?_); refine store_event (t := 3) (p := 111) (v := ?vo_w30) (w1 := (wr.setCell ⟨go28, (x15_3 : Int).toNat * 7 + 6, none⟩ (.int .i64 (wrap64 (1 + (Int.tmod (wrap64 ((wrap64 (x15_3 * t175)) + t176)) (x7_3.length : Int))))))) ?hg ?ho ?hn ?hr ?_; (case ho => rfl); (case hg => rfl); (case hn => rfl); (case hr => first | (go_simp; done) | (go_simp; rfl)); intro w30 hw; have hg : wr.grownBy w30 (some go28) := (by rw [hw]; exact HP29.2); have hp_ : Kd.R k33 33 w30 w.heap.size (fun _ => True) (.slice (some ⟨go28, 0, none⟩) x7_3.length co21) y177 := (by rw [hw, Ny177.out]; exact HP29.1); clear HP29; have n0_ := Aside0.mk (hp_); have n1_ := Aside0.mk ((by rw [hw]; exact below_set (HB.out) GB28.out : Below w.heap.size w w30)); clear HO_7; clear HB; have HO_7 := n0_; have HB := n1_; clear n0_ n1_; clear hg hw hp_))
                          (try simp only [← hl7_3])
                          go_roundg k3
                          case measure => have := HK1.out; have := HJ4.out; have := HK3.out; omega
                          case rel => exact ⟨(y177), (wrap64 (x15_3 + 1)), (by first | rfl | (simp; done) | (simp [*]; done)), H', ⟨by have := HK1.out; have := HJ4.out; have := HK3.out; omega⟩, ⟨by (try simp only [hl7_3]); (with_reducible repeat (first | apply Kd.R_alloc | apply Kd.R_drewN | apply Kd.R_drew)); exact HO_7.out⟩, ⟨by repeat (first | (with_reducible first | exact HB.out | apply below_alloc | apply pw_below_drewN | apply below_drew1) | exact HB.out)⟩⟩
                        · rw [if_neg c27] at H
                          exact absurd H (by simp)
                      · rw [if_neg c26] at H
                        exact absurd H (by simp)
                  · rw [if_neg c22] at H
                    have c22b0 : decide (x15_3 < (x7_1.length : Int)) = false := decide_eq_false c22
                    clear c22
                    (try rw [hl7_3] at c22b0)
                    obtain rfl := Option.some.inj H
                    go_wp2
                    go_ret
                    exact ⟨_, by first | rfl | (simp [errW_none, errW_some] <;> rfl) | (simp [*, errW_none, errW_some] <;> rfl), by (with_reducible repeat (first | apply Kd.R_alloc | apply Kd.R_drewN | apply Kd.R_drew)); exact HO_7.out, by repeat (first | (with_reducible first | exact HB.out | apply below_alloc | apply pw_below_drewN | apply below_drew1) | exact HB.out)⟩

/-! ### cadencyref04_Set: function 8, its two halves as one -/
def cadencyref04_Set.f (k : Nat) (l0 : List (S43)) (a1 : Int) (a2 : Int) : Option ((List (S33))) := if (l0.length : Int) = 0 then cadencyref04_SetT.f k l0 a1 a2 else cadencyref04_SetF.f k l0 a1 a2
theorem cadencyref04_Set.calls (k : Nat) (A0 : Option Addr) (c0 : Nat) (l0 : List (S43)) (a1 : Int) (a2 : Int) (r : List (S33)) (w : World) (hr0 : Kd.C k43 w A0 l0.length l0) (hc0 : l0.length ≤ c0) (h : cadencyref04_Set.f k l0 a1 a2 = some r) :
    Calls Try.prog 8 #[.slice A0 l0.length c0, .int .i64 a1, .int .i64 a2] w fun e w' => ∃ v0_ : Value, e = .returned (v0_) ∧ Kd.R k33 33 w' w.heap.size (fun _ => True) v0_ r ∧ Below w.heap.size w w' := by
  unfold cadencyref04_Set.f at h
  split at h
  · exact cadencyref04_SetT.calls k A0 c0 l0 a1 a2 r w hr0 hc0 h
  · exact cadencyref04_SetF.calls k A0 c0 l0 a1 a2 r w hr0 hc0 h

/-! ### cadencyref03_Skip: function 37 -/
mutual
def cadencyref03_Skip.l0 : Nat → ByteArray → Int → Option (Int)
  | 0, _, _ => none
  | k + 1, x0, x1 => if x1 < (x0.size : Int) then (if 0 ≤ x1 then (if (bt x0 x1) = 35 then (cadencyref03_Skip.l1 k x0 x1) else (if (bt x0 x1) = 32 then (cadencyref03_Skip.l0 k x0 (wrap64 (x1 + 1))) else (if (bt x0 x1) = 9 then (cadencyref03_Skip.l0 k x0 (wrap64 (x1 + 1))) else (some x1)))) else (none)) else (some x1)
def cadencyref03_Skip.l1 : Nat → ByteArray → Int → Option (Int)
  | 0, _, _ => none
  | k + 1, x0, x1 => if x1 < (x0.size : Int) then (if 0 ≤ x1 then (if (bt x0 x1) = 10 then (cadencyref03_Skip.l0 k x0 x1) else (cadencyref03_Skip.l1 k x0 (wrap64 (x1 + 1)))) else (none)) else (cadencyref03_Skip.l0 k x0 x1)
end
def cadencyref03_Skip.f (k : Nat) (a0 : ByteArray) (a1 : Int) : Option (Int) := cadencyref03_Skip.l0 k a0 a1
/-! ### cadencyref03_letter: function 50 -/
def cadencyref03_letter.f (a0 : Int) : Option (Bool) := if a0 ≥ 97 then (if a0 ≤ 122 then (some true) else (if a0 ≥ 65 then (if a0 ≤ 90 then (some true) else (some (a0 == 95))) else (some (a0 == 95)))) else (if a0 ≥ 65 then (if a0 ≤ 90 then (some true) else (some (a0 == 95))) else (some (a0 == 95)))
/-! ### cadencyref03_digit: function 51 -/
def cadencyref03_digit.f (a0 : Int) : Option (Bool) := if a0 ≥ 48 then (some (decide (a0 ≤ 57))) else (some false)
end Go.Proofs.Ytefdcjmfbjlinaa.A
