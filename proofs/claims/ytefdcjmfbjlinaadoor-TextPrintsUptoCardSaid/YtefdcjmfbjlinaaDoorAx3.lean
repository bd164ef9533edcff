-- written by a program (wip/dev/print2.sh): functions of the program as plain Lean, with their contracts
import Derived.Test.YtefdcjmfbjlinaaDoorAx0
import Derived.Test.YtefdcjmfbjlinaaDoorAx2
namespace Go.Proofs.YtefdcjmfbjlinaaDoor.A
open Go.RowKit Go.Proofs.YtefdcjmfbjlinaaDoorW.PrintWords Go.Proofs.YtefdcjmfbjlinaaDoorW.PrintLast Go.Proofs.YtefdcjmfbjlinaaDoorW.PrintMore
set_option linter.unusedVariables false
set_option linter.unusedSimpArgs false

/-! ### cadencyref04_SetF: function 8 -/
mutual
def cadencyref04_SetF.l0 : Nat → List (S43) → Int → Int → List (S29) → Int → Option ((List (S29)))
  | 0, _, _, _, _, _ => none
  | k + 1, x0, x1, x2, x7, x8 => if x8 < (x0.length : Int) then (cadencyref04_SetF.j1 k x0 x1 x2 x7 x8 (decide (x8 < x1))) else (cadencyref04_SetF.j1 k x0 x1 x2 x7 x8 false)
def cadencyref04_SetF.j1 : Nat → List (S43) → Int → Int → List (S29) → Int → Bool → Option ((List (S29)))
  | 0, _, _, _, _, _, _ => none
  | k + 1, x0, x1, x2, x7, x8, x30 => if x30 = true then (if 0 ≤ x8 then (if x8 < (x0.length : Int) then ((cadencyref04_rest.f ((rd_T43 x0 x8).f0) 4).bind fun t142 => ((cadencyref04_rest.f ((rd_T43 x0 x8).f1) 11).bind fun t144 => ((cadencyref04_rest.f ((rd_T43 x0 x8).f2) (wrap64 ((wrap64 ((wrap64 ((wrap64 (1 + t142)) + t144)) - (wrap64 (1 + t142)))) + 1))).bind fun t146 => ((cadencyref04_rest.f ((rd_T43 x0 x8).f4) 7).bind fun t148 => ((cadencyref04_rest.f ((rd_T43 x0 x8).f3) (wrap64 (1 + t142))).bind fun t150 => ((some (([(wrap64 (97 + x8)) % 256] : List Int) : List Int)).bind fun y151 => (if 1 + (strOfNums y151).size ≤ 9223372036854775807 then (if x7.length < 2199023255552 then (cadencyref04_SetF.l0 k x0 x1 x2 (x7 ++ [(⟨(⟨#[116]⟩ : ByteArray) ++ (strOfNums y151), wrap64 (1 + t142), wrap64 ((wrap64 ((wrap64 (1 + t142)) + t144)) + t148), wrap64 ((wrap64 (1 + t142)) + t144), t146, wrap64 (1 + t150), 0⟩ : S29)]) (wrap64 (x8 + 1))) else (none)) else (none)))))))) else (none)) else (none)) else (cadencyref04_SetF.l1 k x2 x7 (x7.length : Int) 0)
def cadencyref04_SetF.l1 : Nat → Int → List (S29) → Int → Int → Option ((List (S29)))
  | 0, _, _, _, _ => none
  | k + 1, x2, x7, x14, x15 => if x15 < x14 then ((cadencyref04_turns.f x14 x2).bind fun t157 => ((cadencyref04_rest.f x2 x14).bind fun t158 => (if x14 = 0 then (none) else (if 0 ≤ x15 then (if x15 < (x7.length : Int) then (cadencyref04_SetF.l1 k x2 (x7.set (x15 : Int).toNat (⟨(rd_T29 x7 x15).f0, (rd_T29 x7 x15).f1, (rd_T29 x7 x15).f2, (rd_T29 x7 x15).f3, (rd_T29 x7 x15).f4, (rd_T29 x7 x15).f5, wrap64 (1 + (Int.tmod (wrap64 ((wrap64 (x15 * t157)) + t158)) x14))⟩ : S29)) x14 (wrap64 (x15 + 1))) else (none)) else (none))))) else (some x7)
end
def cadencyref04_SetF.f (k : Nat) (l0 : List (S43)) (a1 : Int) (a2 : Int) : Option ((List (S29))) := if (l0.length : Int) = 0 then (none) else (cadencyref04_SetF.l0 k l0 a1 a2 ([] : List (S29)) 0)
set_option maxHeartbeats 8000000 in
set_option maxRecDepth 100000 in
theorem cadencyref04_SetF.calls (k : Nat) (A0 : Option Addr) (c0 : Nat) (l0 : List (S43)) (a1 : Int) (a2 : Int) (r : List (S29)) (w : World) (hr0 : Kd.C k43 w A0 l0.length l0) (hc0 : l0.length ≤ c0) (h : cadencyref04_SetF.f k l0 a1 a2 = some r) :
    Calls Tryd.prog 8 #[.slice A0 l0.length c0, .int .i64 a1, .int .i64 a2] w fun e w' => ∃ v0_ : Value, e = .returned (v0_) ∧ Kd.R k29 29 w' w.heap.size (fun _ => True) v0_ r ∧ Below w.heap.size w w' := by
  have hu43 := Tryd.underlying43
  have hu29 := Tryd.underlying29
  have HR0 := Aside0.mk hr0
  have HC0 := Aside0.mk hc0
  clear hr0 hc0
  have HB := Aside0.mk (Below.refl w.heap.size w)
  have H : (if (l0.length : Int) = 0 then (none) else (cadencyref04_SetF.l0 k l0 a1 a2 ([] : List (S29)) 0)) = some r := h
  clear h
  by_cases c4 : (l0.length : Int) = 0
  · rw [if_pos c4] at H
    exact absurd H (by simp)
  · rw [if_neg c4] at H
    have c4b0 : ((l0.length : Int) == 0) = false := beq_eq_false_iff_ne.mpr c4
    have c4b1 : ((l0.length : Int) != 0) = true := bne_iff_ne.mpr c4
    have c4b2 : ¬ (l0 = []) := fun h_ => c4 (by rw [h_]; rfl)
    have H' := Aside0.mk H
    clear H
    go_enter Tryd.func8, Tryd.ntmps8
    go_wp2
    go_loopg [7, 8] k (fun kq v7 v8 w' => ∃ (x7_1 : List (S29)) (x8_1 : Int), v8 = .int .i64 x8_1 ∧ Aside0 (cadencyref04_SetF.l0 kq l0 a1 a2 x7_1 x8_1 = some r) ∧ Aside0 (kq ≤ k) ∧ Aside0 (Kd.R k29 29 w' w.heap.size (fun _ => True) v7 x7_1) ∧ Aside0 (Below w.heap.size w w'))
    case atStart => exact ⟨(([] : List (S29))), (0), (by first | rfl | (simp; done) | (simp [*]; done)), H', ⟨Nat.le_refl _⟩, ⟨by first | exact Kd.R_nil _ _ _ _ _ | exact Kd.N_nil _ _ _ _ _ | exact Kd.V_nil _ _ _ _ _ | exact Kd.Q_nil _ _ _ _ _ | exact Kd.S_nil _ _ _ _ _⟩, ⟨by repeat (first | (with_reducible first | exact HB.out | apply below_alloc | apply pw_below_drewN | apply below_drew1) | exact HB.out)⟩⟩
    case round =>
      clear H'
      try clear p2
      try clear c4
      try clear c4b0
      try clear c4b1
      try clear c4b2
      obtain ⟨x7_1, x8_1, rfl, HA, HK1, HO_7, HB⟩ := hrel
      cases gk with
      | zero => exact absurd HA.out (by simp [cadencyref04_SetF.l0])
      | succ k1 =>
        have H := HA.out
        clear HA
        simp only [cadencyref04_SetF.l0] at H
        have HC5 := Aside0.mk H
        clear H
        go_upto_region 5 with (fail)
        go_cut [30] (fun v30 wc => ∃ (kq : Nat) (x30_4 : Bool), v30 = .bool x30_4 ∧ Aside0 (cadencyref04_SetF.j1 kq l0 a1 a2 x7_1 x8_1 x30_4 = some r) ∧ Aside0 (kq ≤ k1) ∧ Aside0 (Kd.R k29 29 wc w.heap.size (fun _ => True) u7 x7_1) ∧ Aside0 (Below w.heap.size w wc))
        case first =>
          have H := HC5.out
          clear HC5
          by_cases c6 : x8_1 < (l0.length : Int)
          · rw [if_pos c6] at H
            have c6b0 : decide (x8_1 < (l0.length : Int)) = true := decide_eq_true c6
            clear c6
            (first | rw [c6b0] | (simp only [i64_w, i32_w]; rw [c6b0]) | skip)
            have H' := Aside0.mk H
            clear H
            go_wp2
            go_meet
            case rel => exact ⟨_, (decide (x8_1 < a1)), (by first | rfl | (simp; done) | (simp [*]; done)), H', ⟨by have := HK1.out; first | omega | exact Nat.le_refl _⟩, ⟨by (with_reducible repeat (first | apply Kd.R_alloc | apply Kd.R_drewN | apply Kd.R_drew)); exact HO_7.out⟩, ⟨by repeat (first | (with_reducible first | exact HB.out | apply below_alloc | apply pw_below_drewN | apply below_drew1) | exact HB.out)⟩⟩
          · rw [if_neg c6] at H
            have c6b0 : decide (x8_1 < (l0.length : Int)) = false := decide_eq_false c6
            clear c6
            (first | rw [c6b0] | (simp only [i64_w, i32_w]; rw [c6b0]) | skip)
            have H' := Aside0.mk H
            clear H
            go_wp2
            go_meet
            case rel => exact ⟨_, (false), (by first | rfl | (simp; done) | (simp [*]; done)), H', ⟨by have := HK1.out; first | omega | exact Nat.le_refl _⟩, ⟨by (with_reducible repeat (first | apply Kd.R_alloc | apply Kd.R_drewN | apply Kd.R_drew)); exact HO_7.out⟩, ⟨by repeat (first | (with_reducible first | exact HB.out | apply below_alloc | apply pw_below_drewN | apply below_drew1) | exact HB.out)⟩⟩
        case rest =>
          clear HC5
          try clear p2
          try clear c4
          try clear c4b0
          try clear c4b1
          try clear c4b2
          try clear c6
          try clear c6b0
          try clear p2
          obtain ⟨kq, x30_4, rfl, HA, HJ4, HO_7, HB⟩ := hcut
          cases kq with
          | zero => exact absurd HA.out (by simp [cadencyref04_SetF.j1])
          | succ kj4 =>
            have H := HA.out
            clear HA
            simp only [cadencyref04_SetF.j1] at H
            by_cases c7 : x30_4 = true
            · subst c7
              have H1 : (if 0 ≤ x8_1 then (if x8_1 < (l0.length : Int) then ((cadencyref04_rest.f ((rd_T43 l0 x8_1).f0) 4).bind fun t142 => ((cadencyref04_rest.f ((rd_T43 l0 x8_1).f1) 11).bind fun t144 => ((cadencyref04_rest.f ((rd_T43 l0 x8_1).f2) (wrap64 ((wrap64 ((wrap64 ((wrap64 (1 + t142)) + t144)) - (wrap64 (1 + t142)))) + 1))).bind fun t146 => ((cadencyref04_rest.f ((rd_T43 l0 x8_1).f4) 7).bind fun t148 => ((cadencyref04_rest.f ((rd_T43 l0 x8_1).f3) (wrap64 (1 + t142))).bind fun t150 => ((some (([(wrap64 (97 + x8_1)) % 256] : List Int) : List Int)).bind fun y151 => (if 1 + (strOfNums y151).size ≤ 9223372036854775807 then (if x7_1.length < 2199023255552 then (cadencyref04_SetF.l0 kj4 l0 a1 a2 (x7_1 ++ [(⟨(⟨#[116]⟩ : ByteArray) ++ (strOfNums y151), wrap64 (1 + t142), wrap64 ((wrap64 ((wrap64 (1 + t142)) + t144)) + t148), wrap64 ((wrap64 (1 + t142)) + t144), t146, wrap64 (1 + t150), 0⟩ : S29)]) (wrap64 (x8_1 + 1))) else (none)) else (none)))))))) else (none)) else (none)) = some r := by rw [if_pos rfl] at H; exact H
              clear H
              have H := H1
              clear H1
              by_cases c8 : 0 ≤ x8_1
              · rw [if_pos c8] at H
                have c8b0 : decide (0 ≤ x8_1) = true := decide_eq_true c8
                clear c8
                by_cases c9 : x8_1 < (l0.length : Int)
                · rw [if_pos c9] at H
                  have c9b0 : decide (x8_1 < (l0.length : Int)) = true := decide_eq_true c9
                  clear c9
                  replace H := Option.bind_eq_some_iff.mp H
                  obtain ⟨t142, A100, H⟩ := H
                  replace H : ((cadencyref04_rest.f ((rd_T43 l0 x8_1).f1) 11).bind fun t144 => ((cadencyref04_rest.f ((rd_T43 l0 x8_1).f2) (wrap64 ((wrap64 ((wrap64 ((wrap64 (1 + t142)) + t144)) - (wrap64 (1 + t142)))) + 1))).bind fun t146 => ((cadencyref04_rest.f ((rd_T43 l0 x8_1).f4) 7).bind fun t148 => ((cadencyref04_rest.f ((rd_T43 l0 x8_1).f3) (wrap64 (1 + t142))).bind fun t150 => ((some (([(wrap64 (97 + x8_1)) % 256] : List Int) : List Int)).bind fun y151 => (if 1 + (strOfNums y151).size ≤ 9223372036854775807 then (if x7_1.length < 2199023255552 then (cadencyref04_SetF.l0 kj4 l0 a1 a2 (x7_1 ++ [(⟨(⟨#[116]⟩ : ByteArray) ++ (strOfNums y151), wrap64 (1 + t142), wrap64 ((wrap64 ((wrap64 (1 + t142)) + t144)) + t148), wrap64 ((wrap64 (1 + t142)) + t144), t146, wrap64 (1 + t150), 0⟩ : S29)]) (wrap64 (x8_1 + 1))) else (none)) else (none))))))) = some r := H
                  have A10 := Aside0.mk A100
                  clear A100
                  replace H := Option.bind_eq_some_iff.mp H
                  obtain ⟨t144, A110, H⟩ := H
                  replace H : ((cadencyref04_rest.f ((rd_T43 l0 x8_1).f2) (wrap64 ((wrap64 ((wrap64 ((wrap64 (1 + t142)) + t144)) - (wrap64 (1 + t142)))) + 1))).bind fun t146 => ((cadencyref04_rest.f ((rd_T43 l0 x8_1).f4) 7).bind fun t148 => ((cadencyref04_rest.f ((rd_T43 l0 x8_1).f3) (wrap64 (1 + t142))).bind fun t150 => ((some (([(wrap64 (97 + x8_1)) % 256] : List Int) : List Int)).bind fun y151 => (if 1 + (strOfNums y151).size ≤ 9223372036854775807 then (if x7_1.length < 2199023255552 then (cadencyref04_SetF.l0 kj4 l0 a1 a2 (x7_1 ++ [(⟨(⟨#[116]⟩ : ByteArray) ++ (strOfNums y151), wrap64 (1 + t142), wrap64 ((wrap64 ((wrap64 (1 + t142)) + t144)) + t148), wrap64 ((wrap64 (1 + t142)) + t144), t146, wrap64 (1 + t150), 0⟩ : S29)]) (wrap64 (x8_1 + 1))) else (none)) else (none)))))) = some r := H
                  have A11 := Aside0.mk A110
                  clear A110
                  replace H := Option.bind_eq_some_iff.mp H
                  obtain ⟨t146, A120, H⟩ := H
                  replace H : ((cadencyref04_rest.f ((rd_T43 l0 x8_1).f4) 7).bind fun t148 => ((cadencyref04_rest.f ((rd_T43 l0 x8_1).f3) (wrap64 (1 + t142))).bind fun t150 => ((some (([(wrap64 (97 + x8_1)) % 256] : List Int) : List Int)).bind fun y151 => (if 1 + (strOfNums y151).size ≤ 9223372036854775807 then (if x7_1.length < 2199023255552 then (cadencyref04_SetF.l0 kj4 l0 a1 a2 (x7_1 ++ [(⟨(⟨#[116]⟩ : ByteArray) ++ (strOfNums y151), wrap64 (1 + t142), wrap64 ((wrap64 ((wrap64 (1 + t142)) + t144)) + t148), wrap64 ((wrap64 (1 + t142)) + t144), t146, wrap64 (1 + t150), 0⟩ : S29)]) (wrap64 (x8_1 + 1))) else (none)) else (none))))) = some r := H
                  have A12 := Aside0.mk A120
                  clear A120
                  replace H := Option.bind_eq_some_iff.mp H
                  obtain ⟨t148, A130, H⟩ := H
                  replace H : ((cadencyref04_rest.f ((rd_T43 l0 x8_1).f3) (wrap64 (1 + t142))).bind fun t150 => ((some (([(wrap64 (97 + x8_1)) % 256] : List Int) : List Int)).bind fun y151 => (if 1 + (strOfNums y151).size ≤ 9223372036854775807 then (if x7_1.length < 2199023255552 then (cadencyref04_SetF.l0 kj4 l0 a1 a2 (x7_1 ++ [(⟨(⟨#[116]⟩ : ByteArray) ++ (strOfNums y151), wrap64 (1 + t142), wrap64 ((wrap64 ((wrap64 (1 + t142)) + t144)) + t148), wrap64 ((wrap64 (1 + t142)) + t144), t146, wrap64 (1 + t150), 0⟩ : S29)]) (wrap64 (x8_1 + 1))) else (none)) else (none)))) = some r := H
                  have A13 := Aside0.mk A130
                  clear A130
                  replace H := Option.bind_eq_some_iff.mp H
                  obtain ⟨t150, A140, H⟩ := H
                  replace H : ((some (([(wrap64 (97 + x8_1)) % 256] : List Int) : List Int)).bind fun y151 => (if 1 + (strOfNums y151).size ≤ 9223372036854775807 then (if x7_1.length < 2199023255552 then (cadencyref04_SetF.l0 kj4 l0 a1 a2 (x7_1 ++ [(⟨(⟨#[116]⟩ : ByteArray) ++ (strOfNums y151), wrap64 (1 + t142), wrap64 ((wrap64 ((wrap64 (1 + t142)) + t144)) + t148), wrap64 ((wrap64 (1 + t142)) + t144), t146, wrap64 (1 + t150), 0⟩ : S29)]) (wrap64 (x8_1 + 1))) else (none)) else (none))) = some r := H
                  have A14 := Aside0.mk A140
                  clear A140
                  obtain ⟨y151, hy151⟩ : ∃ y_ : List Int, y_ = (([(wrap64 (97 + x8_1)) % 256] : List Int)) := ⟨_, rfl⟩
                  replace H : (if 1 + (strOfNums y151).size ≤ 9223372036854775807 then (if x7_1.length < 2199023255552 then (cadencyref04_SetF.l0 kj4 l0 a1 a2 (x7_1 ++ [(⟨(⟨#[116]⟩ : ByteArray) ++ (strOfNums y151), wrap64 (1 + t142), wrap64 ((wrap64 ((wrap64 (1 + t142)) + t144)) + t148), wrap64 ((wrap64 (1 + t142)) + t144), t146, wrap64 (1 + t150), 0⟩ : S29)]) (wrap64 (x8_1 + 1))) else (none)) else (none)) = some r := by first | (rw [hy151]; with_reducible exact H) | (have H2_ := (Option.bind_some _ _).symm.trans H; rw [hy151]; with_reducible exact H2_) | (have H2_ := (Option.bind_some _ _).symm.trans H; with_reducible exact H2_) | with_reducible exact H | (rw [hy151]; exact H) | exact H
                  have Ny151 := Aside0.mk hy151
                  clear hy151
                  by_cases c15 : 1 + (strOfNums y151).size ≤ 9223372036854775807
                  · rw [if_pos c15] at H
                    have c15b0 := eq_true c15
                    have c15b1 : decide (1 + (strOfNums y151).size ≤ 9223372036854775807) = true := decide_eq_true c15
                    try have c15b2 : (9223372036854775807 < 1 + (strOfNums y151).size) = False := eq_false (Nat.not_lt.2 c15)
                    by_cases c16 : x7_1.length < 2199023255552
                    · rw [if_pos c16] at H
                      have LMc16 := Aside0.mk c16
                      clear c16
                      obtain ⟨y154, hy154⟩ : ∃ y_ : List (S29), y_ = (x7_1 ++ [(⟨(⟨#[116]⟩ : ByteArray) ++ (strOfNums y151), wrap64 (1 + t142), wrap64 ((wrap64 ((wrap64 (1 + t142)) + t144)) + t148), wrap64 ((wrap64 (1 + t142)) + t144), t146, wrap64 (1 + t150), 0⟩ : S29)]) := ⟨_, rfl⟩
                      replace H : (cadencyref04_SetF.l0 kj4 l0 a1 a2 y154 (wrap64 (x8_1 + 1))) = some r := by first | (rw [hy154]; with_reducible exact H) | (have H2_ := (Option.bind_some _ _).symm.trans H; rw [hy154]; with_reducible exact H2_) | (have H2_ := (Option.bind_some _ _).symm.trans H; with_reducible exact H2_) | with_reducible exact H | (rw [hy154]; exact H) | exact H
                      have Ny154 := Aside0.mk hy154
                      clear hy154
                      have H' := Aside0.mk H
                      clear H
                      have p141 : 0 ≤ (x8_1 : Int) := of_decide_eq_true (by first | (with_reducible assumption) | assumption)
                      have q141 : x8_1 < (l0.length : Int) := of_decide_eq_true (by first | (with_reducible assumption) | assumption)
                      obtain ⟨ad141, e141, hx141_0, hx141_1, hx141_2, hx141_3, hx141_4⟩ := at_T43 HR0.out x8_1 p141 q141
                      cases e141
                      replace hx141_0 := (HB.out.cell (World.block_lt_of_cell? w _ hx141_0)).trans hx141_0
                      replace hx141_1 := (HB.out.cell (World.block_lt_of_cell? w _ hx141_1)).trans hx141_1
                      replace hx141_2 := (HB.out.cell (World.block_lt_of_cell? w _ hx141_2)).trans hx141_2
                      replace hx141_3 := (HB.out.cell (World.block_lt_of_cell? w _ hx141_3)).trans hx141_3
                      replace hx141_4 := (HB.out.cell (World.block_lt_of_cell? w _ hx141_4)).trans hx141_4
                      replace p141 := eq_true p141
                      replace q141 := eq_true q141
                      go_wp2_with (first | ((with_reducible refine gate_callee (f := 20) rfl ?_); refine goesL_ (some 38) rfl rfl Tryd.func20 (by kernel_rfl) rfl #[.int .i64 ((rd_T43 l0 x8_1).f0), .int .i64 4] rfl (by (try simp only [List.map_toArray, List.map_cons, List.map_nil]); first | done | rfl | (simp only [List.length_drop, List.length_take]; rfl)) ?_; (with_reducible refine (cadencyref04_rest.calls ((rd_T43 l0 x8_1).f0) 4 t142 _ A10.out).mono ?_); rintro e w' ⟨rfl, ⟨nd, rfl⟩⟩; refine ⟨_, rfl, ?_⟩; have p143 : 0 ≤ (x8_1 : Int) := of_decide_eq_true (by first | (with_reducible assumption) | assumption); have q143 : x8_1 < (l0.length : Int) := of_decide_eq_true (by first | (with_reducible assumption) | assumption); obtain ⟨ad143, e143, hx143_0, hx143_1, hx143_2, hx143_3, hx143_4⟩ := at_T43 HR0.out x8_1 p143 q143; obtain rfl : ad141 = ad143 := (by injection e143); replace hx143_0 := (HB.out.cell (World.block_lt_of_cell? w _ hx143_0)).trans hx143_0; replace hx143_1 := (HB.out.cell (World.block_lt_of_cell? w _ hx143_1)).trans hx143_1; replace hx143_2 := (HB.out.cell (World.block_lt_of_cell? w _ hx143_2)).trans hx143_2; replace hx143_3 := (HB.out.cell (World.block_lt_of_cell? w _ hx143_3)).trans hx143_3; replace hx143_4 := (HB.out.cell (World.block_lt_of_cell? w _ hx143_4)).trans hx143_4; replace p143 := eq_true p143; replace q143 := eq_true q143) | ((with_reducible refine gate_callee (f := 20) rfl ?_); refine goesL_ (some 46) rfl rfl Tryd.func20 (by kernel_rfl) rfl #[.int .i64 ((rd_T43 l0 x8_1).f1), .int .i64 11] rfl (by (try simp only [List.map_toArray, List.map_cons, List.map_nil]); first | done | rfl | (simp only [List.length_drop, List.length_take]; rfl)) ?_; (with_reducible refine (cadencyref04_rest.calls ((rd_T43 l0 x8_1).f1) 11 t144 _ A11.out).mono ?_); rintro e w' ⟨rfl, ⟨nd, rfl⟩⟩; refine ⟨_, rfl, ?_⟩; have p145 : 0 ≤ (x8_1 : Int) := of_decide_eq_true (by first | (with_reducible assumption) | assumption); have q145 : x8_1 < (l0.length : Int) := of_decide_eq_true (by first | (with_reducible assumption) | assumption); obtain ⟨ad145, e145, hx145_0, hx145_1, hx145_2, hx145_3, hx145_4⟩ := at_T43 HR0.out x8_1 p145 q145; obtain rfl : ad141 = ad145 := (by injection e145); replace hx145_0 := (HB.out.cell (World.block_lt_of_cell? w _ hx145_0)).trans hx145_0; replace hx145_1 := (HB.out.cell (World.block_lt_of_cell? w _ hx145_1)).trans hx145_1; replace hx145_2 := (HB.out.cell (World.block_lt_of_cell? w _ hx145_2)).trans hx145_2; replace hx145_3 := (HB.out.cell (World.block_lt_of_cell? w _ hx145_3)).trans hx145_3; replace hx145_4 := (HB.out.cell (World.block_lt_of_cell? w _ hx145_4)).trans hx145_4; replace p145 := eq_true p145; replace q145 := eq_true q145) | ((with_reducible refine gate_callee (f := 20) rfl ?_); refine goesL_ (some 57) rfl rfl Tryd.func20 (by kernel_rfl) rfl #[.int .i64 ((rd_T43 l0 x8_1).f2), .int .i64 (wrap64 ((wrap64 ((wrap64 ((wrap64 (1 + t142)) + t144)) - (wrap64 (1 + t142)))) + 1))] rfl (by (try simp only [List.map_toArray, List.map_cons, List.map_nil]); first | done | rfl | (simp only [List.length_drop, List.length_take]; rfl)) ?_; (with_reducible refine (cadencyref04_rest.calls ((rd_T43 l0 x8_1).f2) (wrap64 ((wrap64 ((wrap64 ((wrap64 (1 + t142)) + t144)) - (wrap64 (1 + t142)))) + 1)) t146 _ A12.out).mono ?_); rintro e w' ⟨rfl, ⟨nd, rfl⟩⟩; refine ⟨_, rfl, ?_⟩; have p147 : 0 ≤ (x8_1 : Int) := of_decide_eq_true (by first | (with_reducible assumption) | assumption); have q147 : x8_1 < (l0.length : Int) := of_decide_eq_true (by first | (with_reducible assumption) | assumption); obtain ⟨ad147, e147, hx147_0, hx147_1, hx147_2, hx147_3, hx147_4⟩ := at_T43 HR0.out x8_1 p147 q147; obtain rfl : ad141 = ad147 := (by injection e147); replace hx147_0 := (HB.out.cell (World.block_lt_of_cell? w _ hx147_0)).trans hx147_0; replace hx147_1 := (HB.out.cell (World.block_lt_of_cell? w _ hx147_1)).trans hx147_1; replace hx147_2 := (HB.out.cell (World.block_lt_of_cell? w _ hx147_2)).trans hx147_2; replace hx147_3 := (HB.out.cell (World.block_lt_of_cell? w _ hx147_3)).trans hx147_3; replace hx147_4 := (HB.out.cell (World.block_lt_of_cell? w _ hx147_4)).trans hx147_4; replace p147 := eq_true p147; replace q147 := eq_true q147) | ((with_reducible refine gate_callee (f := 20) rfl ?_); refine goesL_ (some 64) rfl rfl Tryd.func20 (by kernel_rfl) rfl #[.int .i64 ((rd_T43 l0 x8_1).f4), .int .i64 7] rfl (by (try simp only [List.map_toArray, List.map_cons, List.map_nil]); first | done | rfl | (simp only [List.length_drop, List.length_take]; rfl)) ?_; (with_reducible refine (cadencyref04_rest.calls ((rd_T43 l0 x8_1).f4) 7 t148 _ A13.out).mono ?_); rintro e w' ⟨rfl, ⟨nd, rfl⟩⟩; refine ⟨_, rfl, ?_⟩; have p149 : 0 ≤ (x8_1 : Int) := of_decide_eq_true (by first | (with_reducible assumption) | assumption); have q149 : x8_1 < (l0.length : Int) := of_decide_eq_true (by first | (with_reducible assumption) | assumption); obtain ⟨ad149, e149, hx149_0, hx149_1, hx149_2, hx149_3, hx149_4⟩ := at_T43 HR0.out x8_1 p149 q149; obtain rfl : ad141 = ad149 := (by injection e149); replace hx149_0 := (HB.out.cell (World.block_lt_of_cell? w _ hx149_0)).trans hx149_0; replace hx149_1 := (HB.out.cell (World.block_lt_of_cell? w _ hx149_1)).trans hx149_1; replace hx149_2 := (HB.out.cell (World.block_lt_of_cell? w _ hx149_2)).trans hx149_2; replace hx149_3 := (HB.out.cell (World.block_lt_of_cell? w _ hx149_3)).trans hx149_3; replace hx149_4 := (HB.out.cell (World.block_lt_of_cell? w _ hx149_4)).trans hx149_4; replace p149 := eq_true p149; replace q149 := eq_true q149) | ((with_reducible refine gate_callee (f := 20) rfl ?_); refine goesL_ (some 72) rfl rfl Tryd.func20 (by kernel_rfl) rfl #[.int .i64 ((rd_T43 l0 x8_1).f3), .int .i64 (wrap64 (1 + t142))] rfl (by (try simp only [List.map_toArray, List.map_cons, List.map_nil]); first | done | rfl | (simp only [List.length_drop, List.length_take]; rfl)) ?_; (with_reducible refine (cadencyref04_rest.calls ((rd_T43 l0 x8_1).f3) (wrap64 (1 + t142)) t150 _ A14.out).mono ?_); rintro e w' ⟨rfl, ⟨nd, rfl⟩⟩; refine ⟨_, rfl, ?_⟩) | ((with_reducible refine gate_dst (N := 78) rfl ?_); refine Kd.R_lit (Kd.int .u8) _ 5 ?hg (N := 78) ?hd (xs := ([(wrap64 (97 + x8_1)) % 256] : List Int)) (inner := [.int .u8 ((wrap64 (97 + x8_1)) % 256)]) (ok := fun _ => True) (okp := fun _ => True) ?hr ?hp (fun _ hk => hk) trivial (Below.refl _ _) (Nat.le_refl _) (by simp) ?_; (case hd => rfl); (case hg => rfl); (case hr => first | (go_simp; done) | (go_simp; rfl)); (case hp => exact (Reps.one (show Kd.M (Kd.int .u8) _ _ _ ((wrap64 (97 + x8_1)) % 256) [.int .u8 ((wrap64 (97 + x8_1)) % 256)] from rfl) (Reps.none _ _))); intro v152 w17 ho18 hb hg_ hnew_; clear hg_ hnew_; (first | rw [← Ny151.out] at ho18 | (simp only [Int.reduceToNat] at ho18; rw [← Ny151.out] at ho18)); have n0_ := Aside0.mk (Kd.R_below (by (with_reducible repeat (first | apply Kd.R_alloc | apply Kd.R_drewN | apply Kd.R_drew)); exact HO_7.out) hb); have n1_ := Aside0.mk (Kd.R_lower ho18 (below_size (by repeat (first | (with_reducible first | exact HB.out | apply below_alloc | apply pw_below_drewN | apply below_drew1) | exact HB.out)))); have n2_ := Aside0.mk (below_step (by repeat (first | (with_reducible first | exact HB.out | apply below_alloc | apply pw_below_drewN | apply below_drew1) | exact HB.out)) hb); clear HO_7; clear HB; have HO_7 := n0_; have HO153 := n1_; have HB := n2_; clear n0_ n1_ n2_; clear hb ho18; have hcv19 := own_string (P := Tryd.prog) Tryd.underlying45 Tryd.underlying5 Tryd.underlying9 (Kd.own_of_R HO153.out)) | ((with_reducible refine gate_builtin (b := .append) (xs := #[.tmp 74, .tmp 87]) rfl ?_); at_builtin; refine Kd.R_append k29 (w0 := w) w.heap.size rfl (.tmp 74) (.tmp 87) 22 29 (.agg #[(.string ⟨#[]⟩), (.int .i64 0), (.int .i64 0), (.int .i64 0), (.int .i64 0), (.int .i64 0), (.int .i64 0)]) 64 rfl Tryd.underlying22 info29 rfl (by decide) (by omega) u7 x7_1 (⟨(⟨#[116]⟩ : ByteArray) ++ (strOfNums y151), wrap64 (1 + t142), wrap64 ((wrap64 ((wrap64 (1 + t142)) + t144)) + t148), wrap64 ((wrap64 (1 + t142)) + t144), t146, wrap64 (1 + t150), 0⟩ : S29) [.string ((⟨#[116]⟩ : ByteArray) ++ (strOfNums y151)), .int .i64 (wrap64 (1 + t142)), .int .i64 (wrap64 ((wrap64 ((wrap64 (1 + t142)) + t144)) + t148)), .int .i64 (wrap64 ((wrap64 (1 + t142)) + t144)), .int .i64 t146, .int .i64 (wrap64 (1 + t150)), .int .i64 0] (fun _ => True) (fun _ => False) rfl rfl ?aP (fun _ hk => hk.elim) ?aF ?aO ?aB ?aS ?aL ?_; (case aP => exact k29_mkM _ _ _ (⟨(⟨#[116]⟩ : ByteArray) ++ (strOfNums y151), wrap64 (1 + t142), wrap64 ((wrap64 ((wrap64 (1 + t142)) + t144)) + t148), wrap64 ((wrap64 (1 + t142)) + t144), t146, wrap64 (1 + t150), 0⟩ : S29)); (case aB => exact (by repeat (first | (with_reducible first | exact HB.out | apply below_alloc | apply pw_below_drewN | apply below_drew1) | exact HB.out))); (case aF => exact (fun _ _ => trivial)); (case aO => exact (by (with_reducible repeat (first | apply Kd.R_alloc | apply Kd.R_drewN | apply Kd.R_drew)); exact HO_7.out)); (case aS => exact (below_size (by repeat (first | (with_reducible first | exact HB.out | apply below_alloc | apply pw_below_drewN | apply below_drew1) | exact HB.out)))); (case aL => have := LMc16.out; omega); intro v155 w20 ho hb hg hat; rw [← Ny154.out] at ho; have n0_ := Aside0.mk (Kd.R_over' (by (with_reducible repeat (first | apply Kd.R_alloc | apply Kd.R_drewN | apply Kd.R_drew)); exact HO153.out) (Kd.R_typed (by (with_reducible repeat (first | apply Kd.R_alloc | apply Kd.R_drewN | apply Kd.R_drew)); exact HO_7.out)) (by decide) hg); have n1_ := Aside0.mk (hb); have n2_ := Aside0.mk (ho); clear HO153; clear HB; clear HO_7; have HO153 := n0_; have HB := n1_; have HO156 := n2_; clear n0_ n1_ n2_; clear ho hb hg hat))
                      go_roundg kj4
                      case measure => have := HK1.out; have := HJ4.out; omega
                      case rel => exact ⟨(y154), (wrap64 (x8_1 + 1)), (by first | rfl | (simp; done) | (simp [*]; done)), H', ⟨by have := HK1.out; have := HJ4.out; omega⟩, ⟨by (with_reducible repeat (first | apply Kd.R_alloc | apply Kd.R_drewN | apply Kd.R_drew)); exact HO156.out⟩, ⟨by repeat (first | (with_reducible first | exact HB.out | apply below_alloc | apply pw_below_drewN | apply below_drew1) | exact HB.out)⟩⟩
                    · rw [if_neg c16] at H
                      exact absurd H (by simp)
                  · rw [if_neg c15] at H
                    exact absurd H (by simp)
                · rw [if_neg c9] at H
                  exact absurd H (by simp)
              · rw [if_neg c8] at H
                exact absurd H (by simp)
            · replace c7 := Bool.eq_false_iff.mpr c7
              subst c7
              have H1 : (cadencyref04_SetF.l1 kj4 a2 x7_1 (x7_1.length : Int) 0) = some r := by rw [if_neg (show ¬ (false = true) by decide)] at H; exact H
              clear H
              have H := H1
              clear H1
              have H' := Aside0.mk H
              clear H
              obtain ⟨Ao21, co21, eo21⟩ := Kd.R_slice HO_7.out
              subst eo21
              go_wp2
              go_loopg [15] kj4 (fun kq v15 w' => ∃ (x7_3 : List (S29)) (x15_3 : Int), v15 = .int .i64 x15_3 ∧ Aside0 (cadencyref04_SetF.l1 kq a2 x7_3 (x7_1.length : Int) x15_3 = some r) ∧ Aside0 (kq ≤ kj4) ∧ Aside0 (Kd.R k29 29 w' w.heap.size (fun _ => True) (.slice Ao21 x7_1.length co21) x7_3) ∧ Aside0 (Below w.heap.size w w'))
              case atStart => exact ⟨(x7_1), (0), (by first | rfl | (simp; done) | (simp [*]; done)), H', ⟨Nat.le_refl _⟩, ⟨by (with_reducible repeat (first | apply Kd.R_alloc | apply Kd.R_drewN | apply Kd.R_drew)); exact HO_7.out⟩, ⟨by repeat (first | (with_reducible first | exact HB.out | apply below_alloc | apply pw_below_drewN | apply below_drew1) | exact HB.out)⟩⟩
              case round =>
                clear H'
                try clear c1
                try clear p1
                try clear q1
                try clear hx1
                try clear hcv1
                try clear c2
                try clear p2
                try clear c4
                try clear c4b0
                try clear c4b1
                try clear c4b2
                try clear c6
                try clear c6b0
                try clear p6
                try clear c7
                try clear c8
                try clear c8b0
                try clear c9
                try clear c9b0
                try clear p14
                try clear q14
                try clear hx14
                try clear c15
                try clear c15b0
                try clear c15b1
                try clear c15b2
                try clear c16
                try clear hcv19
                try clear c20
                try clear hx141_0
                try clear hx141_1
                try clear hx141_2
                try clear hx141_3
                try clear hx141_4
                try clear hx143_0
                try clear hx143_1
                try clear hx143_2
                try clear hx143_3
                try clear hx143_4
                try clear hx145_0
                try clear hx145_1
                try clear hx145_2
                try clear hx145_3
                try clear hx145_4
                try clear hx147_0
                try clear hx147_1
                try clear hx147_2
                try clear hx147_3
                try clear hx147_4
                try clear hx149_0
                try clear hx149_1
                try clear hx149_2
                try clear hx149_3
                try clear hx149_4
                try clear p141
                try clear p143
                try clear p145
                try clear p147
                try clear p149
                try clear p2
                try clear q141
                try clear q143
                try clear q145
                try clear q147
                try clear q149
                obtain ⟨x7_3, x15_3, rfl, HA, HK3, HO_7, HB⟩ := hrel
                have hl7_3 := (Kd.R_reads' HO_7.out).1
                rw [hl7_3] at HO_7
                (try simp only [hl7_3])
                cases gk with
                | zero => exact absurd HA.out (by simp [cadencyref04_SetF.l1])
                | succ k3 =>
                  have H := HA.out
                  clear HA
                  simp only [cadencyref04_SetF.l1] at H
                  by_cases c22 : x15_3 < (x7_1.length : Int)
                  · rw [if_pos c22] at H
                    have c22b0 : decide (x15_3 < (x7_1.length : Int)) = true := decide_eq_true c22
                    clear c22
                    replace H := Option.bind_eq_some_iff.mp H
                    obtain ⟨t157, A230, H⟩ := H
                    replace H : ((cadencyref04_rest.f a2 (x7_1.length : Int)).bind fun t158 => (if (x7_1.length : Int) = 0 then (none) else (if 0 ≤ x15_3 then (if x15_3 < (x7_3.length : Int) then (cadencyref04_SetF.l1 k3 a2 (x7_3.set (x15_3 : Int).toNat (⟨(rd_T29 x7_3 x15_3).f0, (rd_T29 x7_3 x15_3).f1, (rd_T29 x7_3 x15_3).f2, (rd_T29 x7_3 x15_3).f3, (rd_T29 x7_3 x15_3).f4, (rd_T29 x7_3 x15_3).f5, wrap64 (1 + (Int.tmod (wrap64 ((wrap64 (x15_3 * t157)) + t158)) (x7_1.length : Int)))⟩ : S29)) (x7_1.length : Int) (wrap64 (x15_3 + 1))) else (none)) else (none)))) = some r := H
                    have A23 := Aside0.mk A230
                    clear A230
                    replace H := Option.bind_eq_some_iff.mp H
                    obtain ⟨t158, A240, H⟩ := H
                    replace H : (if (x7_1.length : Int) = 0 then (none) else (if 0 ≤ x15_3 then (if x15_3 < (x7_3.length : Int) then (cadencyref04_SetF.l1 k3 a2 (x7_3.set (x15_3 : Int).toNat (⟨(rd_T29 x7_3 x15_3).f0, (rd_T29 x7_3 x15_3).f1, (rd_T29 x7_3 x15_3).f2, (rd_T29 x7_3 x15_3).f3, (rd_T29 x7_3 x15_3).f4, (rd_T29 x7_3 x15_3).f5, wrap64 (1 + (Int.tmod (wrap64 ((wrap64 (x15_3 * t157)) + t158)) (x7_1.length : Int)))⟩ : S29)) (x7_1.length : Int) (wrap64 (x15_3 + 1))) else (none)) else (none))) = some r := H
                    have A24 := Aside0.mk A240
                    clear A240
                    by_cases c25 : (x7_1.length : Int) = 0
                    · rw [if_pos c25] at H
                      exact absurd H (by simp)
                    · rw [if_neg c25] at H
                      have c25b0 : ((x7_1.length : Int) == 0) = false := beq_eq_false_iff_ne.mpr c25
                      have c25b1 : ((x7_1.length : Int) != 0) = true := bne_iff_ne.mpr c25
                      have c25b2 : ¬ (x7_1 = []) := fun h_ => c25 (by rw [h_]; rfl)
                      by_cases c26 : 0 ≤ x15_3
                      · rw [if_pos c26] at H
                        have c26b0 : decide (0 ≤ x15_3) = true := decide_eq_true c26
                        clear c26
                        by_cases c27 : x15_3 < (x7_3.length : Int)
                        · rw [if_pos c27] at H
                          have c27b0 : decide (x15_3 < (x7_3.length : Int)) = true := decide_eq_true c27
                          clear c27
                          obtain ⟨y159, hy159⟩ : ∃ y_ : List (S29), y_ = (x7_3.set (x15_3 : Int).toNat (⟨(rd_T29 x7_3 x15_3).f0, (rd_T29 x7_3 x15_3).f1, (rd_T29 x7_3 x15_3).f2, (rd_T29 x7_3 x15_3).f3, (rd_T29 x7_3 x15_3).f4, (rd_T29 x7_3 x15_3).f5, wrap64 (1 + (Int.tmod (wrap64 ((wrap64 (x15_3 * t157)) + t158)) (x7_1.length : Int)))⟩ : S29)) := ⟨_, rfl⟩
                          replace H : (cadencyref04_SetF.l1 k3 a2 y159 (x7_1.length : Int) (wrap64 (x15_3 + 1))) = some r := by first | (rw [hy159]; with_reducible exact H) | (have H2_ := (Option.bind_some _ _).symm.trans H; rw [hy159]; with_reducible exact H2_) | (have H2_ := (Option.bind_some _ _).symm.trans H; with_reducible exact H2_) | with_reducible exact H | (rw [hy159]; exact H) | exact H
                          (try rw [hl7_3] at hy159)
                          have Ny159 := Aside0.mk hy159
                          clear hy159
                          have H' := Aside0.mk H
                          clear H
                          go_wp2_with (first | ((with_reducible refine gate_callee (f := 21) rfl ?_); refine goesL_ (some 101) rfl rfl Tryd.func21 (by kernel_rfl) rfl #[.int .i64 (x7_3.length : Int), .int .i64 a2] rfl (by (try simp only [List.map_toArray, List.map_cons, List.map_nil]); first | done | rfl | (simp only [List.length_drop, List.length_take]; rfl)) ?_; (with_reducible refine (cadencyref04_turns.calls (x7_3.length : Int) a2 t157 _ (by rw [← hl7_3]; exact A23.out)).mono ?_); rintro e w' ⟨rfl, ⟨nd, rfl⟩⟩; refine ⟨_, rfl, ?_⟩; (try (rw [drewN_self wr]; generalize hq_ : World.drewN wr _ = wr; have n0_ : Aside0 (Kd.R k29 29 wr w.heap.size (fun _ => True) (.slice Ao21 x7_3.length co21) x7_3) := ⟨by rw [← hq_]; exact (by (with_reducible repeat (first | apply Kd.R_alloc | apply Kd.R_drewN | apply Kd.R_drew)); exact HO_7.out)⟩; have n1_ : Aside0 (Below w.heap.size w wr) := ⟨by rw [← hq_]; exact (by repeat (first | (with_reducible first | exact HB.out | apply below_alloc | apply pw_below_drewN | apply below_drew1) | exact HB.out))⟩; clear HO_7 HB hq_; have HO_7 := n0_; have HB := n1_; clear n0_ n1_))) | ((with_reducible refine gate_callee (f := 20) rfl ?_); refine goesL_ (some 105) rfl rfl Tryd.func20 (by kernel_rfl) rfl #[.int .i64 a2, .int .i64 (x7_3.length : Int)] rfl (by (try simp only [List.map_toArray, List.map_cons, List.map_nil]); first | done | rfl | (simp only [List.length_drop, List.length_take]; rfl)) ?_; (with_reducible refine (cadencyref04_rest.calls a2 (x7_3.length : Int) t158 _ (by rw [← hl7_3]; exact A24.out)).mono ?_); rintro e w' ⟨rfl, ⟨nd, rfl⟩⟩; refine ⟨_, rfl, ?_⟩; (try (rw [drewN_self wr]; generalize hq_ : World.drewN wr _ = wr; have n0_ : Aside0 (Kd.R k29 29 wr w.heap.size (fun _ => True) (.slice Ao21 x7_3.length co21) x7_3) := ⟨by rw [← hq_]; exact (by (with_reducible repeat (first | apply Kd.R_alloc | apply Kd.R_drewN | apply Kd.R_drew)); exact HO_7.out)⟩; have n1_ : Aside0 (Below w.heap.size w wr) := ⟨by rw [← hq_]; exact (by repeat (first | (with_reducible first | exact HB.out | apply below_alloc | apply pw_below_drewN | apply below_drew1) | exact HB.out))⟩; clear HO_7 HB hq_; have HO_7 := n0_; have HB := n1_; clear n0_ n1_)); have p28 : 0 ≤ (x15_3 : Int) := of_decide_eq_true (by first | (with_reducible assumption) | assumption); have q28 : (x15_3 : Int) < ((x7_3.length : Int) : Int) := of_decide_eq_true (by first | (with_reducible assumption) | assumption); obtain ⟨go28, co28, eo28, gb28, gl28, cl28, HG28⟩ := Kd.R_form HO_7.out (by omega); (first | cases eo28 | (injection eo28 with ea_ en_ ec_; (first | subst ea_ | (injection ea_ with ea_; subst ea_)); subst ec_; clear en_)); have GB28 := Aside0.mk gb28; have GG28 := Aside0.mk HG28; clear gb28 gl28 HG28; obtain ⟨ce28, hcl28, hM28, hcc28, hfr28⟩ := Kd.R_elem HO_7.out z29 (x15_3 : Int) p28 q28; obtain rfl := k29_openM hM28; have hx28_0 : wr.cell? ⟨go28, (x15_3 : Int).toNat * 7, none⟩ = some (.string ((rd_T29 x7_3 x15_3).f0)) := hcc28 0 _ rfl; have hx28_1 : wr.cell? ⟨go28, (x15_3 : Int).toNat * 7 + 1, none⟩ = some (.int .i64 ((rd_T29 x7_3 x15_3).f1)) := hcc28 1 _ rfl; have hx28_2 : wr.cell? ⟨go28, (x15_3 : Int).toNat * 7 + 2, none⟩ = some (.int .i64 ((rd_T29 x7_3 x15_3).f2)) := hcc28 2 _ rfl; have hx28_3 : wr.cell? ⟨go28, (x15_3 : Int).toNat * 7 + 3, none⟩ = some (.int .i64 ((rd_T29 x7_3 x15_3).f3)) := hcc28 3 _ rfl; have hx28_4 : wr.cell? ⟨go28, (x15_3 : Int).toNat * 7 + 4, none⟩ = some (.int .i64 ((rd_T29 x7_3 x15_3).f4)) := hcc28 4 _ rfl; have hx28_5 : wr.cell? ⟨go28, (x15_3 : Int).toNat * 7 + 5, none⟩ = some (.int .i64 ((rd_T29 x7_3 x15_3).f5)) := hcc28 5 _ rfl; have hx28_6 : wr.cell? ⟨go28, (x15_3 : Int).toNat * 7 + 6, none⟩ = some (.int .i64 ((rd_T29 x7_3 x15_3).f6)) := hcc28 6 _ rfl; have hf28_0 : wr.frozen? ⟨go28, (x15_3 : Int).toNat * 7, none⟩ = false := hfr28 0; have hf28_1 : wr.frozen? ⟨go28, (x15_3 : Int).toNat * 7 + 1, none⟩ = false := hfr28 1; have hf28_2 : wr.frozen? ⟨go28, (x15_3 : Int).toNat * 7 + 2, none⟩ = false := hfr28 2; have hf28_3 : wr.frozen? ⟨go28, (x15_3 : Int).toNat * 7 + 3, none⟩ = false := hfr28 3; have hf28_4 : wr.frozen? ⟨go28, (x15_3 : Int).toNat * 7 + 4, none⟩ = false := hfr28 4; have hf28_5 : wr.frozen? ⟨go28, (x15_3 : Int).toNat * 7 + 5, none⟩ = false := hfr28 5; have hf28_6 : wr.frozen? ⟨go28, (x15_3 : Int).toNat * 7 + 6, none⟩ = false := hfr28 6; clear hcl28 hcc28 hfr28 hM28; replace p28 := eq_true p28; replace q28 := eq_true q28; have HX29 := Aside0.mk (show Kd.R k29 29 wr w.heap.size (fun _ => True) (.slice (some ⟨go28, 0, none⟩) x7_3.length co21) x7_3 from (by (with_reducible repeat (first | apply Kd.R_alloc | apply Kd.R_drewN | apply Kd.R_drew)); exact HO_7.out)); obtain ⟨ce29, hcl29, hM29, hcc29, hfr29⟩ := Kd.R_elem HX29.out z29 (x15_3 : Int) (of_decide_eq_true (by first | (with_reducible assumption) | assumption)) (by have h_ : (x15_3 : Int) < ((x7_3.length : Int) : Int) := of_decide_eq_true (by first | (with_reducible assumption) | assumption); first | exact h_ | (have e_ := (Kd.R_reads' HO_7.out).1; omega) | simpa using h_); obtain rfl := k29_openM hM29; have HP29 := Kd.R_seg HX29.out (x15_3 : Int) (of_decide_eq_true (by first | (with_reducible assumption) | assumption)) (by have h_ : (x15_3 : Int) < ((x7_3.length : Int) : Int) := of_decide_eq_true (by first | (with_reducible assumption) | assumption); first | exact h_ | (have e_ := (Kd.R_reads' HO_7.out).1; omega) | simpa using h_) (seg := [.int .i64 (wrap64 (1 + (Int.tmod (wrap64 ((wrap64 (x15_3 * t157)) + t158)) (x7_3.length : Int))))]) (j := 6) hcl29 hcc29 (show 7 ≤ 7 from by decide) (x' := (⟨(rd_T29 x7_3 x15_3).f0, (rd_T29 x7_3 x15_3).f1, (rd_T29 x7_3 x15_3).f2, (rd_T29 x7_3 x15_3).f3, (rd_T29 x7_3 x15_3).f4, (rd_T29 x7_3 x15_3).f5, wrap64 (1 + (Int.tmod (wrap64 ((wrap64 (x15_3 * t157)) + t158)) (x7_3.length : Int)))⟩ : S29)) (k29_mkM _ _ _ (⟨(rd_T29 x7_3 x15_3).f0, (rd_T29 x7_3 x15_3).f1, (rd_T29 x7_3 x15_3).f2, (rd_T29 x7_3 x15_3).f3, (rd_T29 x7_3 x15_3).f4, (rd_T29 x7_3 x15_3).f5, wrap64 (1 + (Int.tmod (wrap64 ((wrap64 (x15_3 * t157)) + t158)) (x7_3.length : Int)))⟩ : S29) ) (fun _ hk => hk); have hx29_6 := hcc29 6 _ rfl; (try simp only [show (k29).sz = 7 from rfl, Nat.mul_one, Nat.add_zero] at hx29_6); have hf29_6 := hfr29 6; (try simp only [show (k29).sz = 7 from rfl, Nat.mul_one, Nat.add_zero] at hf29_6); clear hcl29 hcc29 hfr29 hM29) | ((with_reducible refine gate_store (t := 3) (p := 111) rfl ?_); refine store_event (t := 3) (p := 111) (v := ?vo_w30) (w1 := (wr.setCell ⟨go28, (x15_3 : Int).toNat * 7 + 6, none⟩ (.int .i64 (wrap64 (1 + (Int.tmod (wrap64 ((wrap64 (x15_3 * t157)) + t158)) (x7_3.length : Int))))))) ?hg ?ho ?hn ?hr ?_; (case ho => rfl); (case hg => rfl); (case hn => rfl); (case hr => first | (go_simp; done) | (go_simp; rfl)); intro w30 hw; have hg : wr.grownBy w30 (some go28) := (by rw [hw]; exact HP29.2); have hp_ : Kd.R k29 29 w30 w.heap.size (fun _ => True) (.slice (some ⟨go28, 0, none⟩) x7_3.length co21) y159 := (by rw [hw, Ny159.out]; exact HP29.1); clear HP29; have n0_ := Aside0.mk (hp_); have n1_ := Aside0.mk ((by rw [hw]; exact below_set (HB.out) GB28.out : Below w.heap.size w w30)); clear HO_7; clear HB; have HO_7 := n0_; have HB := n1_; clear n0_ n1_; clear hg hw hp_))
                          (try simp only [← hl7_3])
                          go_roundg k3
                          case measure => have := HK1.out; have := HJ4.out; have := HK3.out; omega
                          case rel => exact ⟨(y159), (wrap64 (x15_3 + 1)), (by first | rfl | (simp; done) | (simp [*]; done)), H', ⟨by have := HK1.out; have := HJ4.out; have := HK3.out; omega⟩, ⟨by (try simp only [hl7_3]); (with_reducible repeat (first | apply Kd.R_alloc | apply Kd.R_drewN | apply Kd.R_drew)); exact HO_7.out⟩, ⟨by repeat (first | (with_reducible first | exact HB.out | apply below_alloc | apply pw_below_drewN | apply below_drew1) | exact HB.out)⟩⟩
                        · rw [if_neg c27] at H
                          exact absurd H (by simp)
                      · rw [if_neg c26] at H
                        exact absurd H (by simp)
                  · rw [if_neg c22] at H
                    have c22b0 : decide (x15_3 < (x7_1.length : Int)) = false := decide_eq_false c22
                    clear c22
                    (try rw [hl7_3] at c22b0)
                    obtain rfl := Option.some.inj H
                    go_wp2
                    go_ret
                    exact ⟨_, by first | rfl | (simp [errW_none, errW_some] <;> rfl) | (simp [*, errW_none, errW_some] <;> rfl), by (with_reducible repeat (first | apply Kd.R_alloc | apply Kd.R_drewN | apply Kd.R_drew)); exact HO_7.out, by repeat (first | (with_reducible first | exact HB.out | apply below_alloc | apply pw_below_drewN | apply below_drew1) | exact HB.out)⟩

/-! ### cadencyref04_Set: function 8, its two halves as one -/
def cadencyref04_Set.f (k : Nat) (l0 : List (S43)) (a1 : Int) (a2 : Int) : Option ((List (S29))) := if (l0.length : Int) = 0 then cadencyref04_SetT.f k l0 a1 a2 else cadencyref04_SetF.f k l0 a1 a2
theorem cadencyref04_Set.calls (k : Nat) (A0 : Option Addr) (c0 : Nat) (l0 : List (S43)) (a1 : Int) (a2 : Int) (r : List (S29)) (w : World) (hr0 : Kd.C k43 w A0 l0.length l0) (hc0 : l0.length ≤ c0) (h : cadencyref04_Set.f k l0 a1 a2 = some r) :
    Calls Tryd.prog 8 #[.slice A0 l0.length c0, .int .i64 a1, .int .i64 a2] w fun e w' => ∃ v0_ : Value, e = .returned (v0_) ∧ Kd.R k29 29 w' w.heap.size (fun _ => True) v0_ r ∧ Below w.heap.size w w' := by
  unfold cadencyref04_Set.f at h
  split at h
  · exact cadencyref04_SetT.calls k A0 c0 l0 a1 a2 r w hr0 hc0 h
  · exact cadencyref04_SetF.calls k A0 c0 l0 a1 a2 r w hr0 hc0 h

-- NOT PRINTED: function 44 (abi_NoEscape)

-- NOT PRINTED: function 35 (strings_Builder_copyCheck)

-- NOT PRINTED: function 22 (strings_Builder_WriteString)

-- NOT PRINTED: function 23 (strings_Builder_String)

-- NOT PRINTED: function 69 (bytealg_MakeNoZero)

-- NOT PRINTED: function 49 (strings_Builder_grow)

-- NOT PRINTED: function 37 (strings_Builder_Grow)

-- NOT PRINTED: function 26 (strings_Join)

/-! ### cadencyref05_Digits: function 27 -/
mutual
def cadencyref05_Digits.l0 : Nat → Int → ByteArray → Int → Option (ByteArray)
  | 0, _, _, _ => none
  | k + 1, x0, x3, x4 => if x4 = 0 then (cadencyref05_Digits.j1 k x0 x3 x4 (x3.toList == ([] : List UInt8))) else (cadencyref05_Digits.j1 k x0 x3 x4 true)
def cadencyref05_Digits.j1 : Nat → Int → ByteArray → Int → Bool → Option (ByteArray)
  | 0, _, _, _, _ => none
  | k + 1, x0, x3, x4, x12 => if x12 = true then (if (Int.tmod x4 10) < 0 then ((some (([(wrap64 (48 + (wrap64 (-(Int.tmod x4 10))))) % 256] : List Int) : List Int)).bind fun y161 => (if (strOfNums y161).size + x3.size ≤ 9223372036854775807 then (cadencyref05_Digits.l0 k x0 ((strOfNums y161) ++ x3) (wrap64 (Int.tdiv x4 10))) else (none))) else ((some (([(wrap64 (48 + (Int.tmod x4 10))) % 256] : List Int) : List Int)).bind fun y164 => (if (strOfNums y164).size + x3.size ≤ 9223372036854775807 then (cadencyref05_Digits.l0 k x0 ((strOfNums y164) ++ x3) (wrap64 (Int.tdiv x4 10))) else (none)))) else (if x0 < 0 then (if 1 + x3.size ≤ 9223372036854775807 then (some ((⟨#[45]⟩ : ByteArray) ++ x3)) else (none)) else (some x3))
end
def cadencyref05_Digits.f (k : Nat) (a0 : Int) : Option (ByteArray) := cadencyref05_Digits.l0 k a0 (⟨#[]⟩ : ByteArray) a0
set_option maxHeartbeats 8000000 in
set_option maxRecDepth 100000 in
theorem cadencyref05_Digits.calls (k : Nat) (a0 : Int) (r : ByteArray) (w : World) (h : cadencyref05_Digits.f k a0 = some r) :
    Calls Tryd.prog 27 #[.int .i64 a0] w fun e w' => e = .returned (.string r) ∧ Below w.heap.size w w' := by
  have HB := Aside0.mk (Below.refl w.heap.size w)
  have H : (cadencyref05_Digits.l0 k a0 (⟨#[]⟩ : ByteArray) a0) = some r := h
  clear h
  have H' := Aside0.mk H
  clear H
  go_enter Tryd.func27, Tryd.ntmps27
  go_wp2
  go_loopg [3, 4] k (fun kq v3 v4 w' => ∃ (x3_1 : ByteArray) (x4_1 : Int), v3 = .string x3_1 ∧ v4 = .int .i64 x4_1 ∧ Aside0 (cadencyref05_Digits.l0 kq a0 x3_1 x4_1 = some r) ∧ Aside0 (kq ≤ k) ∧ Aside0 (Below w.heap.size w w'))
  case atStart => exact ⟨((⟨#[]⟩ : ByteArray)), (a0), (by first | rfl | (simp; done) | (simp [*]; done)), (by first | rfl | (simp; done) | (simp [*]; done)), H', ⟨Nat.le_refl _⟩, ⟨by repeat (first | (with_reducible first | exact HB.out | apply below_alloc | apply pw_below_drewN | apply below_drew1) | exact HB.out)⟩⟩
  case round =>
    clear H'
    obtain ⟨x3_1, x4_1, rfl, rfl, HA, HK1, HB⟩ := hrel
    cases gk with
    | zero => exact absurd HA.out (by simp [cadencyref05_Digits.l0])
    | succ k1 =>
      have H := HA.out
      clear HA
      simp only [cadencyref05_Digits.l0] at H
      have HC2 := Aside0.mk H
      clear H
      go_upto_region 3 with (fail)
      go_cut [12] (fun v12 wc => ∃ (kq : Nat) (x12_1 : Bool), v12 = .bool x12_1 ∧ Aside0 (cadencyref05_Digits.j1 kq a0 x3_1 x4_1 x12_1 = some r) ∧ Aside0 (kq ≤ k1) ∧ Aside0 (Below w.heap.size w wc))
      case first =>
        have H := HC2.out
        clear HC2
        by_cases c3 : x4_1 = 0
        · rw [if_pos c3] at H
          have c3b0 : (x4_1 == 0) = true := beq_iff_eq.mpr c3
          have c3b1 : (x4_1 != 0) = false := bne_eq_false_iff_eq.mpr c3
          clear c3
          (first | rw [c3b0] | (simp only [i64_w, i32_w]; rw [c3b0]) | skip)
          have H' := Aside0.mk H
          clear H
          go_wp2
          go_meet
          case rel => exact ⟨_, ((x3_1.toList == ([] : List UInt8))), (by first | rfl | (simp; done) | (simp [*]; done)), H', ⟨by have := HK1.out; first | omega | exact Nat.le_refl _⟩, ⟨by repeat (first | (with_reducible first | exact HB.out | apply below_alloc | apply pw_below_drewN | apply below_drew1) | exact HB.out)⟩⟩
        · rw [if_neg c3] at H
          have c3b0 : (x4_1 == 0) = false := beq_eq_false_iff_ne.mpr c3
          have c3b1 : (x4_1 != 0) = true := bne_iff_ne.mpr c3
          (first | rw [c3b0] | (simp only [i64_w, i32_w]; rw [c3b0]) | skip)
          have H' := Aside0.mk H
          clear H
          go_wp2
          go_meet
          case rel => exact ⟨_, (true), (by first | rfl | (simp; done) | (simp [*]; done)), H', ⟨by have := HK1.out; first | omega | exact Nat.le_refl _⟩, ⟨by repeat (first | (with_reducible first | exact HB.out | apply below_alloc | apply pw_below_drewN | apply below_drew1) | exact HB.out)⟩⟩
      case rest =>
        clear HC2
        try clear c2
        try clear p2
        try clear c3
        try clear c3b0
        try clear c3b1
        obtain ⟨kq, x12_1, rfl, HA, HJ1, HB⟩ := hcut
        cases kq with
        | zero => exact absurd HA.out (by simp [cadencyref05_Digits.j1])
        | succ kj1 =>
          have H := HA.out
          clear HA
          simp only [cadencyref05_Digits.j1] at H
          by_cases c4 : x12_1 = true
          · subst c4
            have H1 : (if (Int.tmod x4_1 10) < 0 then ((some (([(wrap64 (48 + (wrap64 (-(Int.tmod x4_1 10))))) % 256] : List Int) : List Int)).bind fun y161 => (if (strOfNums y161).size + x3_1.size ≤ 9223372036854775807 then (cadencyref05_Digits.l0 kj1 a0 ((strOfNums y161) ++ x3_1) (wrap64 (Int.tdiv x4_1 10))) else (none))) else ((some (([(wrap64 (48 + (Int.tmod x4_1 10))) % 256] : List Int) : List Int)).bind fun y164 => (if (strOfNums y164).size + x3_1.size ≤ 9223372036854775807 then (cadencyref05_Digits.l0 kj1 a0 ((strOfNums y164) ++ x3_1) (wrap64 (Int.tdiv x4_1 10))) else (none)))) = some r := by rw [if_pos rfl] at H; exact H
            clear H
            have H := H1
            clear H1
            by_cases c5 : (Int.tmod x4_1 10) < 0
            · rw [if_pos c5] at H
              have c5b0 : decide ((Int.tmod x4_1 10) < 0) = true := decide_eq_true c5
              clear c5
              obtain ⟨y161, hy161⟩ : ∃ y_ : List Int, y_ = (([(wrap64 (48 + (wrap64 (-(Int.tmod x4_1 10))))) % 256] : List Int)) := ⟨_, rfl⟩
              replace H : (if (strOfNums y161).size + x3_1.size ≤ 9223372036854775807 then (cadencyref05_Digits.l0 kj1 a0 ((strOfNums y161) ++ x3_1) (wrap64 (Int.tdiv x4_1 10))) else (none)) = some r := by first | (rw [hy161]; with_reducible exact H) | (have H2_ := (Option.bind_some _ _).symm.trans H; rw [hy161]; with_reducible exact H2_) | (have H2_ := (Option.bind_some _ _).symm.trans H; with_reducible exact H2_) | with_reducible exact H | (rw [hy161]; exact H) | exact H
              have Ny161 := Aside0.mk hy161
              clear hy161
              by_cases c6 : (strOfNums y161).size + x3_1.size ≤ 9223372036854775807
              · rw [if_pos c6] at H
                have c6b0 := eq_true c6
                have c6b1 : decide ((strOfNums y161).size + x3_1.size ≤ 9223372036854775807) = true := decide_eq_true c6
                try have c6b2 : (9223372036854775807 < (strOfNums y161).size + x3_1.size) = False := eq_false (Nat.not_lt.2 c6)
                have H' := Aside0.mk H
                clear H
                go_wp2_with (first | ((with_reducible refine gate_dst (N := 22) rfl ?_); refine Kd.R_lit (Kd.int .u8) _ 5 ?hg (N := 22) ?hd (xs := ([(wrap64 (48 + (wrap64 (-(Int.tmod x4_1 10))))) % 256] : List Int)) (inner := [.int .u8 ((wrap64 (48 + (wrap64 (-(Int.tmod x4_1 10))))) % 256)]) (ok := fun _ => True) (okp := fun _ => True) ?hr ?hp (fun _ hk => hk) trivial (Below.refl _ _) (Nat.le_refl _) (by simp) ?_; (case hd => rfl); (case hg => rfl); (case hr => first | (go_simp; done) | (go_simp; rfl)); (case hp => exact (Reps.one (show Kd.M (Kd.int .u8) _ _ _ ((wrap64 (48 + (wrap64 (-(Int.tmod x4_1 10))))) % 256) [.int .u8 ((wrap64 (48 + (wrap64 (-(Int.tmod x4_1 10))))) % 256)] from rfl) (Reps.none _ _))); intro v162 w7 ho8 hb hg_ hnew_; clear hg_ hnew_; (first | rw [← Ny161.out] at ho8 | (simp only [Int.reduceToNat] at ho8; rw [← Ny161.out] at ho8)); have n0_ := Aside0.mk (Kd.R_lower ho8 (below_size (by repeat (first | (with_reducible first | exact HB.out | apply below_alloc | apply pw_below_drewN | apply below_drew1) | exact HB.out)))); have n1_ := Aside0.mk (below_step (by repeat (first | (with_reducible first | exact HB.out | apply below_alloc | apply pw_below_drewN | apply below_drew1) | exact HB.out)) hb); clear HB; have HO163 := n0_; have HB := n1_; clear n0_ n1_; clear hb ho8; have hcv9 := own_string (P := Tryd.prog) Tryd.underlying45 Tryd.underlying5 Tryd.underlying9 (Kd.own_of_R HO163.out)))
                go_roundg kj1
                case measure => have := HK1.out; have := HJ1.out; omega
                case rel => exact ⟨((strOfNums y161) ++ x3_1), (wrap64 (Int.tdiv x4_1 10)), (by first | rfl | (simp; done) | (simp [*]; done)), (by first | rfl | (simp; done) | (simp [*]; done)), H', ⟨by have := HK1.out; have := HJ1.out; omega⟩, ⟨by repeat (first | (with_reducible first | exact HB.out | apply below_alloc | apply pw_below_drewN | apply below_drew1) | exact HB.out)⟩⟩
              · rw [if_neg c6] at H
                exact absurd H (by simp)
            · rw [if_neg c5] at H
              have c5b0 : decide ((Int.tmod x4_1 10) < 0) = false := decide_eq_false c5
              clear c5
              obtain ⟨y164, hy164⟩ : ∃ y_ : List Int, y_ = (([(wrap64 (48 + (Int.tmod x4_1 10))) % 256] : List Int)) := ⟨_, rfl⟩
              replace H : (if (strOfNums y164).size + x3_1.size ≤ 9223372036854775807 then (cadencyref05_Digits.l0 kj1 a0 ((strOfNums y164) ++ x3_1) (wrap64 (Int.tdiv x4_1 10))) else (none)) = some r := by first | (rw [hy164]; with_reducible exact H) | (have H2_ := (Option.bind_some _ _).symm.trans H; rw [hy164]; with_reducible exact H2_) | (have H2_ := (Option.bind_some _ _).symm.trans H; with_reducible exact H2_) | with_reducible exact H | (rw [hy164]; exact H) | exact H
              have Ny164 := Aside0.mk hy164
              clear hy164
              by_cases c10 : (strOfNums y164).size + x3_1.size ≤ 9223372036854775807
              · rw [if_pos c10] at H
                have c10b0 := eq_true c10
                have c10b1 : decide ((strOfNums y164).size + x3_1.size ≤ 9223372036854775807) = true := decide_eq_true c10
                try have c10b2 : (9223372036854775807 < (strOfNums y164).size + x3_1.size) = False := eq_false (Nat.not_lt.2 c10)
                have H' := Aside0.mk H
                clear H
                go_wp2_with (first | ((with_reducible refine gate_dst (N := 22) rfl ?_); refine Kd.R_lit (Kd.int .u8) _ 5 ?hg (N := 22) ?hd (xs := ([(wrap64 (48 + (Int.tmod x4_1 10))) % 256] : List Int)) (inner := [.int .u8 ((wrap64 (48 + (Int.tmod x4_1 10))) % 256)]) (ok := fun _ => True) (okp := fun _ => True) ?hr ?hp (fun _ hk => hk) trivial (Below.refl _ _) (Nat.le_refl _) (by simp) ?_; (case hd => rfl); (case hg => rfl); (case hr => first | (go_simp; done) | (go_simp; rfl)); (case hp => exact (Reps.one (show Kd.M (Kd.int .u8) _ _ _ ((wrap64 (48 + (Int.tmod x4_1 10))) % 256) [.int .u8 ((wrap64 (48 + (Int.tmod x4_1 10))) % 256)] from rfl) (Reps.none _ _))); intro v165 w11 ho12 hb hg_ hnew_; clear hg_ hnew_; (first | rw [← Ny164.out] at ho12 | (simp only [Int.reduceToNat] at ho12; rw [← Ny164.out] at ho12)); have n0_ := Aside0.mk (Kd.R_lower ho12 (below_size (by repeat (first | (with_reducible first | exact HB.out | apply below_alloc | apply pw_below_drewN | apply below_drew1) | exact HB.out)))); have n1_ := Aside0.mk (below_step (by repeat (first | (with_reducible first | exact HB.out | apply below_alloc | apply pw_below_drewN | apply below_drew1) | exact HB.out)) hb); clear HB; have HO166 := n0_; have HB := n1_; clear n0_ n1_; clear hb ho12; have hcv13 := own_string (P := Tryd.prog) Tryd.underlying45 Tryd.underlying5 Tryd.underlying9 (Kd.own_of_R HO166.out)))
                go_roundg kj1
                case measure => have := HK1.out; have := HJ1.out; omega
                case rel => exact ⟨((strOfNums y164) ++ x3_1), (wrap64 (Int.tdiv x4_1 10)), (by first | rfl | (simp; done) | (simp [*]; done)), (by first | rfl | (simp; done) | (simp [*]; done)), H', ⟨by have := HK1.out; have := HJ1.out; omega⟩, ⟨by repeat (first | (with_reducible first | exact HB.out | apply below_alloc | apply pw_below_drewN | apply below_drew1) | exact HB.out)⟩⟩
              · rw [if_neg c10] at H
                exact absurd H (by simp)
          · replace c4 := Bool.eq_false_iff.mpr c4
            subst c4
            have H1 : (if a0 < 0 then (if 1 + x3_1.size ≤ 9223372036854775807 then (some ((⟨#[45]⟩ : ByteArray) ++ x3_1)) else (none)) else (some x3_1)) = some r := by rw [if_neg (show ¬ (false = true) by decide)] at H; exact H
            clear H
            have H := H1
            clear H1
            by_cases c14 : a0 < 0
            · rw [if_pos c14] at H
              have c14b0 : decide (a0 < 0) = true := decide_eq_true c14
              clear c14
              by_cases c15 : 1 + x3_1.size ≤ 9223372036854775807
              · rw [if_pos c15] at H
                have c15b0 := eq_true c15
                have c15b1 : decide (1 + x3_1.size ≤ 9223372036854775807) = true := decide_eq_true c15
                try have c15b2 : (9223372036854775807 < 1 + x3_1.size) = False := eq_false (Nat.not_lt.2 c15)
                obtain rfl := Option.some.inj H
                go_wp2
                go_ret
                exact ⟨by first | rfl | (simp [errW_none, errW_some] <;> rfl) | (simp [*, errW_none, errW_some] <;> rfl), by repeat (first | (with_reducible first | exact HB.out | apply below_alloc | apply pw_below_drewN | apply below_drew1) | exact HB.out)⟩
              · rw [if_neg c15] at H
                exact absurd H (by simp)
            · rw [if_neg c14] at H
              have c14b0 : decide (a0 < 0) = false := decide_eq_false c14
              clear c14
              obtain rfl := Option.some.inj H
              go_wp2
              go_ret
              exact ⟨by first | rfl | (simp [errW_none, errW_some] <;> rfl) | (simp [*, errW_none, errW_some] <;> rfl), by repeat (first | (with_reducible first | exact HB.out | apply below_alloc | apply pw_below_drewN | apply below_drew1) | exact HB.out)⟩

end Go.Proofs.YtefdcjmfbjlinaaDoor.A
