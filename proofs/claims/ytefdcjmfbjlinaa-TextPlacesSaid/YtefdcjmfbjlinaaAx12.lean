-- written by a program (wip/dev/print2.sh): functions of the program as plain Lean, with their contracts
import Derived.Test.YtefdcjmfbjlinaaAx0
import Derived.Test.YtefdcjmfbjlinaaAx6
import Derived.Test.YtefdcjmfbjlinaaGivT
namespace Go.Proofs.Ytefdcjmfbjlinaa.A
open Go.RowKit Go.Proofs.YtefdcjmfbjlinaaW.PrintWords Go.Proofs.YtefdcjmfbjlinaaW.PrintLast Go.Proofs.YtefdcjmfbjlinaaW.PrintMore
set_option linter.unusedVariables false
set_option linter.unusedSimpArgs false

/-! ### cadencylaw05_places: function 15 -/
mutual
def cadencylaw05_places.j0 : Nat → ByteArray → Int → Bool → Option (Bool)
  | 0, _, _, _ => none
  | k + 1, x0, x4, x41 => if x41 = true then (some false) else ((cadencyref03_Each.f k x0).bind fun bt305 => (if x4 = (x0.size : Int) then (cadencylaw05_places.j1 k x0 x4 true bt305.1 bt305.2) else (cadencylaw05_places.j1 k x0 x4 (x4 == bt305.2) bt305.1 bt305.2)))
def cadencylaw05_places.j1 : Nat → ByteArray → Int → Bool → List (S56) → Int → Option (Bool)
  | 0, _, _, _, _, _ => none
  | k + 1, x0, x4, x7, x310000, x310001 => cadencylaw05_places.l0 k x0 x4 x7 0 0 x310000 x310001
def cadencylaw05_places.l0 : Nat → ByteArray → Int → Bool → Int → Int → List (S56) → Int → Option (Bool)
  | 0, _, _, _, _, _, _, _ => none
  | k + 1, x0, x4, x7, x8, x9, x310000, x310001 => if x9 < (x310000.length : Int) then (if 0 ≤ x9 then (if ((rd_T56 x310000 x9).f1) = x4 then (cadencylaw05_places.j3 k x0 x4 true x8 x9 x310000 x310001) else (cadencylaw05_places.j3 k x0 x4 x7 x8 x9 x310000 x310001)) else (none)) else (if x310001 < (x0.size : Int) then (if x7 = true then (some (x4 == x310001)) else (some false)) else (if 0 ≤ x8 then (if x8 ≤ (x0.size : Int) then ((text_Read.f (x0.extract 0 (x8 : Int).toNat)).bind fun bt314 => (if x7 = true then (some (bt314.2.2 == 0)) else (some false))) else (none)) else (none)))
def cadencylaw05_places.j3 : Nat → ByteArray → Int → Bool → Int → Int → List (S56) → Int → Option (Bool)
  | 0, _, _, _, _, _, _, _ => none
  | k + 1, x0, x4, x7, x8, x9, x310000, x310001 => if 0 ≤ x9 then (if x9 < (x310000.length : Int) then (if ((rd_T56 x310000 x9).f1) < x4 then (if ((rd_T56 x310000 x9).f0) = 4 then (cadencylaw05_places.l0 k x0 x4 x7 (wrap64 (((rd_T56 x310000 x9).f1) + 1)) (wrap64 (x9 + 1)) x310000 x310001) else (cadencylaw05_places.l0 k x0 x4 x7 x8 (wrap64 (x9 + 1)) x310000 x310001)) else (cadencylaw05_places.l0 k x0 x4 x7 x8 (wrap64 (x9 + 1)) x310000 x310001)) else (none)) else (none)
end
def cadencylaw05_places.f (k : Nat) (a0 : ByteArray) : Option (Bool) := (text_Read.f a0).bind fun bt300 => (if bt300.2.2 = 0 then (some (bt300.2.1 == (a0.size : Int))) else (if (bt300.1.length : Int) = 0 then (if bt300.2.2 = 10 then (if bt300.2.1 < 0 then (cadencylaw05_places.j0 k a0 bt300.2.1 true) else (cadencylaw05_places.j0 k a0 bt300.2.1 (decide (bt300.2.1 > (a0.size : Int))))) else (cadencylaw05_places.j0 k a0 bt300.2.1 true)) else (cadencylaw05_places.j0 k a0 bt300.2.1 true)))
set_option maxHeartbeats 8000000 in
set_option maxRecDepth 100000 in
theorem cadencylaw05_places.calls (k : Nat) (a0 : ByteArray) (r : Bool) (w : World) (h : cadencylaw05_places.f k a0 = some r) :
    Calls Try.prog 15 #[.string a0] w fun e w' => e = .returned (.bool r) ∧ Below w.heap.size w w' := by
  have hu63 := Try.underlying63
  have HB := Aside0.mk (Below.refl w.heap.size w)
  have H : ((text_Read.f a0).bind fun bt300 => (if bt300.2.2 = 0 then (some (bt300.2.1 == (a0.size : Int))) else (if (bt300.1.length : Int) = 0 then (if bt300.2.2 = 10 then (if bt300.2.1 < 0 then (cadencylaw05_places.j0 k a0 bt300.2.1 true) else (cadencylaw05_places.j0 k a0 bt300.2.1 (decide (bt300.2.1 > (a0.size : Int))))) else (cadencylaw05_places.j0 k a0 bt300.2.1 true)) else (cadencylaw05_places.j0 k a0 bt300.2.1 true)))) = some r := h
  clear h
  replace H := Option.bind_eq_some_iff.mp H
  obtain ⟨⟨t300, t301, t302⟩, A20, H⟩ := H
  replace H : (if t302 = 0 then (some (t301 == (a0.size : Int))) else (if (t300.length : Int) = 0 then (if t302 = 10 then (if t301 < 0 then (cadencylaw05_places.j0 k a0 t301 true) else (cadencylaw05_places.j0 k a0 t301 (decide (t301 > (a0.size : Int))))) else (cadencylaw05_places.j0 k a0 t301 true)) else (cadencylaw05_places.j0 k a0 t301 true))) = some r := H
  have A2 := Aside0.mk A20
  clear A20
  by_cases c3 : t302 = 0
  · rw [if_pos c3] at H
    have c3b0 : (t302 == 0) = true := beq_iff_eq.mpr c3
    have c3b1 : (t302 != 0) = false := bne_eq_false_iff_eq.mpr c3
    clear c3
    obtain rfl := Option.some.inj H
    go_enter Try.func15, Try.ntmps15
    go_wp2_with (first | ((with_reducible refine gate_callee (f := 14) rfl ?_); refine goesL_ (some 15) rfl rfl Try.func14 (by kernel_rfl) rfl #[.string a0] rfl (by (try simp only [List.map_toArray, List.map_cons, List.map_nil]); first | done | rfl | (simp only [List.length_drop, List.length_take]; rfl)) ?_; (with_reducible refine (text_Read.calls a0 t300 t301 t302 _ A2.out).mono ?_); rintro e w4 ⟨v303, rfl, ho0, hb⟩; refine ⟨_, rfl, ?_⟩; have n0_ := Aside0.mk (Kd.R_lower ho0 (below_size (by repeat (first | (with_reducible first | exact HB.out | apply below_alloc | apply pw_below_drewN | apply below_drew1) | exact HB.out)))); have n1_ := Aside0.mk (below_step (by repeat (first | (with_reducible first | exact HB.out | apply below_alloc | apply pw_below_drewN | apply below_drew1) | exact HB.out)) hb); clear HB; have HO304 := n0_; have HB := n1_; clear n0_ n1_; (try clear hb); (try clear hb2); (try clear hk); (try clear hi); (try clear ho0)))
    go_ret
    exact ⟨by first | rfl | (simp [errW_none, errW_some] <;> rfl) | (simp [*, errW_none, errW_some] <;> rfl), by repeat (first | (with_reducible first | exact HB.out | apply below_alloc | apply pw_below_drewN | apply below_drew1) | exact HB.out)⟩
  · rw [if_neg c3] at H
    have c3b0 : (t302 == 0) = false := beq_eq_false_iff_ne.mpr c3
    have c3b1 : (t302 != 0) = true := bne_iff_ne.mpr c3
    have HC5 := Aside0.mk H
    clear H
    go_enter Try.func15, Try.ntmps15
    go_upto_region 4 with (first | ((with_reducible refine gate_callee (f := 14) rfl ?_); refine goesL_ (some 15) rfl rfl Try.func14 (by kernel_rfl) rfl #[.string a0] rfl (by (try simp only [List.map_toArray, List.map_cons, List.map_nil]); first | done | rfl | (simp only [List.length_drop, List.length_take]; rfl)) ?_; (with_reducible refine (text_Read.calls a0 t300 t301 t302 _ A2.out).mono ?_); rintro e w6 ⟨v303, rfl, ho0, hb⟩; refine ⟨_, rfl, ?_⟩; have n0_ := Aside0.mk (Kd.R_lower ho0 (below_size (by repeat (first | (with_reducible first | exact HB.out | apply below_alloc | apply pw_below_drewN | apply below_drew1) | exact HB.out)))); have n1_ := Aside0.mk (below_step (by repeat (first | (with_reducible first | exact HB.out | apply below_alloc | apply pw_below_drewN | apply below_drew1) | exact HB.out)) hb); clear HB; have HO304 := n0_; have HB := n1_; clear n0_ n1_; (try clear hb); (try clear hb2); (try clear hk); (try clear hi); (try clear ho0)))
    (try simp only [Act.put, List.setIfInBounds_toArray, List.set_cons_zero, List.set_cons_succ])
    go_cut [41] (fun v41 wc => ∃ (kq : Nat) (x41_4 : Bool), v41 = .bool x41_4 ∧ Aside0 (cadencylaw05_places.j0 kq a0 t301 x41_4 = some r) ∧ Aside0 (kq ≤ k) ∧ Aside0 (Below w.heap.size w wc))
    case first =>
      have H := HC5.out
      clear HC5
      by_cases c7 : (t300.length : Int) = 0
      · rw [if_pos c7] at H
        have c7b0 : ((t300.length : Int) == 0) = true := beq_iff_eq.mpr c7
        have c7b1 : ((t300.length : Int) != 0) = false := bne_eq_false_iff_eq.mpr c7
        clear c7
        (first | rw [c7b0] | (simp only [i64_w, i32_w]; rw [c7b0]) | skip)
        by_cases c8 : t302 = 10
        · rw [if_pos c8] at H
          have c8b0 : (t302 == 10) = true := beq_iff_eq.mpr c8
          have c8b1 : (t302 != 10) = false := bne_eq_false_iff_eq.mpr c8
          clear c8
          by_cases c9 : t301 < 0
          · rw [if_pos c9] at H
            have c9b0 : decide (t301 < 0) = true := decide_eq_true c9
            clear c9
            have H' := Aside0.mk H
            clear H
            obtain ⟨Ao10, co10, eo10⟩ := Kd.R_slice HO304.out
            subst eo10
            go_wp2
            go_meet
            case rel => exact ⟨_, (true), (by first | rfl | (simp; done) | (simp [*]; done)), H', ⟨by first | omega | exact Nat.le_refl _⟩, ⟨by repeat (first | (with_reducible first | exact HB.out | apply below_alloc | apply pw_below_drewN | apply below_drew1) | exact HB.out)⟩⟩
          · rw [if_neg c9] at H
            have c9b0 : decide (t301 < 0) = false := decide_eq_false c9
            clear c9
            have H' := Aside0.mk H
            clear H
            obtain ⟨Ao11, co11, eo11⟩ := Kd.R_slice HO304.out
            subst eo11
            go_wp2
            go_meet
            case rel => exact ⟨_, (decide (t301 > (a0.size : Int))), (by first | rfl | (simp; done) | (simp [*]; done)), H', ⟨by first | omega | exact Nat.le_refl _⟩, ⟨by repeat (first | (with_reducible first | exact HB.out | apply below_alloc | apply pw_below_drewN | apply below_drew1) | exact HB.out)⟩⟩
        · rw [if_neg c8] at H
          have c8b0 : (t302 == 10) = false := beq_eq_false_iff_ne.mpr c8
          have c8b1 : (t302 != 10) = true := bne_iff_ne.mpr c8
          have H' := Aside0.mk H
          clear H
          obtain ⟨Ao12, co12, eo12⟩ := Kd.R_slice HO304.out
          subst eo12
          go_wp2
          go_meet
          case rel => exact ⟨_, (true), (by first | rfl | (simp; done) | (simp [*]; done)), H', ⟨by first | omega | exact Nat.le_refl _⟩, ⟨by repeat (first | (with_reducible first | exact HB.out | apply below_alloc | apply pw_below_drewN | apply below_drew1) | exact HB.out)⟩⟩
      · rw [if_neg c7] at H
        have c7b0 : ((t300.length : Int) == 0) = false := beq_eq_false_iff_ne.mpr c7
        have c7b1 : ((t300.length : Int) != 0) = true := bne_iff_ne.mpr c7
        have c7b2 : ¬ (t300 = []) := fun h_ => c7 (by rw [h_]; rfl)
        (first | rw [c7b0] | (simp only [i64_w, i32_w]; rw [c7b0]) | skip)
        have H' := Aside0.mk H
        clear H
        obtain ⟨Ao13, co13, eo13⟩ := Kd.R_slice HO304.out
        subst eo13
        go_wp2
        go_meet
        case rel => exact ⟨_, (true), (by first | rfl | (simp; done) | (simp [*]; done)), H', ⟨by first | omega | exact Nat.le_refl _⟩, ⟨by repeat (first | (with_reducible first | exact HB.out | apply below_alloc | apply pw_below_drewN | apply below_drew1) | exact HB.out)⟩⟩
    case rest =>
      clear HC5
      try clear c1
      try clear p2
      try clear c3
      try clear c3b0
      try clear c3b1
      try clear c7
      try clear c7b0
      try clear c7b1
      try clear c7b2
      try clear c8
      try clear c8b0
      try clear c8b1
      try clear c9
      try clear c9b0
      obtain ⟨kq, x41_4, rfl, HA, HJ4, HB⟩ := hcut
      cases kq with
      | zero => exact absurd HA.out (by simp [cadencylaw05_places.j0])
      | succ kj4 =>
        have H := HA.out
        clear HA
        simp only [cadencylaw05_places.j0] at H
        by_cases c14 : x41_4 = true
        · subst c14
          have H1 : (some false) = some r := by rw [if_pos rfl] at H; exact H
          clear H
          have H := H1
          clear H1
          obtain rfl := Option.some.inj H
          go_wp2
          go_ret
          exact ⟨by first | rfl | (simp [errW_none, errW_some] <;> rfl) | (simp [*, errW_none, errW_some] <;> rfl), by repeat (first | (with_reducible first | exact HB.out | apply below_alloc | apply pw_below_drewN | apply below_drew1) | exact HB.out)⟩
        · replace c14 := Bool.eq_false_iff.mpr c14
          subst c14
          have H1 : ((cadencyref03_Each.f kj4 a0).bind fun bt305 => (if t301 = (a0.size : Int) then (cadencylaw05_places.j1 kj4 a0 t301 true bt305.1 bt305.2) else (cadencylaw05_places.j1 kj4 a0 t301 (t301 == bt305.2) bt305.1 bt305.2))) = some r := by rw [if_neg (show ¬ (false = true) by decide)] at H; exact H
          clear H
          have H := H1
          clear H1
          replace H := Option.bind_eq_some_iff.mp H
          obtain ⟨⟨t305, t308⟩, A150, H⟩ := H
          replace H : (if t301 = (a0.size : Int) then (cadencylaw05_places.j1 kj4 a0 t301 true t305 t308) else (cadencylaw05_places.j1 kj4 a0 t301 (t301 == t308) t305 t308)) = some r := H
          have A15 := Aside0.mk A150
          clear A150
          have HC16 := Aside0.mk H
          clear H
          go_upto_region 7 with (first | ((with_reducible refine gate_callee (f := 27) rfl ?_); refine goesL_ (some 43) rfl rfl Try.func27 (by kernel_rfl) rfl #[.string a0] rfl (by (try simp only [List.map_toArray, List.map_cons, List.map_nil]); first | done | rfl | (simp only [List.length_drop, List.length_take]; rfl)) ?_; (with_reducible refine (cadencyref03_Each.calls kj4 a0 t305 t308 _ A15.out).mono ?_); rintro e w17 ⟨v306, rfl, ho0, hb⟩; refine ⟨_, rfl, ?_⟩; have n0_ := Aside0.mk (Kd.R_lower ho0 (below_size (by repeat (first | (with_reducible first | exact HB.out | apply below_alloc | apply pw_below_drewN | apply below_drew1) | exact HB.out)))); have n1_ := Aside0.mk (below_step (by repeat (first | (with_reducible first | exact HB.out | apply below_alloc | apply pw_below_drewN | apply below_drew1) | exact HB.out)) hb); clear HB; have HO307 := n0_; have HB := n1_; clear n0_ n1_; (try clear hb); (try clear hb2); (try clear hk); (try clear hi); (try clear ho0)) | ((with_reducible refine gate_dst (N := 6) rfl ?_); (try (refine gate_guard (by rfl) ?_; dsimp only)); refine box_event ?hg (N := 6) ?hd (cs := #[.slice none 0 0, .int .i64 0]) (t := 63) ?hr ?_; (case hd => rfl); (case hg => rfl); (case hr => first | (go_simp; done) | (go_simp; rfl)); intro gb309 hg w18 hbox hb; have n0_ := Aside0.mk (Kd.R_below (by (with_reducible repeat (first | apply Kd.R_alloc | apply Kd.R_drewN | apply Kd.R_drew)); exact HO307.out) hb); have n1_ := Aside0.mk (below_step (by repeat (first | (with_reducible first | exact HB.out | apply below_alloc | apply pw_below_drewN | apply below_drew1) | exact HB.out)) hb); have n2_ := Aside0.mk (hbox); have n3_ := Aside0.mk ((by rw [hg]; exact (below_size (by repeat (first | (with_reducible first | exact HB.out | apply below_alloc | apply pw_below_drewN | apply below_drew1) | exact HB.out))) : w.heap.size ≤ gb309)); have n4_ := Aside0.mk ((by rw [hg]; exact (below_size (by repeat (first | (with_reducible first | exact HB.out | apply below_alloc | apply pw_below_drewN | apply below_drew1) | exact HB.out))) : w.heap.size ≤ gb309)); clear HO307; clear HB; have HO307 := n0_; have HB := n1_; have BK309 := n2_; have GW309 := n3_; have GE309 := n4_; clear n0_ n1_ n2_ n3_ n4_; clear hb hbox hg; obtain ⟨Ao19, co19, eo19⟩ := Kd.R_slice HO307.out; subst eo19; have hcz20_0 : w18.cell? ⟨gb309, 0, none⟩ = some (.slice none 0 0) := (blk_cell BK309.out 0).trans rfl; have hcz20_1 : w18.cell? ⟨gb309, 1, none⟩ = some (.int .i64 0) := (blk_cell BK309.out 1).trans rfl; have hfz20_0 := blk_frozen BK309.out 0; have hfz20_1 := blk_frozen BK309.out 1))
          (try simp only [Act.put, List.setIfInBounds_toArray, List.set_cons_zero, List.set_cons_succ])
          go_cut [7] (fun v7 wc => ∃ (kq : Nat) (x7_15 : Bool), v7 = .bool x7_15 ∧ Aside0 (cadencylaw05_places.j1 kq a0 t301 x7_15 t305 t308 = some r) ∧ Aside0 (kq ≤ kj4) ∧ Aside0 (Kd.R k56 56 wc w.heap.size (fun _ => True) (.slice Ao19 t305.length co19) t305) ∧ Aside0 (wc.heap[gb309]? = some (.cells #[(.slice Ao19 t305.length co19), .int .i64 t308] 63 (0, 0))) ∧ Aside0 (Below w.heap.size w wc))
          case first =>
            have H := HC16.out
            clear HC16
            by_cases c21 : t301 = (a0.size : Int)
            · rw [if_pos c21] at H
              have c21b0 : (t301 == (a0.size : Int)) = true := beq_iff_eq.mpr c21
              have c21b1 : (t301 != (a0.size : Int)) = false := bne_eq_false_iff_eq.mpr c21
              clear c21
              (first | rw [c21b0] | (simp only [i64_w, i32_w]; rw [c21b0]) | skip)
              have H' := Aside0.mk H
              clear H
              go_wp2
              go_meet
              case rel => exact ⟨_, (true), (by first | rfl | (simp; done) | (simp [*]; done)), H', ⟨by have := HJ4.out; first | omega | exact Nat.le_refl _⟩, ⟨by (with_reducible repeat (first | apply Kd.R_alloc | apply Kd.R_drewN | apply Kd.R_drew)); exact Kd.R_mono (Kd.R_far (p := ⟨gb309, 1, none⟩) (Kd.R_far (p := ⟨gb309, 0, none⟩) (Kd.R_types HO307.out BK309.out (by decide)) (fun _ hk => hk.2) (.slice Ao19 t305.length co19)) (fun _ hk => hk.2) (.int .i64 t308)) (fun _ hk => trivial)⟩, ⟨by (with_reducible repeat (first | refine blk_drewN ?_ _ | refine blk_drew ?_ | refine blk_alloc ?_ _)); refine blk_put (cs := #[.slice Ao19 t305.length co19, .int .i64 0]) ?_ 1 _ rfl; (with_reducible repeat (first | refine blk_drewN ?_ _ | refine blk_drew ?_ | refine blk_alloc ?_ _)); refine blk_put (cs := #[.slice none 0 0, .int .i64 0]) ?_ 0 _ rfl; (with_reducible repeat (first | refine blk_drewN ?_ _ | refine blk_drew ?_ | refine blk_alloc ?_ _)); exact BK309.out⟩, ⟨by repeat (first | (with_reducible first | exact HB.out | apply below_alloc | apply pw_below_drewN | apply below_drew1 | refine below_set ?_ GE309.out) | exact HB.out)⟩⟩
            · rw [if_neg c21] at H
              have c21b0 : (t301 == (a0.size : Int)) = false := beq_eq_false_iff_ne.mpr c21
              have c21b1 : (t301 != (a0.size : Int)) = true := bne_iff_ne.mpr c21
              (first | rw [c21b0] | (simp only [i64_w, i32_w]; rw [c21b0]) | skip)
              have H' := Aside0.mk H
              clear H
              have hcz22_0 : w18.cell? ⟨gb309, 0, none⟩ = some (.slice none 0 0) := (blk_cell BK309.out 0).trans rfl
              have hcz22_1 : w18.cell? ⟨gb309, 1, none⟩ = some (.int .i64 0) := (blk_cell BK309.out 1).trans rfl
              have hfz22_0 := blk_frozen BK309.out 0
              have hfz22_1 := blk_frozen BK309.out 1
              go_wp2
              go_meet
              case rel => exact ⟨_, ((t301 == t308)), (by first | rfl | (simp; done) | (simp [*]; done)), H', ⟨by have := HJ4.out; first | omega | exact Nat.le_refl _⟩, ⟨by (with_reducible repeat (first | apply Kd.R_alloc | apply Kd.R_drewN | apply Kd.R_drew)); exact Kd.R_mono (Kd.R_far (p := ⟨gb309, 1, none⟩) (Kd.R_far (p := ⟨gb309, 0, none⟩) (Kd.R_types HO307.out BK309.out (by decide)) (fun _ hk => hk.2) (.slice Ao19 t305.length co19)) (fun _ hk => hk.2) (.int .i64 t308)) (fun _ hk => trivial)⟩, ⟨by (with_reducible repeat (first | refine blk_drewN ?_ _ | refine blk_drew ?_ | refine blk_alloc ?_ _)); refine blk_put (cs := #[.slice Ao19 t305.length co19, .int .i64 0]) ?_ 1 _ rfl; (with_reducible repeat (first | refine blk_drewN ?_ _ | refine blk_drew ?_ | refine blk_alloc ?_ _)); refine blk_put (cs := #[.slice none 0 0, .int .i64 0]) ?_ 0 _ rfl; (with_reducible repeat (first | refine blk_drewN ?_ _ | refine blk_drew ?_ | refine blk_alloc ?_ _)); exact BK309.out⟩, ⟨by repeat (first | (with_reducible first | exact HB.out | apply below_alloc | apply pw_below_drewN | apply below_drew1 | refine below_set ?_ GE309.out) | exact HB.out)⟩⟩
          case rest =>
            clear HC16
            try clear c1
            try clear c2
            try clear p2
            try clear c3
            try clear c3b0
            try clear c3b1
            try clear c7
            try clear c7b0
            try clear c7b1
            try clear c7b2
            try clear c8
            try clear c8b0
            try clear c8b1
            try clear c9
            try clear c9b0
            try clear c14
            try clear c15
            try clear c21
            try clear c21b0
            try clear c21b1
            try clear hcz20_0
            try clear hcz20_1
            try clear hcz22_0
            try clear hcz22_1
            try clear hfz20_0
            try clear hfz20_1
            try clear hfz22_0
            try clear hfz22_1
            try clear p2
            obtain ⟨kq, x7_15, rfl, HA, HJ15, HO_310000, BK309, HB⟩ := hcut
            cases kq with
            | zero => exact absurd HA.out (by simp [cadencylaw05_places.j1])
            | succ kj15 =>
              have H := HA.out
              clear HA
              simp only [cadencylaw05_places.j1] at H
              have H' := Aside0.mk H
              clear H
              go_wp2
              go_loopg [7, 8, 9] kj15 (fun kq v7 v8 v9 w' => ∃ (x7_3 : Bool) (x8_3 : Int) (x9_3 : Int), v7 = .bool x7_3 ∧ v8 = .int .i64 x8_3 ∧ v9 = .int .i64 x9_3 ∧ Aside0 (cadencylaw05_places.l0 kq a0 t301 x7_3 x8_3 x9_3 t305 t308 = some r) ∧ Aside0 (kq ≤ kj15) ∧ Aside0 (Kd.R k56 56 w' w.heap.size (fun _ => True) (.slice Ao19 t305.length co19) t305) ∧ Aside0 (w'.heap[gb309]? = some (.cells #[(.slice Ao19 t305.length co19), .int .i64 t308] 63 (0, 0))) ∧ Aside0 (Below w.heap.size w w'))
              case atStart => exact ⟨(x7_15), (0), (0), (by first | rfl | (simp; done) | (simp [*]; done)), (by first | rfl | (simp; done) | (simp [*]; done)), (by first | rfl | (simp; done) | (simp [*]; done)), H', ⟨Nat.le_refl _⟩, ⟨by (with_reducible repeat (first | apply Kd.R_alloc | apply Kd.R_drewN | apply Kd.R_drew)); exact HO_310000.out⟩, ⟨by (with_reducible repeat (first | refine blk_drewN ?_ _ | refine blk_drew ?_ | refine blk_alloc ?_ _)); exact BK309.out⟩, ⟨by repeat (first | (with_reducible first | exact HB.out | apply below_alloc | apply pw_below_drewN | apply below_drew1 | refine below_set ?_ GE309.out) | exact HB.out)⟩⟩
              case round =>
                clear H'
                try clear c1
                try clear c2
                try clear p2
                try clear c3
                try clear c3b0
                try clear c3b1
                try clear c7
                try clear c7b0
                try clear c7b1
                try clear c7b2
                try clear c8
                try clear c8b0
                try clear c8b1
                try clear c9
                try clear c9b0
                try clear c14
                try clear c15
                try clear c21
                try clear c21b0
                try clear c21b1
                try clear hcz20_0
                try clear hcz20_1
                try clear hcz22_0
                try clear hcz22_1
                try clear hfz20_0
                try clear hfz20_1
                try clear hfz22_0
                try clear hfz22_1
                try clear p2
                obtain ⟨x7_3, x8_3, x9_3, rfl, rfl, rfl, HA, HK3, HO_310000, BK309, HB⟩ := hrel
                cases gk with
                | zero => exact absurd HA.out (by simp [cadencylaw05_places.l0])
                | succ k3 =>
                  have H := HA.out
                  clear HA
                  simp only [cadencylaw05_places.l0] at H
                  by_cases c23 : x9_3 < (t305.length : Int)
                  · rw [if_pos c23] at H
                    have c23b0 : decide (x9_3 < (t305.length : Int)) = true := decide_eq_true c23
                    clear c23
                    by_cases c24 : 0 ≤ x9_3
                    · rw [if_pos c24] at H
                      have c24b0 : decide (0 ≤ x9_3) = true := decide_eq_true c24
                      clear c24
                      have HC25 := Aside0.mk H
                      clear H
                      have hcz26_0 : wr.cell? ⟨gb309, 0, none⟩ = some (.slice Ao19 t305.length co19) := (blk_cell BK309.out 0).trans rfl
                      have hcz26_1 : wr.cell? ⟨gb309, 1, none⟩ = some (.int .i64 t308) := (blk_cell BK309.out 1).trans rfl
                      have hfz26_0 := blk_frozen BK309.out 0
                      have hfz26_1 := blk_frozen BK309.out 1
                      have p310 : 0 ≤ (x9_3 : Int) := of_decide_eq_true (by first | (with_reducible assumption) | assumption)
                      have q310 : x9_3 < (t305.length : Int) := of_decide_eq_true (by first | (with_reducible assumption) | assumption)
                      obtain ⟨ad310, e310, hx310_0, hx310_1, hx310_2, hx310_3⟩ := at_T56 (Kd.R_reads' HO_310000.out).2.2 x9_3 p310 q310
                      cases e310
                      replace p310 := eq_true p310
                      replace q310 := eq_true q310
                      go_upto_if 68 with (fail)
                      go_cut [7] (fun v7 wc => ∃ (kq : Nat) (x7_24 : Bool), v7 = .bool x7_24 ∧ Aside0 (cadencylaw05_places.j3 kq a0 t301 x7_24 x8_3 x9_3 t305 t308 = some r) ∧ Aside0 (kq ≤ k3) ∧ Aside0 (Kd.R k56 56 wc w.heap.size (fun _ => True) (.slice (some ad310) t305.length co19) t305) ∧ Aside0 (wc.heap[gb309]? = some (.cells #[(.slice (some ad310) t305.length co19), .int .i64 t308] 63 (0, 0))) ∧ Aside0 (Below w.heap.size w wc))
                      case first =>
                        have H := HC25.out
                        clear HC25
                        by_cases c27 : ((rd_T56 t305 x9_3).f1) = t301
                        · rw [if_pos c27] at H
                          have c27b0 : (((rd_T56 t305 x9_3).f1) == t301) = true := beq_iff_eq.mpr c27
                          have c27b1 : (((rd_T56 t305 x9_3).f1) != t301) = false := bne_eq_false_iff_eq.mpr c27
                          clear c27
                          (first | rw [c27b0] | (simp only [i64_w, i32_w]; rw [c27b0]) | skip)
                          have H' := Aside0.mk H
                          clear H
                          go_wp2
                          go_meet
                          case rel => exact ⟨_, (true), (by first | rfl | (simp; done) | (simp [*]; done)), H', ⟨by have := HJ4.out; have := HJ15.out; have := HK3.out; first | omega | exact Nat.le_refl _⟩, ⟨by (with_reducible repeat (first | apply Kd.R_alloc | apply Kd.R_drewN | apply Kd.R_drew)); exact HO_310000.out⟩, ⟨by (with_reducible repeat (first | refine blk_drewN ?_ _ | refine blk_drew ?_ | refine blk_alloc ?_ _)); exact BK309.out⟩, ⟨by repeat (first | (with_reducible first | exact HB.out | apply below_alloc | apply pw_below_drewN | apply below_drew1 | refine below_set ?_ GE309.out) | exact HB.out)⟩⟩
                        · rw [if_neg c27] at H
                          have c27b0 : (((rd_T56 t305 x9_3).f1) == t301) = false := beq_eq_false_iff_ne.mpr c27
                          have c27b1 : (((rd_T56 t305 x9_3).f1) != t301) = true := bne_iff_ne.mpr c27
                          (first | rw [c27b0] | (simp only [i64_w, i32_w]; rw [c27b0]) | skip)
                          have H' := Aside0.mk H
                          clear H
                          go_wp2
                          go_meet
                          case rel => exact ⟨_, (x7_3), (by first | rfl | (simp; done) | (simp [*]; done)), H', ⟨by have := HJ4.out; have := HJ15.out; have := HK3.out; first | omega | exact Nat.le_refl _⟩, ⟨by (with_reducible repeat (first | apply Kd.R_alloc | apply Kd.R_drewN | apply Kd.R_drew)); exact HO_310000.out⟩, ⟨by (with_reducible repeat (first | refine blk_drewN ?_ _ | refine blk_drew ?_ | refine blk_alloc ?_ _)); exact BK309.out⟩, ⟨by repeat (first | (with_reducible first | exact HB.out | apply below_alloc | apply pw_below_drewN | apply below_drew1 | refine below_set ?_ GE309.out) | exact HB.out)⟩⟩
                      case rest =>
                        clear HC25
                        try clear c1
                        try clear c2
                        try clear p2
                        try clear c3
                        try clear c3b0
                        try clear c3b1
                        try clear p3
                        try clear q3
                        try clear hx3
                        try clear c7
                        try clear c7b0
                        try clear c7b1
                        try clear c7b2
                        try clear c8
                        try clear c8b0
                        try clear c8b1
                        try clear c9
                        try clear c9b0
                        try clear c14
                        try clear c15
                        try clear c21
                        try clear c21b0
                        try clear c21b1
                        try clear c23
                        try clear c23b0
                        try clear c24
                        try clear c24b0
                        try clear c27
                        try clear c27b0
                        try clear c27b1
                        try clear hcz20_0
                        try clear hcz20_1
                        try clear hcz22_0
                        try clear hcz22_1
                        try clear hcz26_0
                        try clear hcz26_1
                        try clear hfz20_0
                        try clear hfz20_1
                        try clear hfz22_0
                        try clear hfz22_1
                        try clear hfz26_0
                        try clear hfz26_1
                        try clear hx310_0
                        try clear hx310_1
                        try clear hx310_2
                        try clear hx310_3
                        try clear p2
                        try clear p310
                        try clear q310
                        obtain ⟨kq, x7_24, rfl, HA, HJ24, HO_310000, BK309, HB⟩ := hcut
                        cases kq with
                        | zero => exact absurd HA.out (by simp [cadencylaw05_places.j3])
                        | succ kj24 =>
                          have H := HA.out
                          clear HA
                          simp only [cadencylaw05_places.j3] at H
                          by_cases c28 : 0 ≤ x9_3
                          · rw [if_pos c28] at H
                            have c28b0 : decide (0 ≤ x9_3) = true := decide_eq_true c28
                            clear c28
                            by_cases c29 : x9_3 < (t305.length : Int)
                            · rw [if_pos c29] at H
                              have c29b0 : decide (x9_3 < (t305.length : Int)) = true := decide_eq_true c29
                              clear c29
                              by_cases c30 : ((rd_T56 t305 x9_3).f1) < t301
                              · rw [if_pos c30] at H
                                have c30b0 : decide (((rd_T56 t305 x9_3).f1) < t301) = true := decide_eq_true c30
                                clear c30
                                by_cases c31 : ((rd_T56 t305 x9_3).f0) = 4
                                · rw [if_pos c31] at H
                                  have c31b0 : (((rd_T56 t305 x9_3).f0) == 4) = true := beq_iff_eq.mpr c31
                                  have c31b1 : (((rd_T56 t305 x9_3).f0) != 4) = false := bne_eq_false_iff_eq.mpr c31
                                  clear c31
                                  have H' := Aside0.mk H
                                  clear H
                                  have hcz32_0 : wc.cell? ⟨gb309, 0, none⟩ = some (.slice (some ad310) t305.length co19) := (blk_cell BK309.out 0).trans rfl
                                  have hcz32_1 : wc.cell? ⟨gb309, 1, none⟩ = some (.int .i64 t308) := (blk_cell BK309.out 1).trans rfl
                                  have hfz32_0 := blk_frozen BK309.out 0
                                  have hfz32_1 := blk_frozen BK309.out 1
                                  have p311 : 0 ≤ (x9_3 : Int) := of_decide_eq_true (by first | (with_reducible assumption) | assumption)
                                  have q311 : x9_3 < (t305.length : Int) := of_decide_eq_true (by first | (with_reducible assumption) | assumption)
                                  obtain ⟨ad311, e311, hx311_0, hx311_1, hx311_2, hx311_3⟩ := at_T56 (Kd.R_reads' HO_310000.out).2.2 x9_3 p311 q311
                                  obtain rfl : ad310 = ad311 := (by injection e311)
                                  replace p311 := eq_true p311
                                  replace q311 := eq_true q311
                                  have p312 : 0 ≤ (x9_3 : Int) := of_decide_eq_true (by first | (with_reducible assumption) | assumption)
                                  have q312 : x9_3 < (t305.length : Int) := of_decide_eq_true (by first | (with_reducible assumption) | assumption)
                                  obtain ⟨ad312, e312, hx312_0, hx312_1, hx312_2, hx312_3⟩ := at_T56 (Kd.R_reads' HO_310000.out).2.2 x9_3 p312 q312
                                  obtain rfl : ad310 = ad312 := (by injection e312)
                                  replace p312 := eq_true p312
                                  replace q312 := eq_true q312
                                  have p313 : 0 ≤ (x9_3 : Int) := of_decide_eq_true (by first | (with_reducible assumption) | assumption)
                                  have q313 : x9_3 < (t305.length : Int) := of_decide_eq_true (by first | (with_reducible assumption) | assumption)
                                  obtain ⟨ad313, e313, hx313_0, hx313_1, hx313_2, hx313_3⟩ := at_T56 (Kd.R_reads' HO_310000.out).2.2 x9_3 p313 q313
                                  obtain rfl : ad310 = ad313 := (by injection e313)
                                  replace p313 := eq_true p313
                                  replace q313 := eq_true q313
                                  go_wp2
                                  go_roundg kj24
                                  case measure => have := HJ4.out; have := HJ15.out; have := HK3.out; have := HJ24.out; omega
                                  case rel => exact ⟨(x7_24), (wrap64 (((rd_T56 t305 x9_3).f1) + 1)), (wrap64 (x9_3 + 1)), (by first | rfl | (simp; done) | (simp [*]; done)), (by first | rfl | (simp; done) | (simp [*]; done)), (by first | rfl | (simp; done) | (simp [*]; done)), H', ⟨by have := HJ4.out; have := HJ15.out; have := HK3.out; have := HJ24.out; omega⟩, ⟨by (with_reducible repeat (first | apply Kd.R_alloc | apply Kd.R_drewN | apply Kd.R_drew)); exact HO_310000.out⟩, ⟨by (with_reducible repeat (first | refine blk_drewN ?_ _ | refine blk_drew ?_ | refine blk_alloc ?_ _)); exact BK309.out⟩, ⟨by repeat (first | (with_reducible first | exact HB.out | apply below_alloc | apply pw_below_drewN | apply below_drew1 | refine below_set ?_ GE309.out) | exact HB.out)⟩⟩
                                · rw [if_neg c31] at H
                                  have c31b0 : (((rd_T56 t305 x9_3).f0) == 4) = false := beq_eq_false_iff_ne.mpr c31
                                  have c31b1 : (((rd_T56 t305 x9_3).f0) != 4) = true := bne_iff_ne.mpr c31
                                  have H' := Aside0.mk H
                                  clear H
                                  have hcz33_0 : wc.cell? ⟨gb309, 0, none⟩ = some (.slice (some ad310) t305.length co19) := (blk_cell BK309.out 0).trans rfl
                                  have hcz33_1 : wc.cell? ⟨gb309, 1, none⟩ = some (.int .i64 t308) := (blk_cell BK309.out 1).trans rfl
                                  have hfz33_0 := blk_frozen BK309.out 0
                                  have hfz33_1 := blk_frozen BK309.out 1
                                  have p311 : 0 ≤ (x9_3 : Int) := of_decide_eq_true (by first | (with_reducible assumption) | assumption)
                                  have q311 : x9_3 < (t305.length : Int) := of_decide_eq_true (by first | (with_reducible assumption) | assumption)
                                  obtain ⟨ad311, e311, hx311_0, hx311_1, hx311_2, hx311_3⟩ := at_T56 (Kd.R_reads' HO_310000.out).2.2 x9_3 p311 q311
                                  obtain rfl : ad310 = ad311 := (by injection e311)
                                  replace p311 := eq_true p311
                                  replace q311 := eq_true q311
                                  have p312 : 0 ≤ (x9_3 : Int) := of_decide_eq_true (by first | (with_reducible assumption) | assumption)
                                  have q312 : x9_3 < (t305.length : Int) := of_decide_eq_true (by first | (with_reducible assumption) | assumption)
                                  obtain ⟨ad312, e312, hx312_0, hx312_1, hx312_2, hx312_3⟩ := at_T56 (Kd.R_reads' HO_310000.out).2.2 x9_3 p312 q312
                                  obtain rfl : ad310 = ad312 := (by injection e312)
                                  replace p312 := eq_true p312
                                  replace q312 := eq_true q312
                                  go_wp2
                                  go_roundg kj24
                                  case measure => have := HJ4.out; have := HJ15.out; have := HK3.out; have := HJ24.out; omega
                                  case rel => exact ⟨(x7_24), (x8_3), (wrap64 (x9_3 + 1)), (by first | rfl | (simp; done) | (simp [*]; done)), (by first | rfl | (simp; done) | (simp [*]; done)), (by first | rfl | (simp; done) | (simp [*]; done)), H', ⟨by have := HJ4.out; have := HJ15.out; have := HK3.out; have := HJ24.out; omega⟩, ⟨by (with_reducible repeat (first | apply Kd.R_alloc | apply Kd.R_drewN | apply Kd.R_drew)); exact HO_310000.out⟩, ⟨by (with_reducible repeat (first | refine blk_drewN ?_ _ | refine blk_drew ?_ | refine blk_alloc ?_ _)); exact BK309.out⟩, ⟨by repeat (first | (with_reducible first | exact HB.out | apply below_alloc | apply pw_below_drewN | apply below_drew1 | refine below_set ?_ GE309.out) | exact HB.out)⟩⟩
                              · rw [if_neg c30] at H
                                have c30b0 : decide (((rd_T56 t305 x9_3).f1) < t301) = false := decide_eq_false c30
                                clear c30
                                have H' := Aside0.mk H
                                clear H
                                have hcz34_0 : wc.cell? ⟨gb309, 0, none⟩ = some (.slice (some ad310) t305.length co19) := (blk_cell BK309.out 0).trans rfl
                                have hcz34_1 : wc.cell? ⟨gb309, 1, none⟩ = some (.int .i64 t308) := (blk_cell BK309.out 1).trans rfl
                                have hfz34_0 := blk_frozen BK309.out 0
                                have hfz34_1 := blk_frozen BK309.out 1
                                have p311 : 0 ≤ (x9_3 : Int) := of_decide_eq_true (by first | (with_reducible assumption) | assumption)
                                have q311 : x9_3 < (t305.length : Int) := of_decide_eq_true (by first | (with_reducible assumption) | assumption)
                                obtain ⟨ad311, e311, hx311_0, hx311_1, hx311_2, hx311_3⟩ := at_T56 (Kd.R_reads' HO_310000.out).2.2 x9_3 p311 q311
                                obtain rfl : ad310 = ad311 := (by injection e311)
                                replace p311 := eq_true p311
                                replace q311 := eq_true q311
                                go_wp2
                                go_roundg kj24
                                case measure => have := HJ4.out; have := HJ15.out; have := HK3.out; have := HJ24.out; omega
                                case rel => exact ⟨(x7_24), (x8_3), (wrap64 (x9_3 + 1)), (by first | rfl | (simp; done) | (simp [*]; done)), (by first | rfl | (simp; done) | (simp [*]; done)), (by first | rfl | (simp; done) | (simp [*]; done)), H', ⟨by have := HJ4.out; have := HJ15.out; have := HK3.out; have := HJ24.out; omega⟩, ⟨by (with_reducible repeat (first | apply Kd.R_alloc | apply Kd.R_drewN | apply Kd.R_drew)); exact HO_310000.out⟩, ⟨by (with_reducible repeat (first | refine blk_drewN ?_ _ | refine blk_drew ?_ | refine blk_alloc ?_ _)); exact BK309.out⟩, ⟨by repeat (first | (with_reducible first | exact HB.out | apply below_alloc | apply pw_below_drewN | apply below_drew1 | refine below_set ?_ GE309.out) | exact HB.out)⟩⟩
                            · rw [if_neg c29] at H
                              exact absurd H (by simp)
                          · rw [if_neg c28] at H
                            exact absurd H (by simp)
                    · rw [if_neg c24] at H
                      exact absurd H (by simp)
                  · rw [if_neg c23] at H
                    have c23b0 : decide (x9_3 < (t305.length : Int)) = false := decide_eq_false c23
                    clear c23
                    by_cases c35 : t308 < (a0.size : Int)
                    · rw [if_pos c35] at H
                      have c35b0 : decide (t308 < (a0.size : Int)) = true := decide_eq_true c35
                      clear c35
                      by_cases c36 : x7_3 = true
                      · subst c36
                        have H1 : (some (t301 == t308)) = some r := by rw [if_pos rfl] at H; exact H
                        clear H
                        have H := H1
                        clear H1
                        obtain rfl := Option.some.inj H
                        have hcz37_0 : wr.cell? ⟨gb309, 0, none⟩ = some (.slice Ao19 t305.length co19) := (blk_cell BK309.out 0).trans rfl
                        have hcz37_1 : wr.cell? ⟨gb309, 1, none⟩ = some (.int .i64 t308) := (blk_cell BK309.out 1).trans rfl
                        have hfz37_0 := blk_frozen BK309.out 0
                        have hfz37_1 := blk_frozen BK309.out 1
                        go_wp2
                        go_ret
                        exact ⟨by first | rfl | (simp [errW_none, errW_some] <;> rfl) | (simp [*, errW_none, errW_some] <;> rfl), by repeat (first | (with_reducible first | exact HB.out | apply below_alloc | apply pw_below_drewN | apply below_drew1 | refine below_set ?_ GE309.out) | exact HB.out)⟩
                      · replace c36 := Bool.eq_false_iff.mpr c36
                        subst c36
                        have H1 : (some false) = some r := by rw [if_neg (show ¬ (false = true) by decide)] at H; exact H
                        clear H
                        have H := H1
                        clear H1
                        obtain rfl := Option.some.inj H
                        have hcz38_0 : wr.cell? ⟨gb309, 0, none⟩ = some (.slice Ao19 t305.length co19) := (blk_cell BK309.out 0).trans rfl
                        have hcz38_1 : wr.cell? ⟨gb309, 1, none⟩ = some (.int .i64 t308) := (blk_cell BK309.out 1).trans rfl
                        have hfz38_0 := blk_frozen BK309.out 0
                        have hfz38_1 := blk_frozen BK309.out 1
                        go_wp2
                        go_ret
                        exact ⟨by first | rfl | (simp [errW_none, errW_some] <;> rfl) | (simp [*, errW_none, errW_some] <;> rfl), by repeat (first | (with_reducible first | exact HB.out | apply below_alloc | apply pw_below_drewN | apply below_drew1 | refine below_set ?_ GE309.out) | exact HB.out)⟩
                    · rw [if_neg c35] at H
                      have c35b0 : decide (t308 < (a0.size : Int)) = false := decide_eq_false c35
                      clear c35
                      by_cases c39 : 0 ≤ x8_3
                      · rw [if_pos c39] at H
                        have c39b0 := eq_true c39
                        have c39b1 : decide (0 ≤ x8_3) = true := decide_eq_true c39
                        clear c39
                        by_cases c40 : x8_3 ≤ (a0.size : Int)
                        · rw [if_pos c40] at H
                          have c40b0 := eq_true c40
                          have c40b1 : decide (x8_3 ≤ (a0.size : Int)) = true := decide_eq_true c40
                          clear c40
                          replace H := Option.bind_eq_some_iff.mp H
                          obtain ⟨⟨t314, t315, t316⟩, A410, H⟩ := H
                          replace H : (if x7_3 = true then (some (t316 == 0)) else (some false)) = some r := H
                          have A41 := Aside0.mk A410
                          clear A410
                          by_cases c42 : x7_3 = true
                          · subst c42
                            have H1 : (some (t316 == 0)) = some r := by rw [if_pos rfl] at H; exact H
                            clear H
                            have H := H1
                            clear H1
                            obtain rfl := Option.some.inj H
                            have hcz43_0 : wr.cell? ⟨gb309, 0, none⟩ = some (.slice Ao19 t305.length co19) := (blk_cell BK309.out 0).trans rfl
                            have hcz43_1 : wr.cell? ⟨gb309, 1, none⟩ = some (.int .i64 t308) := (blk_cell BK309.out 1).trans rfl
                            have hfz43_0 := blk_frozen BK309.out 0
                            have hfz43_1 := blk_frozen BK309.out 1
                            go_wp2_with (first | ((with_reducible refine gate_callee (f := 14) rfl ?_); refine goesL_ (some 109) rfl rfl Try.func14 (by kernel_rfl) rfl #[.string (a0.extract 0 (x8_3 : Int).toNat)] rfl (by (try simp only [List.map_toArray, List.map_cons, List.map_nil]); first | done | rfl | (simp only [List.length_drop, List.length_take]; rfl)) ?_; (with_reducible refine (text_Read.calls (a0.extract 0 (x8_3 : Int).toNat) t314 t315 t316 _ A41.out).mono ?_); rintro e w44 ⟨v317, rfl, ho0, hb⟩; refine ⟨_, rfl, ?_⟩; have n0_ := Aside0.mk (Kd.R_below (by (with_reducible repeat (first | apply Kd.R_alloc | apply Kd.R_drewN | apply Kd.R_drew)); exact HO_310000.out) hb); have n1_ := Aside0.mk (Kd.R_lower ho0 (below_size (by repeat (first | (with_reducible first | exact HB.out | apply below_alloc | apply pw_below_drewN | apply below_drew1 | refine below_set ?_ GE309.out) | exact HB.out)))); have n2_ := Aside0.mk (blk_below (g := gb309) (o := .cells #[.slice Ao19 t305.length co19, .int .i64 t308] 63 (0, 0)) (by (with_reducible repeat (first | refine blk_drewN ?_ _ | refine blk_drew ?_ | refine blk_alloc ?_ _)); exact BK309.out) hb); have n3_ := Aside0.mk (below_step (by repeat (first | (with_reducible first | exact HB.out | apply below_alloc | apply pw_below_drewN | apply below_drew1 | refine below_set ?_ GE309.out) | exact HB.out)) hb); clear HO_310000; clear BK309; clear HB; have HO_310000 := n0_; have HO318 := n1_; have BK309 := n2_; have HB := n3_; clear n0_ n1_ n2_ n3_; (try clear hb); (try clear hb2); (try clear hk); (try clear hi); (try clear ho0)))
                            go_ret
                            exact ⟨by first | rfl | (simp [errW_none, errW_some] <;> rfl) | (simp [*, errW_none, errW_some] <;> rfl), by repeat (first | (with_reducible first | exact HB.out | apply below_alloc | apply pw_below_drewN | apply below_drew1 | refine below_set ?_ GE309.out) | exact HB.out)⟩
                          · replace c42 := Bool.eq_false_iff.mpr c42
                            subst c42
                            have H1 : (some false) = some r := by rw [if_neg (show ¬ (false = true) by decide)] at H; exact H
                            clear H
                            have H := H1
                            clear H1
                            obtain rfl := Option.some.inj H
                            have hcz45_0 : wr.cell? ⟨gb309, 0, none⟩ = some (.slice Ao19 t305.length co19) := (blk_cell BK309.out 0).trans rfl
                            have hcz45_1 : wr.cell? ⟨gb309, 1, none⟩ = some (.int .i64 t308) := (blk_cell BK309.out 1).trans rfl
                            have hfz45_0 := blk_frozen BK309.out 0
                            have hfz45_1 := blk_frozen BK309.out 1
                            go_wp2_with (first | ((with_reducible refine gate_callee (f := 14) rfl ?_); refine goesL_ (some 109) rfl rfl Try.func14 (by kernel_rfl) rfl #[.string (a0.extract 0 (x8_3 : Int).toNat)] rfl (by (try simp only [List.map_toArray, List.map_cons, List.map_nil]); first | done | rfl | (simp only [List.length_drop, List.length_take]; rfl)) ?_; (with_reducible refine (text_Read.calls (a0.extract 0 (x8_3 : Int).toNat) t314 t315 t316 _ A41.out).mono ?_); rintro e w46 ⟨v317, rfl, ho0, hb⟩; refine ⟨_, rfl, ?_⟩; have n0_ := Aside0.mk (Kd.R_below (by (with_reducible repeat (first | apply Kd.R_alloc | apply Kd.R_drewN | apply Kd.R_drew)); exact HO_310000.out) hb); have n1_ := Aside0.mk (Kd.R_lower ho0 (below_size (by repeat (first | (with_reducible first | exact HB.out | apply below_alloc | apply pw_below_drewN | apply below_drew1 | refine below_set ?_ GE309.out) | exact HB.out)))); have n2_ := Aside0.mk (blk_below (g := gb309) (o := .cells #[.slice Ao19 t305.length co19, .int .i64 t308] 63 (0, 0)) (by (with_reducible repeat (first | refine blk_drewN ?_ _ | refine blk_drew ?_ | refine blk_alloc ?_ _)); exact BK309.out) hb); have n3_ := Aside0.mk (below_step (by repeat (first | (with_reducible first | exact HB.out | apply below_alloc | apply pw_below_drewN | apply below_drew1 | refine below_set ?_ GE309.out) | exact HB.out)) hb); clear HO_310000; clear BK309; clear HB; have HO_310000 := n0_; have HO318 := n1_; have BK309 := n2_; have HB := n3_; clear n0_ n1_ n2_ n3_; (try clear hb); (try clear hb2); (try clear hk); (try clear hi); (try clear ho0)))
                            go_ret
                            exact ⟨by first | rfl | (simp [errW_none, errW_some] <;> rfl) | (simp [*, errW_none, errW_some] <;> rfl), by repeat (first | (with_reducible first | exact HB.out | apply below_alloc | apply pw_below_drewN | apply below_drew1 | refine below_set ?_ GE309.out) | exact HB.out)⟩
                        · rw [if_neg c40] at H
                          exact absurd H (by simp)
                      · rw [if_neg c39] at H
                        exact absurd H (by simp)

end Go.Proofs.Ytefdcjmfbjlinaa.A
