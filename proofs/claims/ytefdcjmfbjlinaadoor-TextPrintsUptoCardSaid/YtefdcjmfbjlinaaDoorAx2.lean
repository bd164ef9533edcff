-- written by a program (wip/dev/print2.sh): functions of the program as plain Lean, with their contracts
import Derived.Test.YtefdcjmfbjlinaaDoorAx0
import Derived.Test.YtefdcjmfbjlinaaDoorAx1
import Derived.Test.YtefdcjmfbjlinaaDoorGivT
namespace Go.Proofs.YtefdcjmfbjlinaaDoor.A
open Go.RowKit Go.Proofs.YtefdcjmfbjlinaaDoorW.PrintWords Go.Proofs.YtefdcjmfbjlinaaDoorW.PrintLast Go.Proofs.YtefdcjmfbjlinaaDoorW.PrintMore
set_option linter.unusedVariables false
set_option linter.unusedSimpArgs false

attribute [local go_sem high] eqA29
-- NOT PRINTED: function 39 (scan_Each)

-- NOT PRINTED: function 54 (scan_long)

-- NOT PRINTED: function 40 (scan_skip)

-- NOT PRINTED: function 30 (scan_Lex)

-- NOT PRINTED: function 33 (text_reader_here)

-- NOT PRINTED: function 31 (text_reader_take)

-- NOT PRINTED: function 41 (text_fields)

-- NOT PRINTED: function 42 (text_reader_ends)

-- NOT PRINTED: function 32 (text_reader_task)

-- NOT PRINTED: function 63 (task_first)

-- NOT PRINTED: function 43 (task_Check)

-- NOT PRINTED: function 34 (task_CheckAll)

/-! ### cadencylaw05_awake: function 7 -/
def cadencylaw05_awake.f  : Option (Bool) := (text_Parse.f (⟨#[116, 97, 115, 107, 32, 97, 32, 112, 61, 50, 32, 99, 61, 49, 32, 116, 61, 57]⟩ : ByteArray)).bind fun bt107 => ((text_Parse.f (⟨#[116, 97, 115, 107, 32, 97, 32, 99, 61, 49, 32, 99, 61, 50]⟩ : ByteArray)).bind fun bt112 => (if bt107.2.2 = 0 then (if bt107.2.1 = 1 then (if (bt107.1.length : Int) = 1 then (if 0 < (bt107.1.length : Int) then (if ((((rd_T29 bt107.1 0).f0).toList) == ([97] : List UInt8) && (((rd_T29 bt107.1 0).f1) == 1 && (((rd_T29 bt107.1 0).f2) == 9 && (((rd_T29 bt107.1 0).f3) == 9 && (((rd_T29 bt107.1 0).f4) == 0 && (((rd_T29 bt107.1 0).f5) == 1 && (((rd_T29 bt107.1 0).f6) == 2))))))) = true then (if bt112.2.2 = 10 then (some (bt112.2.1 == 11)) else (some false)) else (some false)) else (none)) else (some false)) else (some false)) else (some false)))
set_option maxHeartbeats 8000000 in
set_option maxRecDepth 100000 in
theorem cadencylaw05_awake.calls  (r : Bool) (w : World) (h : cadencylaw05_awake.f  = some r) :
    Calls Tryd.prog 7 #[] w fun e w' => e = .returned (.bool r) ∧ Below w.heap.size w w' := by
  have hu29 := Tryd.underlying29
  have HB := Aside0.mk (Below.refl w.heap.size w)
  have H : ((text_Parse.f (⟨#[116, 97, 115, 107, 32, 97, 32, 112, 61, 50, 32, 99, 61, 49, 32, 116, 61, 57]⟩ : ByteArray)).bind fun bt107 => ((text_Parse.f (⟨#[116, 97, 115, 107, 32, 97, 32, 99, 61, 49, 32, 99, 61, 50]⟩ : ByteArray)).bind fun bt112 => (if bt107.2.2 = 0 then (if bt107.2.1 = 1 then (if (bt107.1.length : Int) = 1 then (if 0 < (bt107.1.length : Int) then (if ((((rd_T29 bt107.1 0).f0).toList) == ([97] : List UInt8) && (((rd_T29 bt107.1 0).f1) == 1 && (((rd_T29 bt107.1 0).f2) == 9 && (((rd_T29 bt107.1 0).f3) == 9 && (((rd_T29 bt107.1 0).f4) == 0 && (((rd_T29 bt107.1 0).f5) == 1 && (((rd_T29 bt107.1 0).f6) == 2))))))) = true then (if bt112.2.2 = 10 then (some (bt112.2.1 == 11)) else (some false)) else (some false)) else (none)) else (some false)) else (some false)) else (some false)))) = some r := h
  clear h
  replace H := Option.bind_eq_some_iff.mp H
  obtain ⟨⟨t107, t108, t109⟩, A10, H⟩ := H
  replace H : ((text_Parse.f (⟨#[116, 97, 115, 107, 32, 97, 32, 99, 61, 49, 32, 99, 61, 50]⟩ : ByteArray)).bind fun bt112 => (if t109 = 0 then (if t108 = 1 then (if (t107.length : Int) = 1 then (if 0 < (t107.length : Int) then (if ((((rd_T29 t107 0).f0).toList) == ([97] : List UInt8) && (((rd_T29 t107 0).f1) == 1 && (((rd_T29 t107 0).f2) == 9 && (((rd_T29 t107 0).f3) == 9 && (((rd_T29 t107 0).f4) == 0 && (((rd_T29 t107 0).f5) == 1 && (((rd_T29 t107 0).f6) == 2))))))) = true then (if bt112.2.2 = 10 then (some (bt112.2.1 == 11)) else (some false)) else (some false)) else (none)) else (some false)) else (some false)) else (some false))) = some r := H
  have A1 := Aside0.mk A10
  clear A10
  replace H := Option.bind_eq_some_iff.mp H
  obtain ⟨⟨t112, t113, t114⟩, A20, H⟩ := H
  replace H : (if t109 = 0 then (if t108 = 1 then (if (t107.length : Int) = 1 then (if 0 < (t107.length : Int) then (if ((((rd_T29 t107 0).f0).toList) == ([97] : List UInt8) && (((rd_T29 t107 0).f1) == 1 && (((rd_T29 t107 0).f2) == 9 && (((rd_T29 t107 0).f3) == 9 && (((rd_T29 t107 0).f4) == 0 && (((rd_T29 t107 0).f5) == 1 && (((rd_T29 t107 0).f6) == 2))))))) = true then (if t114 = 10 then (some (t113 == 11)) else (some false)) else (some false)) else (none)) else (some false)) else (some false)) else (some false)) = some r := H
  have A2 := Aside0.mk A20
  clear A20
  by_cases c3 : t109 = 0
  · rw [if_pos c3] at H
    have c3b0 : (t109 == 0) = true := beq_iff_eq.mpr c3
    have c3b1 : (t109 != 0) = false := bne_eq_false_iff_eq.mpr c3
    clear c3
    by_cases c4 : t108 = 1
    · rw [if_pos c4] at H
      have c4b0 : (t108 == 1) = true := beq_iff_eq.mpr c4
      have c4b1 : (t108 != 1) = false := bne_eq_false_iff_eq.mpr c4
      clear c4
      by_cases c5 : (t107.length : Int) = 1
      · rw [if_pos c5] at H
        have c5b0 : ((t107.length : Int) == 1) = true := beq_iff_eq.mpr c5
        have c5b1 : ((t107.length : Int) != 1) = false := bne_eq_false_iff_eq.mpr c5
        clear c5
        by_cases c6 : 0 < (t107.length : Int)
        · rw [if_pos c6] at H
          have c6b0 : decide (0 < (t107.length : Int)) = true := decide_eq_true c6
          have c6b1 : decide (0 < t107.length) = true := decide_eq_true (by omega)
          clear c6
          by_cases c7 : ((((rd_T29 t107 0).f0).toList) == ([97] : List UInt8) && (((rd_T29 t107 0).f1) == 1 && (((rd_T29 t107 0).f2) == 9 && (((rd_T29 t107 0).f3) == 9 && (((rd_T29 t107 0).f4) == 0 && (((rd_T29 t107 0).f5) == 1 && (((rd_T29 t107 0).f6) == 2))))))) = true
          · rw [if_pos c7] at H
            have c7b0 : ((((rd_T29 t107 0).f0).toList) == ([97] : List UInt8) && (((rd_T29 t107 0).f1) == 1 && (((rd_T29 t107 0).f2) == 9 && (((rd_T29 t107 0).f3) == 9 && (((rd_T29 t107 0).f4) == 0 && (((rd_T29 t107 0).f5) == 1 && (((rd_T29 t107 0).f6) == 2))))))) = true := c7
            (try (have c7b1 : decide ((((rd_T29 t107 0).f0).toList) = ([97] : List UInt8) && (((rd_T29 t107 0).f1) == 1 && (((rd_T29 t107 0).f2) == 9 && (((rd_T29 t107 0).f3) == 9 && (((rd_T29 t107 0).f4) == 0 && (((rd_T29 t107 0).f5) == 1 && (((rd_T29 t107 0).f6) == 2))))))) = true := by simpa using c7))
            (try (have c7b2 : ((((rd_T29 t107 0).f0).toList) == ([97] : List UInt8) && (((rd_T29 t107 0).f1) == 1 && (((rd_T29 t107 0).f2) == 9 && (((rd_T29 t107 0).f3) == 9 && (((rd_T29 t107 0).f4) == 0 && (((rd_T29 t107 0).f5) == 1 && (((rd_T29 t107 0).f6) == 2))))))) = true := by simpa using c7))
            clear c7
            by_cases c8 : t114 = 10
            · rw [if_pos c8] at H
              have c8b0 : (t114 == 10) = true := beq_iff_eq.mpr c8
              have c8b1 : (t114 != 10) = false := bne_eq_false_iff_eq.mpr c8
              clear c8
              obtain rfl := Option.some.inj H
              go_enter Tryd.func7, Tryd.ntmps7
              go_wp2_with (first | ((with_reducible refine gate_callee (f := 19) rfl ?_); refine goesL_ (some 8) rfl rfl Tryd.func19 (by kernel_rfl) rfl #[.string (⟨#[116, 97, 115, 107, 32, 97, 32, 112, 61, 50, 32, 99, 61, 49, 32, 116, 61, 57]⟩ : ByteArray)] rfl (by (try simp only [List.map_toArray, List.map_cons, List.map_nil]); first | done | rfl | (simp only [List.length_drop, List.length_take]; rfl)) ?_; (with_reducible refine (text_Parse.calls (⟨#[116, 97, 115, 107, 32, 97, 32, 112, 61, 50, 32, 99, 61, 49, 32, 116, 61, 57]⟩ : ByteArray) t107 t108 t109 _ A1.out).mono ?_); rintro e w9 ⟨v110, rfl, ho0, hb⟩; refine ⟨_, rfl, ?_⟩; have n0_ := Aside0.mk (Kd.R_lower ho0 (below_size (by repeat (first | (with_reducible first | exact HB.out | apply below_alloc | apply pw_below_drewN | apply below_drew1) | exact HB.out)))); have n1_ := Aside0.mk (below_step (by repeat (first | (with_reducible first | exact HB.out | apply below_alloc | apply pw_below_drewN | apply below_drew1) | exact HB.out)) hb); clear HB; have HO111 := n0_; have HB := n1_; clear n0_ n1_; (try clear hb); (try clear hb2); (try clear hk); (try clear hi); (try clear ho0)) | ((with_reducible refine gate_callee (f := 19) rfl ?_); refine goesL_ (some 13) rfl rfl Tryd.func19 (by kernel_rfl) rfl #[.string (⟨#[116, 97, 115, 107, 32, 97, 32, 99, 61, 49, 32, 99, 61, 50]⟩ : ByteArray)] rfl (by (try simp only [List.map_toArray, List.map_cons, List.map_nil]); first | done | rfl | (simp only [List.length_drop, List.length_take]; rfl)) ?_; (with_reducible refine (text_Parse.calls (⟨#[116, 97, 115, 107, 32, 97, 32, 99, 61, 49, 32, 99, 61, 50]⟩ : ByteArray) t112 t113 t114 _ A2.out).mono ?_); rintro e w10 ⟨v115, rfl, ho0, hb⟩; refine ⟨_, rfl, ?_⟩; have n0_ := Aside0.mk (Kd.R_elder' (by (with_reducible repeat (first | apply Kd.R_alloc | apply Kd.R_drewN | apply Kd.R_drew)); exact HO111.out) (Kd.R_base ho0) hb); have n1_ := Aside0.mk (Kd.R_lower (Kd.R_new' ho0 (Kd.R_lt (by (with_reducible repeat (first | apply Kd.R_alloc | apply Kd.R_drewN | apply Kd.R_drew)); exact HO111.out))) (below_size (by repeat (first | (with_reducible first | exact HB.out | apply below_alloc | apply pw_below_drewN | apply below_drew1) | exact HB.out)))); have n2_ := Aside0.mk (below_step (by repeat (first | (with_reducible first | exact HB.out | apply below_alloc | apply pw_below_drewN | apply below_drew1) | exact HB.out)) hb); clear HO111; clear HB; have HO111 := n0_; have HO116 := n1_; have HB := n2_; clear n0_ n1_ n2_; (try clear hb); (try clear hb2); (try clear hk); (try clear hi); (try clear ho0); obtain ⟨Ao11, co11, eo11⟩ := Kd.R_slice HO111.out; subst eo11; have p117 : 0 ≤ (0 : Int) := (by omega); have q117 : 0 < (t107.length : Int) := of_decide_eq_true (by first | (with_reducible assumption) | assumption); obtain ⟨ad117, e117, hx117_0, hx117_1, hx117_2, hx117_3, hx117_4, hx117_5, hx117_6⟩ := at_T29 (Kd.R_reads' HO111.out).2.2 0 p117 q117; cases e117; have qi117 : (0 < t107.length) = True := eq_true (by omega); (try rw [show ((0 : Int)).toNat = 0 from rfl] at hx117_0); (try rw [show 0 * 7 = 0 from rfl] at hx117_0); (try rw [Addr.add_zero'] at hx117_0); (try rw [show ((0 : Int)).toNat = 0 from rfl] at hx117_1); (try rw [show 0 * 7 = 0 from rfl] at hx117_1); (try rw [Addr.add_zero'] at hx117_1); (try rw [show ((0 : Int)).toNat = 0 from rfl] at hx117_2); (try rw [show 0 * 7 = 0 from rfl] at hx117_2); (try rw [Addr.add_zero'] at hx117_2); (try rw [show ((0 : Int)).toNat = 0 from rfl] at hx117_3); (try rw [show 0 * 7 = 0 from rfl] at hx117_3); (try rw [Addr.add_zero'] at hx117_3); (try rw [show ((0 : Int)).toNat = 0 from rfl] at hx117_4); (try rw [show 0 * 7 = 0 from rfl] at hx117_4); (try rw [Addr.add_zero'] at hx117_4); (try rw [show ((0 : Int)).toNat = 0 from rfl] at hx117_5); (try rw [show 0 * 7 = 0 from rfl] at hx117_5); (try rw [Addr.add_zero'] at hx117_5); (try rw [show ((0 : Int)).toNat = 0 from rfl] at hx117_6); (try rw [show 0 * 7 = 0 from rfl] at hx117_6); (try rw [Addr.add_zero'] at hx117_6); replace p117 := eq_true p117; replace q117 := eq_true q117))
              go_ret
              exact ⟨by first | rfl | (simp [errW_none, errW_some] <;> rfl) | (simp [*, errW_none, errW_some] <;> rfl), by repeat (first | (with_reducible first | exact HB.out | apply below_alloc | apply pw_below_drewN | apply below_drew1) | exact HB.out)⟩
            · rw [if_neg c8] at H
              have c8b0 : (t114 == 10) = false := beq_eq_false_iff_ne.mpr c8
              have c8b1 : (t114 != 10) = true := bne_iff_ne.mpr c8
              obtain rfl := Option.some.inj H
              go_enter Tryd.func7, Tryd.ntmps7
              go_wp2_with (first | ((with_reducible refine gate_callee (f := 19) rfl ?_); refine goesL_ (some 8) rfl rfl Tryd.func19 (by kernel_rfl) rfl #[.string (⟨#[116, 97, 115, 107, 32, 97, 32, 112, 61, 50, 32, 99, 61, 49, 32, 116, 61, 57]⟩ : ByteArray)] rfl (by (try simp only [List.map_toArray, List.map_cons, List.map_nil]); first | done | rfl | (simp only [List.length_drop, List.length_take]; rfl)) ?_; (with_reducible refine (text_Parse.calls (⟨#[116, 97, 115, 107, 32, 97, 32, 112, 61, 50, 32, 99, 61, 49, 32, 116, 61, 57]⟩ : ByteArray) t107 t108 t109 _ A1.out).mono ?_); rintro e w12 ⟨v110, rfl, ho0, hb⟩; refine ⟨_, rfl, ?_⟩; have n0_ := Aside0.mk (Kd.R_lower ho0 (below_size (by repeat (first | (with_reducible first | exact HB.out | apply below_alloc | apply pw_below_drewN | apply below_drew1) | exact HB.out)))); have n1_ := Aside0.mk (below_step (by repeat (first | (with_reducible first | exact HB.out | apply below_alloc | apply pw_below_drewN | apply below_drew1) | exact HB.out)) hb); clear HB; have HO111 := n0_; have HB := n1_; clear n0_ n1_; (try clear hb); (try clear hb2); (try clear hk); (try clear hi); (try clear ho0)) | ((with_reducible refine gate_callee (f := 19) rfl ?_); refine goesL_ (some 13) rfl rfl Tryd.func19 (by kernel_rfl) rfl #[.string (⟨#[116, 97, 115, 107, 32, 97, 32, 99, 61, 49, 32, 99, 61, 50]⟩ : ByteArray)] rfl (by (try simp only [List.map_toArray, List.map_cons, List.map_nil]); first | done | rfl | (simp only [List.length_drop, List.length_take]; rfl)) ?_; (with_reducible refine (text_Parse.calls (⟨#[116, 97, 115, 107, 32, 97, 32, 99, 61, 49, 32, 99, 61, 50]⟩ : ByteArray) t112 t113 t114 _ A2.out).mono ?_); rintro e w13 ⟨v115, rfl, ho0, hb⟩; refine ⟨_, rfl, ?_⟩; have n0_ := Aside0.mk (Kd.R_elder' (by (with_reducible repeat (first | apply Kd.R_alloc | apply Kd.R_drewN | apply Kd.R_drew)); exact HO111.out) (Kd.R_base ho0) hb); have n1_ := Aside0.mk (Kd.R_lower (Kd.R_new' ho0 (Kd.R_lt (by (with_reducible repeat (first | apply Kd.R_alloc | apply Kd.R_drewN | apply Kd.R_drew)); exact HO111.out))) (below_size (by repeat (first | (with_reducible first | exact HB.out | apply below_alloc | apply pw_below_drewN | apply below_drew1) | exact HB.out)))); have n2_ := Aside0.mk (below_step (by repeat (first | (with_reducible first | exact HB.out | apply below_alloc | apply pw_below_drewN | apply below_drew1) | exact HB.out)) hb); clear HO111; clear HB; have HO111 := n0_; have HO116 := n1_; have HB := n2_; clear n0_ n1_ n2_; (try clear hb); (try clear hb2); (try clear hk); (try clear hi); (try clear ho0); obtain ⟨Ao14, co14, eo14⟩ := Kd.R_slice HO111.out; subst eo14; have p117 : 0 ≤ (0 : Int) := (by omega); have q117 : 0 < (t107.length : Int) := of_decide_eq_true (by first | (with_reducible assumption) | assumption); obtain ⟨ad117, e117, hx117_0, hx117_1, hx117_2, hx117_3, hx117_4, hx117_5, hx117_6⟩ := at_T29 (Kd.R_reads' HO111.out).2.2 0 p117 q117; cases e117; have qi117 : (0 < t107.length) = True := eq_true (by omega); (try rw [show ((0 : Int)).toNat = 0 from rfl] at hx117_0); (try rw [show 0 * 7 = 0 from rfl] at hx117_0); (try rw [Addr.add_zero'] at hx117_0); (try rw [show ((0 : Int)).toNat = 0 from rfl] at hx117_1); (try rw [show 0 * 7 = 0 from rfl] at hx117_1); (try rw [Addr.add_zero'] at hx117_1); (try rw [show ((0 : Int)).toNat = 0 from rfl] at hx117_2); (try rw [show 0 * 7 = 0 from rfl] at hx117_2); (try rw [Addr.add_zero'] at hx117_2); (try rw [show ((0 : Int)).toNat = 0 from rfl] at hx117_3); (try rw [show 0 * 7 = 0 from rfl] at hx117_3); (try rw [Addr.add_zero'] at hx117_3); (try rw [show ((0 : Int)).toNat = 0 from rfl] at hx117_4); (try rw [show 0 * 7 = 0 from rfl] at hx117_4); (try rw [Addr.add_zero'] at hx117_4); (try rw [show ((0 : Int)).toNat = 0 from rfl] at hx117_5); (try rw [show 0 * 7 = 0 from rfl] at hx117_5); (try rw [Addr.add_zero'] at hx117_5); (try rw [show ((0 : Int)).toNat = 0 from rfl] at hx117_6); (try rw [show 0 * 7 = 0 from rfl] at hx117_6); (try rw [Addr.add_zero'] at hx117_6); replace p117 := eq_true p117; replace q117 := eq_true q117))
              go_ret
              exact ⟨by first | rfl | (simp [errW_none, errW_some] <;> rfl) | (simp [*, errW_none, errW_some] <;> rfl), by repeat (first | (with_reducible first | exact HB.out | apply below_alloc | apply pw_below_drewN | apply below_drew1) | exact HB.out)⟩
          · rw [if_neg c7] at H
            have c7b0 : ((((rd_T29 t107 0).f0).toList) == ([97] : List UInt8) && (((rd_T29 t107 0).f1) == 1 && (((rd_T29 t107 0).f2) == 9 && (((rd_T29 t107 0).f3) == 9 && (((rd_T29 t107 0).f4) == 0 && (((rd_T29 t107 0).f5) == 1 && (((rd_T29 t107 0).f6) == 2))))))) = false := by simpa using c7
            (try (have c7b1 : decide ((((rd_T29 t107 0).f0).toList) = ([97] : List UInt8) && (((rd_T29 t107 0).f1) == 1 && (((rd_T29 t107 0).f2) == 9 && (((rd_T29 t107 0).f3) == 9 && (((rd_T29 t107 0).f4) == 0 && (((rd_T29 t107 0).f5) == 1 && (((rd_T29 t107 0).f6) == 2))))))) = false := by simpa using c7))
            (try (have c7b2 : ((((rd_T29 t107 0).f0).toList) == ([97] : List UInt8) && (((rd_T29 t107 0).f1) == 1 && (((rd_T29 t107 0).f2) == 9 && (((rd_T29 t107 0).f3) == 9 && (((rd_T29 t107 0).f4) == 0 && (((rd_T29 t107 0).f5) == 1 && (((rd_T29 t107 0).f6) == 2))))))) = false := by simpa using c7))
            (try (have c7b3 : ¬ ((((rd_T29 t107 0).f0).toList) = ([97] : List UInt8) && (((rd_T29 t107 0).f1) == 1 && (((rd_T29 t107 0).f2) == 9 && (((rd_T29 t107 0).f3) == 9 && (((rd_T29 t107 0).f4) == 0 && (((rd_T29 t107 0).f5) == 1 && (((rd_T29 t107 0).f6) == 2))))))) := by simpa using c7))
            clear c7
            obtain rfl := Option.some.inj H
            go_enter Tryd.func7, Tryd.ntmps7
            go_wp2_with (first | ((with_reducible refine gate_callee (f := 19) rfl ?_); refine goesL_ (some 8) rfl rfl Tryd.func19 (by kernel_rfl) rfl #[.string (⟨#[116, 97, 115, 107, 32, 97, 32, 112, 61, 50, 32, 99, 61, 49, 32, 116, 61, 57]⟩ : ByteArray)] rfl (by (try simp only [List.map_toArray, List.map_cons, List.map_nil]); first | done | rfl | (simp only [List.length_drop, List.length_take]; rfl)) ?_; (with_reducible refine (text_Parse.calls (⟨#[116, 97, 115, 107, 32, 97, 32, 112, 61, 50, 32, 99, 61, 49, 32, 116, 61, 57]⟩ : ByteArray) t107 t108 t109 _ A1.out).mono ?_); rintro e w15 ⟨v110, rfl, ho0, hb⟩; refine ⟨_, rfl, ?_⟩; have n0_ := Aside0.mk (Kd.R_lower ho0 (below_size (by repeat (first | (with_reducible first | exact HB.out | apply below_alloc | apply pw_below_drewN | apply below_drew1) | exact HB.out)))); have n1_ := Aside0.mk (below_step (by repeat (first | (with_reducible first | exact HB.out | apply below_alloc | apply pw_below_drewN | apply below_drew1) | exact HB.out)) hb); clear HB; have HO111 := n0_; have HB := n1_; clear n0_ n1_; (try clear hb); (try clear hb2); (try clear hk); (try clear hi); (try clear ho0)) | ((with_reducible refine gate_callee (f := 19) rfl ?_); refine goesL_ (some 13) rfl rfl Tryd.func19 (by kernel_rfl) rfl #[.string (⟨#[116, 97, 115, 107, 32, 97, 32, 99, 61, 49, 32, 99, 61, 50]⟩ : ByteArray)] rfl (by (try simp only [List.map_toArray, List.map_cons, List.map_nil]); first | done | rfl | (simp only [List.length_drop, List.length_take]; rfl)) ?_; (with_reducible refine (text_Parse.calls (⟨#[116, 97, 115, 107, 32, 97, 32, 99, 61, 49, 32, 99, 61, 50]⟩ : ByteArray) t112 t113 t114 _ A2.out).mono ?_); rintro e w16 ⟨v115, rfl, ho0, hb⟩; refine ⟨_, rfl, ?_⟩; have n0_ := Aside0.mk (Kd.R_elder' (by (with_reducible repeat (first | apply Kd.R_alloc | apply Kd.R_drewN | apply Kd.R_drew)); exact HO111.out) (Kd.R_base ho0) hb); have n1_ := Aside0.mk (Kd.R_lower (Kd.R_new' ho0 (Kd.R_lt (by (with_reducible repeat (first | apply Kd.R_alloc | apply Kd.R_drewN | apply Kd.R_drew)); exact HO111.out))) (below_size (by repeat (first | (with_reducible first | exact HB.out | apply below_alloc | apply pw_below_drewN | apply below_drew1) | exact HB.out)))); have n2_ := Aside0.mk (below_step (by repeat (first | (with_reducible first | exact HB.out | apply below_alloc | apply pw_below_drewN | apply below_drew1) | exact HB.out)) hb); clear HO111; clear HB; have HO111 := n0_; have HO116 := n1_; have HB := n2_; clear n0_ n1_ n2_; (try clear hb); (try clear hb2); (try clear hk); (try clear hi); (try clear ho0); obtain ⟨Ao17, co17, eo17⟩ := Kd.R_slice HO111.out; subst eo17; have p117 : 0 ≤ (0 : Int) := (by omega); have q117 : 0 < (t107.length : Int) := of_decide_eq_true (by first | (with_reducible assumption) | assumption); obtain ⟨ad117, e117, hx117_0, hx117_1, hx117_2, hx117_3, hx117_4, hx117_5, hx117_6⟩ := at_T29 (Kd.R_reads' HO111.out).2.2 0 p117 q117; cases e117; have qi117 : (0 < t107.length) = True := eq_true (by omega); (try rw [show ((0 : Int)).toNat = 0 from rfl] at hx117_0); (try rw [show 0 * 7 = 0 from rfl] at hx117_0); (try rw [Addr.add_zero'] at hx117_0); (try rw [show ((0 : Int)).toNat = 0 from rfl] at hx117_1); (try rw [show 0 * 7 = 0 from rfl] at hx117_1); (try rw [Addr.add_zero'] at hx117_1); (try rw [show ((0 : Int)).toNat = 0 from rfl] at hx117_2); (try rw [show 0 * 7 = 0 from rfl] at hx117_2); (try rw [Addr.add_zero'] at hx117_2); (try rw [show ((0 : Int)).toNat = 0 from rfl] at hx117_3); (try rw [show 0 * 7 = 0 from rfl] at hx117_3); (try rw [Addr.add_zero'] at hx117_3); (try rw [show ((0 : Int)).toNat = 0 from rfl] at hx117_4); (try rw [show 0 * 7 = 0 from rfl] at hx117_4); (try rw [Addr.add_zero'] at hx117_4); (try rw [show ((0 : Int)).toNat = 0 from rfl] at hx117_5); (try rw [show 0 * 7 = 0 from rfl] at hx117_5); (try rw [Addr.add_zero'] at hx117_5); (try rw [show ((0 : Int)).toNat = 0 from rfl] at hx117_6); (try rw [show 0 * 7 = 0 from rfl] at hx117_6); (try rw [Addr.add_zero'] at hx117_6); replace p117 := eq_true p117; replace q117 := eq_true q117))
            go_ret
            exact ⟨by first | rfl | (simp [errW_none, errW_some] <;> rfl) | (simp [*, errW_none, errW_some] <;> rfl), by repeat (first | (with_reducible first | exact HB.out | apply below_alloc | apply pw_below_drewN | apply below_drew1) | exact HB.out)⟩
        · rw [if_neg c6] at H
          exact absurd H (by simp)
      · rw [if_neg c5] at H
        have c5b0 : ((t107.length : Int) == 1) = false := beq_eq_false_iff_ne.mpr c5
        have c5b1 : ((t107.length : Int) != 1) = true := bne_iff_ne.mpr c5
        obtain rfl := Option.some.inj H
        go_enter Tryd.func7, Tryd.ntmps7
        go_wp2_with (first | ((with_reducible refine gate_callee (f := 19) rfl ?_); refine goesL_ (some 8) rfl rfl Tryd.func19 (by kernel_rfl) rfl #[.string (⟨#[116, 97, 115, 107, 32, 97, 32, 112, 61, 50, 32, 99, 61, 49, 32, 116, 61, 57]⟩ : ByteArray)] rfl (by (try simp only [List.map_toArray, List.map_cons, List.map_nil]); first | done | rfl | (simp only [List.length_drop, List.length_take]; rfl)) ?_; (with_reducible refine (text_Parse.calls (⟨#[116, 97, 115, 107, 32, 97, 32, 112, 61, 50, 32, 99, 61, 49, 32, 116, 61, 57]⟩ : ByteArray) t107 t108 t109 _ A1.out).mono ?_); rintro e w18 ⟨v110, rfl, ho0, hb⟩; refine ⟨_, rfl, ?_⟩; have n0_ := Aside0.mk (Kd.R_lower ho0 (below_size (by repeat (first | (with_reducible first | exact HB.out | apply below_alloc | apply pw_below_drewN | apply below_drew1) | exact HB.out)))); have n1_ := Aside0.mk (below_step (by repeat (first | (with_reducible first | exact HB.out | apply below_alloc | apply pw_below_drewN | apply below_drew1) | exact HB.out)) hb); clear HB; have HO111 := n0_; have HB := n1_; clear n0_ n1_; (try clear hb); (try clear hb2); (try clear hk); (try clear hi); (try clear ho0)) | ((with_reducible refine gate_callee (f := 19) rfl ?_); refine goesL_ (some 13) rfl rfl Tryd.func19 (by kernel_rfl) rfl #[.string (⟨#[116, 97, 115, 107, 32, 97, 32, 99, 61, 49, 32, 99, 61, 50]⟩ : ByteArray)] rfl (by (try simp only [List.map_toArray, List.map_cons, List.map_nil]); first | done | rfl | (simp only [List.length_drop, List.length_take]; rfl)) ?_; (with_reducible refine (text_Parse.calls (⟨#[116, 97, 115, 107, 32, 97, 32, 99, 61, 49, 32, 99, 61, 50]⟩ : ByteArray) t112 t113 t114 _ A2.out).mono ?_); rintro e w19 ⟨v115, rfl, ho0, hb⟩; refine ⟨_, rfl, ?_⟩; have n0_ := Aside0.mk (Kd.R_elder' (by (with_reducible repeat (first | apply Kd.R_alloc | apply Kd.R_drewN | apply Kd.R_drew)); exact HO111.out) (Kd.R_base ho0) hb); have n1_ := Aside0.mk (Kd.R_lower (Kd.R_new' ho0 (Kd.R_lt (by (with_reducible repeat (first | apply Kd.R_alloc | apply Kd.R_drewN | apply Kd.R_drew)); exact HO111.out))) (below_size (by repeat (first | (with_reducible first | exact HB.out | apply below_alloc | apply pw_below_drewN | apply below_drew1) | exact HB.out)))); have n2_ := Aside0.mk (below_step (by repeat (first | (with_reducible first | exact HB.out | apply below_alloc | apply pw_below_drewN | apply below_drew1) | exact HB.out)) hb); clear HO111; clear HB; have HO111 := n0_; have HO116 := n1_; have HB := n2_; clear n0_ n1_ n2_; (try clear hb); (try clear hb2); (try clear hk); (try clear hi); (try clear ho0); obtain ⟨Ao20, co20, eo20⟩ := Kd.R_slice HO111.out; subst eo20))
        go_ret
        exact ⟨by first | rfl | (simp [errW_none, errW_some] <;> rfl) | (simp [*, errW_none, errW_some] <;> rfl), by repeat (first | (with_reducible first | exact HB.out | apply below_alloc | apply pw_below_drewN | apply below_drew1) | exact HB.out)⟩
    · rw [if_neg c4] at H
      have c4b0 : (t108 == 1) = false := beq_eq_false_iff_ne.mpr c4
      have c4b1 : (t108 != 1) = true := bne_iff_ne.mpr c4
      obtain rfl := Option.some.inj H
      go_enter Tryd.func7, Tryd.ntmps7
      go_wp2_with (first | ((with_reducible refine gate_callee (f := 19) rfl ?_); refine goesL_ (some 8) rfl rfl Tryd.func19 (by kernel_rfl) rfl #[.string (⟨#[116, 97, 115, 107, 32, 97, 32, 112, 61, 50, 32, 99, 61, 49, 32, 116, 61, 57]⟩ : ByteArray)] rfl (by (try simp only [List.map_toArray, List.map_cons, List.map_nil]); first | done | rfl | (simp only [List.length_drop, List.length_take]; rfl)) ?_; (with_reducible refine (text_Parse.calls (⟨#[116, 97, 115, 107, 32, 97, 32, 112, 61, 50, 32, 99, 61, 49, 32, 116, 61, 57]⟩ : ByteArray) t107 t108 t109 _ A1.out).mono ?_); rintro e w21 ⟨v110, rfl, ho0, hb⟩; refine ⟨_, rfl, ?_⟩; have n0_ := Aside0.mk (Kd.R_lower ho0 (below_size (by repeat (first | (with_reducible first | exact HB.out | apply below_alloc | apply pw_below_drewN | apply below_drew1) | exact HB.out)))); have n1_ := Aside0.mk (below_step (by repeat (first | (with_reducible first | exact HB.out | apply below_alloc | apply pw_below_drewN | apply below_drew1) | exact HB.out)) hb); clear HB; have HO111 := n0_; have HB := n1_; clear n0_ n1_; (try clear hb); (try clear hb2); (try clear hk); (try clear hi); (try clear ho0)) | ((with_reducible refine gate_callee (f := 19) rfl ?_); refine goesL_ (some 13) rfl rfl Tryd.func19 (by kernel_rfl) rfl #[.string (⟨#[116, 97, 115, 107, 32, 97, 32, 99, 61, 49, 32, 99, 61, 50]⟩ : ByteArray)] rfl (by (try simp only [List.map_toArray, List.map_cons, List.map_nil]); first | done | rfl | (simp only [List.length_drop, List.length_take]; rfl)) ?_; (with_reducible refine (text_Parse.calls (⟨#[116, 97, 115, 107, 32, 97, 32, 99, 61, 49, 32, 99, 61, 50]⟩ : ByteArray) t112 t113 t114 _ A2.out).mono ?_); rintro e w22 ⟨v115, rfl, ho0, hb⟩; refine ⟨_, rfl, ?_⟩; have n0_ := Aside0.mk (Kd.R_elder' (by (with_reducible repeat (first | apply Kd.R_alloc | apply Kd.R_drewN | apply Kd.R_drew)); exact HO111.out) (Kd.R_base ho0) hb); have n1_ := Aside0.mk (Kd.R_lower (Kd.R_new' ho0 (Kd.R_lt (by (with_reducible repeat (first | apply Kd.R_alloc | apply Kd.R_drewN | apply Kd.R_drew)); exact HO111.out))) (below_size (by repeat (first | (with_reducible first | exact HB.out | apply below_alloc | apply pw_below_drewN | apply below_drew1) | exact HB.out)))); have n2_ := Aside0.mk (below_step (by repeat (first | (with_reducible first | exact HB.out | apply below_alloc | apply pw_below_drewN | apply below_drew1) | exact HB.out)) hb); clear HO111; clear HB; have HO111 := n0_; have HO116 := n1_; have HB := n2_; clear n0_ n1_ n2_; (try clear hb); (try clear hb2); (try clear hk); (try clear hi); (try clear ho0)))
      go_ret
      exact ⟨by first | rfl | (simp [errW_none, errW_some] <;> rfl) | (simp [*, errW_none, errW_some] <;> rfl), by repeat (first | (with_reducible first | exact HB.out | apply below_alloc | apply pw_below_drewN | apply below_drew1) | exact HB.out)⟩
  · rw [if_neg c3] at H
    have c3b0 : (t109 == 0) = false := beq_eq_false_iff_ne.mpr c3
    have c3b1 : (t109 != 0) = true := bne_iff_ne.mpr c3
    obtain rfl := Option.some.inj H
    go_enter Tryd.func7, Tryd.ntmps7
    go_wp2_with (first | ((with_reducible refine gate_callee (f := 19) rfl ?_); refine goesL_ (some 8) rfl rfl Tryd.func19 (by kernel_rfl) rfl #[.string (⟨#[116, 97, 115, 107, 32, 97, 32, 112, 61, 50, 32, 99, 61, 49, 32, 116, 61, 57]⟩ : ByteArray)] rfl (by (try simp only [List.map_toArray, List.map_cons, List.map_nil]); first | done | rfl | (simp only [List.length_drop, List.length_take]; rfl)) ?_; (with_reducible refine (text_Parse.calls (⟨#[116, 97, 115, 107, 32, 97, 32, 112, 61, 50, 32, 99, 61, 49, 32, 116, 61, 57]⟩ : ByteArray) t107 t108 t109 _ A1.out).mono ?_); rintro e w23 ⟨v110, rfl, ho0, hb⟩; refine ⟨_, rfl, ?_⟩; have n0_ := Aside0.mk (Kd.R_lower ho0 (below_size (by repeat (first | (with_reducible first | exact HB.out | apply below_alloc | apply pw_below_drewN | apply below_drew1) | exact HB.out)))); have n1_ := Aside0.mk (below_step (by repeat (first | (with_reducible first | exact HB.out | apply below_alloc | apply pw_below_drewN | apply below_drew1) | exact HB.out)) hb); clear HB; have HO111 := n0_; have HB := n1_; clear n0_ n1_; (try clear hb); (try clear hb2); (try clear hk); (try clear hi); (try clear ho0)) | ((with_reducible refine gate_callee (f := 19) rfl ?_); refine goesL_ (some 13) rfl rfl Tryd.func19 (by kernel_rfl) rfl #[.string (⟨#[116, 97, 115, 107, 32, 97, 32, 99, 61, 49, 32, 99, 61, 50]⟩ : ByteArray)] rfl (by (try simp only [List.map_toArray, List.map_cons, List.map_nil]); first | done | rfl | (simp only [List.length_drop, List.length_take]; rfl)) ?_; (with_reducible refine (text_Parse.calls (⟨#[116, 97, 115, 107, 32, 97, 32, 99, 61, 49, 32, 99, 61, 50]⟩ : ByteArray) t112 t113 t114 _ A2.out).mono ?_); rintro e w24 ⟨v115, rfl, ho0, hb⟩; refine ⟨_, rfl, ?_⟩; have n0_ := Aside0.mk (Kd.R_elder' (by (with_reducible repeat (first | apply Kd.R_alloc | apply Kd.R_drewN | apply Kd.R_drew)); exact HO111.out) (Kd.R_base ho0) hb); have n1_ := Aside0.mk (Kd.R_lower (Kd.R_new' ho0 (Kd.R_lt (by (with_reducible repeat (first | apply Kd.R_alloc | apply Kd.R_drewN | apply Kd.R_drew)); exact HO111.out))) (below_size (by repeat (first | (with_reducible first | exact HB.out | apply below_alloc | apply pw_below_drewN | apply below_drew1) | exact HB.out)))); have n2_ := Aside0.mk (below_step (by repeat (first | (with_reducible first | exact HB.out | apply below_alloc | apply pw_below_drewN | apply below_drew1) | exact HB.out)) hb); clear HO111; clear HB; have HO111 := n0_; have HO116 := n1_; have HB := n2_; clear n0_ n1_ n2_; (try clear hb); (try clear hb2); (try clear hk); (try clear hi); (try clear ho0)))
    go_ret
    exact ⟨by first | rfl | (simp [errW_none, errW_some] <;> rfl) | (simp [*, errW_none, errW_some] <;> rfl), by repeat (first | (with_reducible first | exact HB.out | apply below_alloc | apply pw_below_drewN | apply below_drew1) | exact HB.out)⟩

/-! ### cadencyref04_rest: function 20 -/
def cadencyref04_rest.f (a0 : Int) (a1 : Int) : Option (Int) := if a1 = 0 then (none) else (some (Int.tmod (wrap64 ((Int.tmod a0 a1) + a1)) a1))
set_option maxHeartbeats 8000000 in
set_option maxRecDepth 100000 in
theorem cadencyref04_rest.calls (a0 : Int) (a1 : Int) (r : Int) (w : World) (h : cadencyref04_rest.f a0 a1 = some r) :
    Calls Tryd.prog 20 #[.int .i64 a0, .int .i64 a1] w fun e w' => e = .returned (.int .i64 r) ∧ Drawn0 w w' := by
  have H : (if a1 = 0 then (none) else (some (Int.tmod (wrap64 ((Int.tmod a0 a1) + a1)) a1))) = some r := h
  clear h
  by_cases c3 : a1 = 0
  · rw [if_pos c3] at H
    exact absurd H (by simp)
  · rw [if_neg c3] at H
    have c3b0 : (a1 == 0) = false := beq_eq_false_iff_ne.mpr c3
    have c3b1 : (a1 != 0) = true := bne_iff_ne.mpr c3
    obtain rfl := Option.some.inj H
    go_enter Tryd.func20, Tryd.ntmps20
    go_wp2
    go_ret
    exact ⟨by first | rfl | (simp; done) | (simp [*]; done), by repeat (first | exact Drawn0.refl _ | apply Drawn0.step)⟩

/-! ### cadencyref04_turns: function 21 -/
def cadencyref04_turns.f (a0 : Int) (a1 : Int) : Option (Int) := if a0 > 2 then (if a0 = 0 then (none) else ((cadencyref04_rest.f (wrap64 (Int.tdiv a1 a0)) 2).bind fun t118 => (if t118 = 1 then (some (wrap64 (a0 - 1))) else (some 1)))) else (some 1)
set_option maxHeartbeats 8000000 in
set_option maxRecDepth 100000 in
theorem cadencyref04_turns.calls (a0 : Int) (a1 : Int) (r : Int) (w : World) (h : cadencyref04_turns.f a0 a1 = some r) :
    Calls Tryd.prog 21 #[.int .i64 a0, .int .i64 a1] w fun e w' => e = .returned (.int .i64 r) ∧ Drawn0 w w' := by
  have H : (if a0 > 2 then (if a0 = 0 then (none) else ((cadencyref04_rest.f (wrap64 (Int.tdiv a1 a0)) 2).bind fun t118 => (if t118 = 1 then (some (wrap64 (a0 - 1))) else (some 1)))) else (some 1)) = some r := h
  clear h
  by_cases c3 : a0 > 2
  · rw [if_pos c3] at H
    have c3b0 : decide (2 < a0) = true := decide_eq_true c3
    clear c3
    by_cases c4 : a0 = 0
    · rw [if_pos c4] at H
      exact absurd H (by simp)
    · rw [if_neg c4] at H
      have c4b0 : (a0 == 0) = false := beq_eq_false_iff_ne.mpr c4
      have c4b1 : (a0 != 0) = true := bne_iff_ne.mpr c4
      replace H := Option.bind_eq_some_iff.mp H
      obtain ⟨t118, A50, H⟩ := H
      replace H : (if t118 = 1 then (some (wrap64 (a0 - 1))) else (some 1)) = some r := H
      have A5 := Aside0.mk A50
      clear A50
      by_cases c6 : t118 = 1
      · rw [if_pos c6] at H
        have c6b0 : (t118 == 1) = true := beq_iff_eq.mpr c6
        have c6b1 : (t118 != 1) = false := bne_eq_false_iff_eq.mpr c6
        clear c6
        obtain rfl := Option.some.inj H
        go_enter Tryd.func21, Tryd.ntmps21
        go_wp2_with (first | (go_at_call 20; (with_reducible refine (cadencyref04_rest.calls (wrap64 (Int.tdiv a1 a0)) 2 t118 _ A5.out).mono ?_); rintro e w' ⟨rfl, ⟨nd, rfl⟩⟩))
        go_ret
        exact ⟨by first | rfl | (simp; done) | (simp [*]; done), by repeat (first | exact Drawn0.refl _ | apply Drawn0.step)⟩
      · rw [if_neg c6] at H
        have c6b0 : (t118 == 1) = false := beq_eq_false_iff_ne.mpr c6
        have c6b1 : (t118 != 1) = true := bne_iff_ne.mpr c6
        obtain rfl := Option.some.inj H
        go_enter Tryd.func21, Tryd.ntmps21
        go_wp2_with (first | (go_at_call 20; (with_reducible refine (cadencyref04_rest.calls (wrap64 (Int.tdiv a1 a0)) 2 t118 _ A5.out).mono ?_); rintro e w' ⟨rfl, ⟨nd, rfl⟩⟩))
        go_ret
        exact ⟨by first | rfl | (simp; done) | (simp [*]; done), by repeat (first | exact Drawn0.refl _ | apply Drawn0.step)⟩
  · rw [if_neg c3] at H
    have c3b0 : decide (2 < a0) = false := decide_eq_false c3
    clear c3
    obtain rfl := Option.some.inj H
    go_enter Tryd.func21, Tryd.ntmps21
    go_wp2
    go_ret
    exact ⟨by first | rfl | (simp; done) | (simp [*]; done), by repeat (first | exact Drawn0.refl _ | apply Drawn0.step)⟩

/-! ### cadencyref04_SetT: function 8 -/
mutual
def cadencyref04_SetT.l0 : Nat → List (S43) → Int → Int → List (S29) → Int → Option ((List (S29)))
  | 0, _, _, _, _, _ => none
  | k + 1, x0, x1, x2, x7, x8 => if x8 < (x0.length : Int) then (cadencyref04_SetT.j1 k x0 x1 x2 x7 x8 (decide (x8 < x1))) else (cadencyref04_SetT.j1 k x0 x1 x2 x7 x8 false)
def cadencyref04_SetT.j1 : Nat → List (S43) → Int → Int → List (S29) → Int → Bool → Option ((List (S29)))
  | 0, _, _, _, _, _, _ => none
  | k + 1, x0, x1, x2, x7, x8, x30 => if x30 = true then (if 0 ≤ x8 then (if x8 < (x0.length : Int) then ((cadencyref04_rest.f ((rd_T43 x0 x8).f0) 4).bind fun t123 => ((cadencyref04_rest.f ((rd_T43 x0 x8).f1) 11).bind fun t125 => ((cadencyref04_rest.f ((rd_T43 x0 x8).f2) (wrap64 ((wrap64 ((wrap64 ((wrap64 (1 + t123)) + t125)) - (wrap64 (1 + t123)))) + 1))).bind fun t127 => ((cadencyref04_rest.f ((rd_T43 x0 x8).f4) 7).bind fun t129 => ((cadencyref04_rest.f ((rd_T43 x0 x8).f3) (wrap64 (1 + t123))).bind fun t131 => ((some (([(wrap64 (97 + x8)) % 256] : List Int) : List Int)).bind fun y132 => (if 1 + (strOfNums y132).size ≤ 9223372036854775807 then (if x7.length < 2199023255552 then (cadencyref04_SetT.l0 k x0 x1 x2 (x7 ++ [(⟨(⟨#[116]⟩ : ByteArray) ++ (strOfNums y132), wrap64 (1 + t123), wrap64 ((wrap64 ((wrap64 (1 + t123)) + t125)) + t129), wrap64 ((wrap64 (1 + t123)) + t125), t127, wrap64 (1 + t131), 0⟩ : S29)]) (wrap64 (x8 + 1))) else (none)) else (none)))))))) else (none)) else (none)) else (cadencyref04_SetT.l1 k x2 x7 (x7.length : Int) 0)
def cadencyref04_SetT.l1 : Nat → Int → List (S29) → Int → Int → Option ((List (S29)))
  | 0, _, _, _, _ => none
  | k + 1, x2, x7, x14, x15 => if x15 < x14 then ((cadencyref04_turns.f x14 x2).bind fun t138 => ((cadencyref04_rest.f x2 x14).bind fun t139 => (if x14 = 0 then (none) else (if 0 ≤ x15 then (if x15 < (x7.length : Int) then (cadencyref04_SetT.l1 k x2 (x7.set (x15 : Int).toNat (⟨(rd_T29 x7 x15).f0, (rd_T29 x7 x15).f1, (rd_T29 x7 x15).f2, (rd_T29 x7 x15).f3, (rd_T29 x7 x15).f4, (rd_T29 x7 x15).f5, wrap64 (1 + (Int.tmod (wrap64 ((wrap64 (x15 * t138)) + t139)) x14))⟩ : S29)) x14 (wrap64 (x15 + 1))) else (none)) else (none))))) else (some x7)
end
def cadencyref04_SetT.f (k : Nat) (l0 : List (S43)) (a1 : Int) (a2 : Int) : Option ((List (S29))) := if (l0.length : Int) = 0 then (cadencyref04_SetT.l0 k (([(⟨a2, 0, 0, 0, 0⟩ : S43)] : List (S43))) a1 a2 ([] : List (S29)) 0) else (none)
set_option maxHeartbeats 8000000 in
set_option maxRecDepth 100000 in
theorem cadencyref04_SetT.calls (k : Nat) (A0 : Option Addr) (c0 : Nat) (l0 : List (S43)) (a1 : Int) (a2 : Int) (r : List (S29)) (w : World) (hr0 : Kd.C k43 w A0 l0.length l0) (hc0 : l0.length ≤ c0) (h : cadencyref04_SetT.f k l0 a1 a2 = some r) :
    Calls Tryd.prog 8 #[.slice A0 l0.length c0, .int .i64 a1, .int .i64 a2] w fun e w' => ∃ v0_ : Value, e = .returned (v0_) ∧ Kd.R k29 29 w' w.heap.size (fun _ => True) v0_ r ∧ Below w.heap.size w w' := by
  have hu43 := Tryd.underlying43
  have hu29 := Tryd.underlying29
  have HR0 := Aside0.mk hr0
  have HC0 := Aside0.mk hc0
  clear hr0 hc0
  have HB := Aside0.mk (Below.refl w.heap.size w)
  have H : (if (l0.length : Int) = 0 then (cadencyref04_SetT.l0 k (([(⟨a2, 0, 0, 0, 0⟩ : S43)] : List (S43))) a1 a2 ([] : List (S29)) 0) else (none)) = some r := h
  clear h
  by_cases c4 : (l0.length : Int) = 0
  · rw [if_pos c4] at H
    have c4b0 : ((l0.length : Int) == 0) = true := beq_iff_eq.mpr c4
    have c4b1 : ((l0.length : Int) != 0) = false := bne_eq_false_iff_eq.mpr c4
    clear c4
    obtain ⟨y119, hy119⟩ : ∃ y_ : List (S43), y_ = (([(⟨a2, 0, 0, 0, 0⟩ : S43)] : List (S43))) := ⟨_, rfl⟩
    replace H : (cadencyref04_SetT.l0 k y119 a1 a2 ([] : List (S29)) 0) = some r := by first | (rw [hy119]; with_reducible exact H) | (have H2_ := (Option.bind_some _ _).symm.trans H; rw [hy119]; with_reducible exact H2_) | (have H2_ := (Option.bind_some _ _).symm.trans H; with_reducible exact H2_) | with_reducible exact H | (rw [hy119]; exact H) | exact H
    have Ny119 := Aside0.mk hy119
    clear hy119
    have H' := Aside0.mk H
    clear H
    go_enter Tryd.func8, Tryd.ntmps8
    go_wp2_with (first | ((with_reducible refine gate_dst (N := 21) rfl ?_); refine Kd.R_lit k43 _ 43 ?hg (N := 21) ?hd (xs := ([(⟨a2, 0, 0, 0, 0⟩ : S43)] : List (S43))) (inner := [.int .i64 a2, .int .i64 0, .int .i64 0, .int .i64 0, .int .i64 0]) (ok := fun _ => True) (okp := fun _ => True) ?hr ?hp (fun _ hk => hk) trivial (Below.refl _ _) (Nat.le_refl _) (by simp) ?_; (case hd => rfl); (case hg => rfl); (case hr => first | (go_simp; done) | (go_simp; rfl)); (case hp => exact (Reps.c5 (show Kd.M k43 _ _ _ (⟨a2, 0, 0, 0, 0⟩ : S43) [.int .i64 a2, .int .i64 0, .int .i64 0, .int .i64 0, .int .i64 0] from (k43_mkM _ _ _ (⟨a2, 0, 0, 0, 0⟩ : S43) )) (Reps.none _ _))); intro v120 w5 ho6 hb hg_ hnew_; clear hg_ hnew_; (first | rw [← Ny119.out] at ho6 | (simp only [Int.reduceToNat] at ho6; rw [← Ny119.out] at ho6)); have n0_ := Aside0.mk (Kd.R_lower ho6 (below_size (by repeat (first | (with_reducible first | exact HB.out | apply below_alloc | apply pw_below_drewN | apply below_drew1) | exact HB.out)))); have n1_ := Aside0.mk (below_step (by repeat (first | (with_reducible first | exact HB.out | apply below_alloc | apply pw_below_drewN | apply below_drew1) | exact HB.out)) hb); clear HB; have HO121 := n0_; have HB := n1_; clear n0_ n1_; clear hb ho6))
    go_loopg [7, 8] k (fun kq v7 v8 w' => ∃ (x7_1 : List (S29)) (x8_1 : Int), v8 = .int .i64 x8_1 ∧ Aside0 (cadencyref04_SetT.l0 kq y119 a1 a2 x7_1 x8_1 = some r) ∧ Aside0 (kq ≤ k) ∧ Aside0 (Kd.R k43 43 w' w.heap.size (fun _ => True) v120 y119) ∧ Aside0 (Kd.R k29 29 w' w.heap.size (fun _ => True) v7 x7_1) ∧ Aside0 (Below w.heap.size w w'))
    case atStart => exact ⟨(([] : List (S29))), (0), (by first | rfl | (simp; done) | (simp [*]; done)), H', ⟨Nat.le_refl _⟩, ⟨by (with_reducible repeat (first | apply Kd.R_alloc | apply Kd.R_drewN | apply Kd.R_drew)); exact HO121.out⟩, ⟨by first | exact Kd.R_nil _ _ _ _ _ | exact Kd.N_nil _ _ _ _ _ | exact Kd.V_nil _ _ _ _ _ | exact Kd.Q_nil _ _ _ _ _ | exact Kd.S_nil _ _ _ _ _⟩, ⟨by repeat (first | (with_reducible first | exact HB.out | apply below_alloc | apply pw_below_drewN | apply below_drew1) | exact HB.out)⟩⟩
    case round =>
      clear H'
      try clear p2
      try clear c4
      try clear c4b0
      try clear c4b1
      try clear c5
      obtain ⟨x7_1, x8_1, rfl, HA, HK1, HO_0, HO_7, HB⟩ := hrel
      cases gk with
      | zero => exact absurd HA.out (by simp [cadencyref04_SetT.l0])
      | succ k1 =>
        have H := HA.out
        clear HA
        simp only [cadencyref04_SetT.l0] at H
        have HC7 := Aside0.mk H
        clear H
        go_upto_region 5 with (fail)
        go_cut [30] (fun v30 wc => ∃ (kq : Nat) (x30_6 : Bool), v30 = .bool x30_6 ∧ Aside0 (cadencyref04_SetT.j1 kq y119 a1 a2 x7_1 x8_1 x30_6 = some r) ∧ Aside0 (kq ≤ k1) ∧ Aside0 (Kd.R k43 43 wc w.heap.size (fun _ => True) v120 y119) ∧ Aside0 (Kd.R k29 29 wc w.heap.size (fun _ => True) u7 x7_1) ∧ Aside0 (Below w.heap.size w wc))
        case first =>
          have H := HC7.out
          clear HC7
          by_cases c8 : x8_1 < (y119.length : Int)
          · rw [if_pos c8] at H
            have c8b0 : decide (x8_1 < (y119.length : Int)) = true := decide_eq_true c8
            clear c8
            (first | rw [c8b0] | (simp only [i64_w, i32_w]; rw [c8b0]) | skip)
            have H' := Aside0.mk H
            clear H
            obtain ⟨Ao9, co9, eo9⟩ := Kd.R_slice HO_0.out
            subst eo9
            go_wp2
            go_meet
            case rel => exact ⟨_, (decide (x8_1 < a1)), (by first | rfl | (simp; done) | (simp [*]; done)), H', ⟨by have := HK1.out; first | omega | exact Nat.le_refl _⟩, ⟨by (with_reducible repeat (first | apply Kd.R_alloc | apply Kd.R_drewN | apply Kd.R_drew)); exact HO_0.out⟩, ⟨by (with_reducible repeat (first | apply Kd.R_alloc | apply Kd.R_drewN | apply Kd.R_drew)); exact HO_7.out⟩, ⟨by repeat (first | (with_reducible first | exact HB.out | apply below_alloc | apply pw_below_drewN | apply below_drew1) | exact HB.out)⟩⟩
          · rw [if_neg c8] at H
            have c8b0 : decide (x8_1 < (y119.length : Int)) = false := decide_eq_false c8
            clear c8
            (first | rw [c8b0] | (simp only [i64_w, i32_w]; rw [c8b0]) | skip)
            have H' := Aside0.mk H
            clear H
            obtain ⟨Ao10, co10, eo10⟩ := Kd.R_slice HO_0.out
            subst eo10
            go_wp2
            go_meet
            case rel => exact ⟨_, (false), (by first | rfl | (simp; done) | (simp [*]; done)), H', ⟨by have := HK1.out; first | omega | exact Nat.le_refl _⟩, ⟨by (with_reducible repeat (first | apply Kd.R_alloc | apply Kd.R_drewN | apply Kd.R_drew)); exact HO_0.out⟩, ⟨by (with_reducible repeat (first | apply Kd.R_alloc | apply Kd.R_drewN | apply Kd.R_drew)); exact HO_7.out⟩, ⟨by repeat (first | (with_reducible first | exact HB.out | apply below_alloc | apply pw_below_drewN | apply below_drew1) | exact HB.out)⟩⟩
        case rest =>
          clear HC7
          try clear p2
          try clear c4
          try clear c4b0
          try clear c4b1
          try clear c5
          try clear c8
          try clear c8b0
          try clear p2
          obtain ⟨kq, x30_6, rfl, HA, HJ6, HO_0, HO_7, HB⟩ := hcut
          cases kq with
          | zero => exact absurd HA.out (by simp [cadencyref04_SetT.j1])
          | succ kj6 =>
            have H := HA.out
            clear HA
            simp only [cadencyref04_SetT.j1] at H
            by_cases c11 : x30_6 = true
            · subst c11
              have H1 : (if 0 ≤ x8_1 then (if x8_1 < (y119.length : Int) then ((cadencyref04_rest.f ((rd_T43 y119 x8_1).f0) 4).bind fun t123 => ((cadencyref04_rest.f ((rd_T43 y119 x8_1).f1) 11).bind fun t125 => ((cadencyref04_rest.f ((rd_T43 y119 x8_1).f2) (wrap64 ((wrap64 ((wrap64 ((wrap64 (1 + t123)) + t125)) - (wrap64 (1 + t123)))) + 1))).bind fun t127 => ((cadencyref04_rest.f ((rd_T43 y119 x8_1).f4) 7).bind fun t129 => ((cadencyref04_rest.f ((rd_T43 y119 x8_1).f3) (wrap64 (1 + t123))).bind fun t131 => ((some (([(wrap64 (97 + x8_1)) % 256] : List Int) : List Int)).bind fun y132 => (if 1 + (strOfNums y132).size ≤ 9223372036854775807 then (if x7_1.length < 2199023255552 then (cadencyref04_SetT.l0 kj6 y119 a1 a2 (x7_1 ++ [(⟨(⟨#[116]⟩ : ByteArray) ++ (strOfNums y132), wrap64 (1 + t123), wrap64 ((wrap64 ((wrap64 (1 + t123)) + t125)) + t129), wrap64 ((wrap64 (1 + t123)) + t125), t127, wrap64 (1 + t131), 0⟩ : S29)]) (wrap64 (x8_1 + 1))) else (none)) else (none)))))))) else (none)) else (none)) = some r := by rw [if_pos rfl] at H; exact H
              clear H
              have H := H1
              clear H1
              by_cases c12 : 0 ≤ x8_1
              · rw [if_pos c12] at H
                have c12b0 : decide (0 ≤ x8_1) = true := decide_eq_true c12
                clear c12
                by_cases c13 : x8_1 < (y119.length : Int)
                · rw [if_pos c13] at H
                  have c13b0 : decide (x8_1 < (y119.length : Int)) = true := decide_eq_true c13
                  clear c13
                  replace H := Option.bind_eq_some_iff.mp H
                  obtain ⟨t123, A140, H⟩ := H
                  replace H : ((cadencyref04_rest.f ((rd_T43 y119 x8_1).f1) 11).bind fun t125 => ((cadencyref04_rest.f ((rd_T43 y119 x8_1).f2) (wrap64 ((wrap64 ((wrap64 ((wrap64 (1 + t123)) + t125)) - (wrap64 (1 + t123)))) + 1))).bind fun t127 => ((cadencyref04_rest.f ((rd_T43 y119 x8_1).f4) 7).bind fun t129 => ((cadencyref04_rest.f ((rd_T43 y119 x8_1).f3) (wrap64 (1 + t123))).bind fun t131 => ((some (([(wrap64 (97 + x8_1)) % 256] : List Int) : List Int)).bind fun y132 => (if 1 + (strOfNums y132).size ≤ 9223372036854775807 then (if x7_1.length < 2199023255552 then (cadencyref04_SetT.l0 kj6 y119 a1 a2 (x7_1 ++ [(⟨(⟨#[116]⟩ : ByteArray) ++ (strOfNums y132), wrap64 (1 + t123), wrap64 ((wrap64 ((wrap64 (1 + t123)) + t125)) + t129), wrap64 ((wrap64 (1 + t123)) + t125), t127, wrap64 (1 + t131), 0⟩ : S29)]) (wrap64 (x8_1 + 1))) else (none)) else (none))))))) = some r := H
                  have A14 := Aside0.mk A140
                  clear A140
                  replace H := Option.bind_eq_some_iff.mp H
                  obtain ⟨t125, A150, H⟩ := H
                  replace H : ((cadencyref04_rest.f ((rd_T43 y119 x8_1).f2) (wrap64 ((wrap64 ((wrap64 ((wrap64 (1 + t123)) + t125)) - (wrap64 (1 + t123)))) + 1))).bind fun t127 => ((cadencyref04_rest.f ((rd_T43 y119 x8_1).f4) 7).bind fun t129 => ((cadencyref04_rest.f ((rd_T43 y119 x8_1).f3) (wrap64 (1 + t123))).bind fun t131 => ((some (([(wrap64 (97 + x8_1)) % 256] : List Int) : List Int)).bind fun y132 => (if 1 + (strOfNums y132).size ≤ 9223372036854775807 then (if x7_1.length < 2199023255552 then (cadencyref04_SetT.l0 kj6 y119 a1 a2 (x7_1 ++ [(⟨(⟨#[116]⟩ : ByteArray) ++ (strOfNums y132), wrap64 (1 + t123), wrap64 ((wrap64 ((wrap64 (1 + t123)) + t125)) + t129), wrap64 ((wrap64 (1 + t123)) + t125), t127, wrap64 (1 + t131), 0⟩ : S29)]) (wrap64 (x8_1 + 1))) else (none)) else (none)))))) = some r := H
                  have A15 := Aside0.mk A150
                  clear A150
                  replace H := Option.bind_eq_some_iff.mp H
                  obtain ⟨t127, A160, H⟩ := H
                  replace H : ((cadencyref04_rest.f ((rd_T43 y119 x8_1).f4) 7).bind fun t129 => ((cadencyref04_rest.f ((rd_T43 y119 x8_1).f3) (wrap64 (1 + t123))).bind fun t131 => ((some (([(wrap64 (97 + x8_1)) % 256] : List Int) : List Int)).bind fun y132 => (if 1 + (strOfNums y132).size ≤ 9223372036854775807 then (if x7_1.length < 2199023255552 then (cadencyref04_SetT.l0 kj6 y119 a1 a2 (x7_1 ++ [(⟨(⟨#[116]⟩ : ByteArray) ++ (strOfNums y132), wrap64 (1 + t123), wrap64 ((wrap64 ((wrap64 (1 + t123)) + t125)) + t129), wrap64 ((wrap64 (1 + t123)) + t125), t127, wrap64 (1 + t131), 0⟩ : S29)]) (wrap64 (x8_1 + 1))) else (none)) else (none))))) = some r := H
                  have A16 := Aside0.mk A160
                  clear A160
                  replace H := Option.bind_eq_some_iff.mp H
                  obtain ⟨t129, A170, H⟩ := H
                  replace H : ((cadencyref04_rest.f ((rd_T43 y119 x8_1).f3) (wrap64 (1 + t123))).bind fun t131 => ((some (([(wrap64 (97 + x8_1)) % 256] : List Int) : List Int)).bind fun y132 => (if 1 + (strOfNums y132).size ≤ 9223372036854775807 then (if x7_1.length < 2199023255552 then (cadencyref04_SetT.l0 kj6 y119 a1 a2 (x7_1 ++ [(⟨(⟨#[116]⟩ : ByteArray) ++ (strOfNums y132), wrap64 (1 + t123), wrap64 ((wrap64 ((wrap64 (1 + t123)) + t125)) + t129), wrap64 ((wrap64 (1 + t123)) + t125), t127, wrap64 (1 + t131), 0⟩ : S29)]) (wrap64 (x8_1 + 1))) else (none)) else (none)))) = some r := H
                  have A17 := Aside0.mk A170
                  clear A170
                  replace H := Option.bind_eq_some_iff.mp H
                  obtain ⟨t131, A180, H⟩ := H
                  replace H : ((some (([(wrap64 (97 + x8_1)) % 256] : List Int) : List Int)).bind fun y132 => (if 1 + (strOfNums y132).size ≤ 9223372036854775807 then (if x7_1.length < 2199023255552 then (cadencyref04_SetT.l0 kj6 y119 a1 a2 (x7_1 ++ [(⟨(⟨#[116]⟩ : ByteArray) ++ (strOfNums y132), wrap64 (1 + t123), wrap64 ((wrap64 ((wrap64 (1 + t123)) + t125)) + t129), wrap64 ((wrap64 (1 + t123)) + t125), t127, wrap64 (1 + t131), 0⟩ : S29)]) (wrap64 (x8_1 + 1))) else (none)) else (none))) = some r := H
                  have A18 := Aside0.mk A180
                  clear A180
                  obtain ⟨y132, hy132⟩ : ∃ y_ : List Int, y_ = (([(wrap64 (97 + x8_1)) % 256] : List Int)) := ⟨_, rfl⟩
                  replace H : (if 1 + (strOfNums y132).size ≤ 9223372036854775807 then (if x7_1.length < 2199023255552 then (cadencyref04_SetT.l0 kj6 y119 a1 a2 (x7_1 ++ [(⟨(⟨#[116]⟩ : ByteArray) ++ (strOfNums y132), wrap64 (1 + t123), wrap64 ((wrap64 ((wrap64 (1 + t123)) + t125)) + t129), wrap64 ((wrap64 (1 + t123)) + t125), t127, wrap64 (1 + t131), 0⟩ : S29)]) (wrap64 (x8_1 + 1))) else (none)) else (none)) = some r := by first | (rw [hy132]; with_reducible exact H) | (have H2_ := (Option.bind_some _ _).symm.trans H; rw [hy132]; with_reducible exact H2_) | (have H2_ := (Option.bind_some _ _).symm.trans H; with_reducible exact H2_) | with_reducible exact H | (rw [hy132]; exact H) | exact H
                  have Ny132 := Aside0.mk hy132
                  clear hy132
                  by_cases c19 : 1 + (strOfNums y132).size ≤ 9223372036854775807
                  · rw [if_pos c19] at H
                    have c19b0 := eq_true c19
                    have c19b1 : decide (1 + (strOfNums y132).size ≤ 9223372036854775807) = true := decide_eq_true c19
                    try have c19b2 : (9223372036854775807 < 1 + (strOfNums y132).size) = False := eq_false (Nat.not_lt.2 c19)
                    by_cases c20 : x7_1.length < 2199023255552
                    · rw [if_pos c20] at H
                      have LMc20 := Aside0.mk c20
                      clear c20
                      obtain ⟨y135, hy135⟩ : ∃ y_ : List (S29), y_ = (x7_1 ++ [(⟨(⟨#[116]⟩ : ByteArray) ++ (strOfNums y132), wrap64 (1 + t123), wrap64 ((wrap64 ((wrap64 (1 + t123)) + t125)) + t129), wrap64 ((wrap64 (1 + t123)) + t125), t127, wrap64 (1 + t131), 0⟩ : S29)]) := ⟨_, rfl⟩
                      replace H : (cadencyref04_SetT.l0 kj6 y119 a1 a2 y135 (wrap64 (x8_1 + 1))) = some r := by first | (rw [hy135]; with_reducible exact H) | (have H2_ := (Option.bind_some _ _).symm.trans H; rw [hy135]; with_reducible exact H2_) | (have H2_ := (Option.bind_some _ _).symm.trans H; with_reducible exact H2_) | with_reducible exact H | (rw [hy135]; exact H) | exact H
                      have Ny135 := Aside0.mk hy135
                      clear hy135
                      have H' := Aside0.mk H
                      clear H
                      obtain ⟨Ao21, co21, eo21⟩ := Kd.R_slice HO_0.out
                      subst eo21
                      have p122 : 0 ≤ (x8_1 : Int) := of_decide_eq_true (by first | (with_reducible assumption) | assumption)
                      have q122 : x8_1 < (y119.length : Int) := of_decide_eq_true (by first | (with_reducible assumption) | assumption)
                      obtain ⟨ad122, e122, hx122_0, hx122_1, hx122_2, hx122_3, hx122_4⟩ := at_T43 (Kd.R_reads' HO_0.out).2.2 x8_1 p122 q122
                      cases e122
                      replace p122 := eq_true p122
                      replace q122 := eq_true q122
                      go_wp2_with (first | ((with_reducible refine gate_callee (f := 20) rfl ?_); refine goesL_ (some 38) rfl rfl Tryd.func20 (by kernel_rfl) rfl #[.int .i64 ((rd_T43 y119 x8_1).f0), .int .i64 4] rfl (by (try simp only [List.map_toArray, List.map_cons, List.map_nil]); first | done | rfl | (simp only [List.length_drop, List.length_take]; rfl)) ?_; (with_reducible refine (cadencyref04_rest.calls ((rd_T43 y119 x8_1).f0) 4 t123 _ A14.out).mono ?_); rintro e w' ⟨rfl, ⟨nd, rfl⟩⟩; refine ⟨_, rfl, ?_⟩; have p124 : 0 ≤ (x8_1 : Int) := of_decide_eq_true (by first | (with_reducible assumption) | assumption); have q124 : x8_1 < (y119.length : Int) := of_decide_eq_true (by first | (with_reducible assumption) | assumption); obtain ⟨ad124, e124, hx124_0, hx124_1, hx124_2, hx124_3, hx124_4⟩ := at_T43 (Kd.R_reads' HO_0.out).2.2 x8_1 p124 q124; obtain rfl : ad122 = ad124 := (by injection e124); replace p124 := eq_true p124; replace q124 := eq_true q124) | ((with_reducible refine gate_callee (f := 20) rfl ?_); refine goesL_ (some 46) rfl rfl Tryd.func20 (by kernel_rfl) rfl #[.int .i64 ((rd_T43 y119 x8_1).f1), .int .i64 11] rfl (by (try simp only [List.map_toArray, List.map_cons, List.map_nil]); first | done | rfl | (simp only [List.length_drop, List.length_take]; rfl)) ?_; (with_reducible refine (cadencyref04_rest.calls ((rd_T43 y119 x8_1).f1) 11 t125 _ A15.out).mono ?_); rintro e w' ⟨rfl, ⟨nd, rfl⟩⟩; refine ⟨_, rfl, ?_⟩; have p126 : 0 ≤ (x8_1 : Int) := of_decide_eq_true (by first | (with_reducible assumption) | assumption); have q126 : x8_1 < (y119.length : Int) := of_decide_eq_true (by first | (with_reducible assumption) | assumption); obtain ⟨ad126, e126, hx126_0, hx126_1, hx126_2, hx126_3, hx126_4⟩ := at_T43 (Kd.R_reads' HO_0.out).2.2 x8_1 p126 q126; obtain rfl : ad122 = ad126 := (by injection e126); replace p126 := eq_true p126; replace q126 := eq_true q126) | ((with_reducible refine gate_callee (f := 20) rfl ?_); refine goesL_ (some 57) rfl rfl Tryd.func20 (by kernel_rfl) rfl #[.int .i64 ((rd_T43 y119 x8_1).f2), .int .i64 (wrap64 ((wrap64 ((wrap64 ((wrap64 (1 + t123)) + t125)) - (wrap64 (1 + t123)))) + 1))] rfl (by (try simp only [List.map_toArray, List.map_cons, List.map_nil]); first | done | rfl | (simp only [List.length_drop, List.length_take]; rfl)) ?_; (with_reducible refine (cadencyref04_rest.calls ((rd_T43 y119 x8_1).f2) (wrap64 ((wrap64 ((wrap64 ((wrap64 (1 + t123)) + t125)) - (wrap64 (1 + t123)))) + 1)) t127 _ A16.out).mono ?_); rintro e w' ⟨rfl, ⟨nd, rfl⟩⟩; refine ⟨_, rfl, ?_⟩; have p128 : 0 ≤ (x8_1 : Int) := of_decide_eq_true (by first | (with_reducible assumption) | assumption); have q128 : x8_1 < (y119.length : Int) := of_decide_eq_true (by first | (with_reducible assumption) | assumption); obtain ⟨ad128, e128, hx128_0, hx128_1, hx128_2, hx128_3, hx128_4⟩ := at_T43 (Kd.R_reads' HO_0.out).2.2 x8_1 p128 q128; obtain rfl : ad122 = ad128 := (by injection e128); replace p128 := eq_true p128; replace q128 := eq_true q128) | ((with_reducible refine gate_callee (f := 20) rfl ?_); refine goesL_ (some 64) rfl rfl Tryd.func20 (by kernel_rfl) rfl #[.int .i64 ((rd_T43 y119 x8_1).f4), .int .i64 7] rfl (by (try simp only [List.map_toArray, List.map_cons, List.map_nil]); first | done | rfl | (simp only [List.length_drop, List.length_take]; rfl)) ?_; (with_reducible refine (cadencyref04_rest.calls ((rd_T43 y119 x8_1).f4) 7 t129 _ A17.out).mono ?_); rintro e w' ⟨rfl, ⟨nd, rfl⟩⟩; refine ⟨_, rfl, ?_⟩; have p130 : 0 ≤ (x8_1 : Int) := of_decide_eq_true (by first | (with_reducible assumption) | assumption); have q130 : x8_1 < (y119.length : Int) := of_decide_eq_true (by first | (with_reducible assumption) | assumption); obtain ⟨ad130, e130, hx130_0, hx130_1, hx130_2, hx130_3, hx130_4⟩ := at_T43 (Kd.R_reads' HO_0.out).2.2 x8_1 p130 q130; obtain rfl : ad122 = ad130 := (by injection e130); replace p130 := eq_true p130; replace q130 := eq_true q130) | ((with_reducible refine gate_callee (f := 20) rfl ?_); refine goesL_ (some 72) rfl rfl Tryd.func20 (by kernel_rfl) rfl #[.int .i64 ((rd_T43 y119 x8_1).f3), .int .i64 (wrap64 (1 + t123))] rfl (by (try simp only [List.map_toArray, List.map_cons, List.map_nil]); first | done | rfl | (simp only [List.length_drop, List.length_take]; rfl)) ?_; (with_reducible refine (cadencyref04_rest.calls ((rd_T43 y119 x8_1).f3) (wrap64 (1 + t123)) t131 _ A18.out).mono ?_); rintro e w' ⟨rfl, ⟨nd, rfl⟩⟩; refine ⟨_, rfl, ?_⟩) | ((with_reducible refine gate_dst (N := 78) rfl ?_); refine Kd.R_lit (Kd.int .u8) _ 5 ?hg (N := 78) ?hd (xs := ([(wrap64 (97 + x8_1)) % 256] : List Int)) (inner := [.int .u8 ((wrap64 (97 + x8_1)) % 256)]) (ok := fun _ => True) (okp := fun _ => True) ?hr ?hp (fun _ hk => hk) trivial (Below.refl _ _) (Nat.le_refl _) (by simp) ?_; (case hd => rfl); (case hg => rfl); (case hr => first | (go_simp; done) | (go_simp; rfl)); (case hp => exact (Reps.one (show Kd.M (Kd.int .u8) _ _ _ ((wrap64 (97 + x8_1)) % 256) [.int .u8 ((wrap64 (97 + x8_1)) % 256)] from rfl) (Reps.none _ _))); intro v133 w22 ho23 hb hg_ hnew_; clear hg_ hnew_; (first | rw [← Ny132.out] at ho23 | (simp only [Int.reduceToNat] at ho23; rw [← Ny132.out] at ho23)); have n0_ := Aside0.mk (Kd.R_below (by (with_reducible repeat (first | apply Kd.R_alloc | apply Kd.R_drewN | apply Kd.R_drew)); exact HO_0.out) hb); have n1_ := Aside0.mk (Kd.R_below (by (with_reducible repeat (first | apply Kd.R_alloc | apply Kd.R_drewN | apply Kd.R_drew)); exact HO_7.out) hb); have n2_ := Aside0.mk (Kd.R_lower ho23 (below_size (by repeat (first | (with_reducible first | exact HB.out | apply below_alloc | apply pw_below_drewN | apply below_drew1) | exact HB.out)))); have n3_ := Aside0.mk (below_step (by repeat (first | (with_reducible first | exact HB.out | apply below_alloc | apply pw_below_drewN | apply below_drew1) | exact HB.out)) hb); clear HO_0; clear HO_7; clear HB; have HO_0 := n0_; have HO_7 := n1_; have HO134 := n2_; have HB := n3_; clear n0_ n1_ n2_ n3_; clear hb ho23; have hcv24 := own_string (P := Tryd.prog) Tryd.underlying45 Tryd.underlying5 Tryd.underlying9 (Kd.own_of_R HO134.out)) | ((with_reducible refine gate_builtin (b := .append) (xs := #[.tmp 74, .tmp 87]) rfl ?_); at_builtin; refine Kd.R_append k29 (w0 := w) w.heap.size rfl (.tmp 74) (.tmp 87) 22 29 (.agg #[(.string ⟨#[]⟩), (.int .i64 0), (.int .i64 0), (.int .i64 0), (.int .i64 0), (.int .i64 0), (.int .i64 0)]) 64 rfl Tryd.underlying22 info29 rfl (by decide) (by omega) u7 x7_1 (⟨(⟨#[116]⟩ : ByteArray) ++ (strOfNums y132), wrap64 (1 + t123), wrap64 ((wrap64 ((wrap64 (1 + t123)) + t125)) + t129), wrap64 ((wrap64 (1 + t123)) + t125), t127, wrap64 (1 + t131), 0⟩ : S29) [.string ((⟨#[116]⟩ : ByteArray) ++ (strOfNums y132)), .int .i64 (wrap64 (1 + t123)), .int .i64 (wrap64 ((wrap64 ((wrap64 (1 + t123)) + t125)) + t129)), .int .i64 (wrap64 ((wrap64 (1 + t123)) + t125)), .int .i64 t127, .int .i64 (wrap64 (1 + t131)), .int .i64 0] (fun _ => True) (fun _ => False) rfl rfl ?aP (fun _ hk => hk.elim) ?aF ?aO ?aB ?aS ?aL ?_; (case aP => exact k29_mkM _ _ _ (⟨(⟨#[116]⟩ : ByteArray) ++ (strOfNums y132), wrap64 (1 + t123), wrap64 ((wrap64 ((wrap64 (1 + t123)) + t125)) + t129), wrap64 ((wrap64 (1 + t123)) + t125), t127, wrap64 (1 + t131), 0⟩ : S29)); (case aB => exact (by repeat (first | (with_reducible first | exact HB.out | apply below_alloc | apply pw_below_drewN | apply below_drew1) | exact HB.out))); (case aF => exact (fun _ _ => trivial)); (case aO => exact (by (with_reducible repeat (first | apply Kd.R_alloc | apply Kd.R_drewN | apply Kd.R_drew)); exact HO_7.out)); (case aS => exact (below_size (by repeat (first | (with_reducible first | exact HB.out | apply below_alloc | apply pw_below_drewN | apply below_drew1) | exact HB.out)))); (case aL => have := LMc20.out; omega); intro v136 w25 ho hb hg hat; rw [← Ny135.out] at ho; have n0_ := Aside0.mk (Kd.R_over' (by (with_reducible repeat (first | apply Kd.R_alloc | apply Kd.R_drewN | apply Kd.R_drew)); exact HO_0.out) (Kd.R_typed (by (with_reducible repeat (first | apply Kd.R_alloc | apply Kd.R_drewN | apply Kd.R_drew)); exact HO_7.out)) (by decide) hg); have n1_ := Aside0.mk (Kd.R_over' (by (with_reducible repeat (first | apply Kd.R_alloc | apply Kd.R_drewN | apply Kd.R_drew)); exact HO134.out) (Kd.R_typed (by (with_reducible repeat (first | apply Kd.R_alloc | apply Kd.R_drewN | apply Kd.R_drew)); exact HO_7.out)) (by decide) hg); have n2_ := Aside0.mk (hb); have n3_ := Aside0.mk (ho); clear HO_0; clear HO134; clear HB; clear HO_7; have HO_0 := n0_; have HO134 := n1_; have HB := n2_; have HO137 := n3_; clear n0_ n1_ n2_ n3_; clear ho hb hg hat))
                      go_roundg kj6
                      case measure => have := HK1.out; have := HJ6.out; omega
                      case rel => exact ⟨(y135), (wrap64 (x8_1 + 1)), (by first | rfl | (simp; done) | (simp [*]; done)), H', ⟨by have := HK1.out; have := HJ6.out; omega⟩, ⟨by (with_reducible repeat (first | apply Kd.R_alloc | apply Kd.R_drewN | apply Kd.R_drew)); exact HO_0.out⟩, ⟨by (with_reducible repeat (first | apply Kd.R_alloc | apply Kd.R_drewN | apply Kd.R_drew)); exact HO137.out⟩, ⟨by repeat (first | (with_reducible first | exact HB.out | apply below_alloc | apply pw_below_drewN | apply below_drew1) | exact HB.out)⟩⟩
                    · rw [if_neg c20] at H
                      exact absurd H (by simp)
                  · rw [if_neg c19] at H
                    exact absurd H (by simp)
                · rw [if_neg c13] at H
                  exact absurd H (by simp)
              · rw [if_neg c12] at H
                exact absurd H (by simp)
            · replace c11 := Bool.eq_false_iff.mpr c11
              subst c11
              have H1 : (cadencyref04_SetT.l1 kj6 a2 x7_1 (x7_1.length : Int) 0) = some r := by rw [if_neg (show ¬ (false = true) by decide)] at H; exact H
              clear H
              have H := H1
              clear H1
              have H' := Aside0.mk H
              clear H
              obtain ⟨Ao26, co26, eo26⟩ := Kd.R_slice HO_7.out
              subst eo26
              go_wp2
              go_loopg [15] kj6 (fun kq v15 w' => ∃ (x7_3 : List (S29)) (x15_3 : Int), v15 = .int .i64 x15_3 ∧ Aside0 (cadencyref04_SetT.l1 kq a2 x7_3 (x7_1.length : Int) x15_3 = some r) ∧ Aside0 (kq ≤ kj6) ∧ Aside0 (Kd.R k29 29 w' w.heap.size (fun _ => True) (.slice Ao26 x7_1.length co26) x7_3) ∧ Aside0 (Below w.heap.size w w'))
              case atStart => exact ⟨(x7_1), (0), (by first | rfl | (simp; done) | (simp [*]; done)), H', ⟨Nat.le_refl _⟩, ⟨by (with_reducible repeat (first | apply Kd.R_alloc | apply Kd.R_drewN | apply Kd.R_drew)); exact HO_7.out⟩, ⟨by repeat (first | (with_reducible first | exact HB.out | apply below_alloc | apply pw_below_drewN | apply below_drew1) | exact HB.out)⟩⟩
              case round =>
                clear H'
                try clear c1
                try clear p1
                try clear q1
                try clear hx1
                try clear c2
                try clear p2
                try clear hcv2
                try clear c4
                try clear c4b0
                try clear c4b1
                try clear c5
                try clear p6
                try clear c8
                try clear c8b0
                try clear c11
                try clear c12
                try clear c12b0
                try clear p12
                try clear q12
                try clear hx12
                try clear c13
                try clear c13b0
                try clear p13
                try clear q13
                try clear hx13
                try clear c19
                try clear c19b0
                try clear c19b1
                try clear c19b2
                try clear c20
                try clear hcv24
                try clear hx122_0
                try clear hx122_1
                try clear hx122_2
                try clear hx122_3
                try clear hx122_4
                try clear hx124_0
                try clear hx124_1
                try clear hx124_2
                try clear hx124_3
                try clear hx124_4
                try clear hx126_0
                try clear hx126_1
                try clear hx126_2
                try clear hx126_3
                try clear hx126_4
                try clear hx128_0
                try clear hx128_1
                try clear hx128_2
                try clear hx128_3
                try clear hx128_4
                try clear hx130_0
                try clear hx130_1
                try clear hx130_2
                try clear hx130_3
                try clear hx130_4
                try clear p122
                try clear p124
                try clear p126
                try clear p128
                try clear p130
                try clear p2
                try clear q122
                try clear q124
                try clear q126
                try clear q128
                try clear q130
                obtain ⟨x7_3, x15_3, rfl, HA, HK3, HO_7, HB⟩ := hrel
                have hl7_3 := (Kd.R_reads' HO_7.out).1
                rw [hl7_3] at HO_7
                (try simp only [hl7_3])
                cases gk with
                | zero => exact absurd HA.out (by simp [cadencyref04_SetT.l1])
                | succ k3 =>
                  have H := HA.out
                  clear HA
                  simp only [cadencyref04_SetT.l1] at H
                  by_cases c27 : x15_3 < (x7_1.length : Int)
                  · rw [if_pos c27] at H
                    have c27b0 : decide (x15_3 < (x7_1.length : Int)) = true := decide_eq_true c27
                    clear c27
                    replace H := Option.bind_eq_some_iff.mp H
                    obtain ⟨t138, A280, H⟩ := H
                    replace H : ((cadencyref04_rest.f a2 (x7_1.length : Int)).bind fun t139 => (if (x7_1.length : Int) = 0 then (none) else (if 0 ≤ x15_3 then (if x15_3 < (x7_3.length : Int) then (cadencyref04_SetT.l1 k3 a2 (x7_3.set (x15_3 : Int).toNat (⟨(rd_T29 x7_3 x15_3).f0, (rd_T29 x7_3 x15_3).f1, (rd_T29 x7_3 x15_3).f2, (rd_T29 x7_3 x15_3).f3, (rd_T29 x7_3 x15_3).f4, (rd_T29 x7_3 x15_3).f5, wrap64 (1 + (Int.tmod (wrap64 ((wrap64 (x15_3 * t138)) + t139)) (x7_1.length : Int)))⟩ : S29)) (x7_1.length : Int) (wrap64 (x15_3 + 1))) else (none)) else (none)))) = some r := H
                    have A28 := Aside0.mk A280
                    clear A280
                    replace H := Option.bind_eq_some_iff.mp H
                    obtain ⟨t139, A290, H⟩ := H
                    replace H : (if (x7_1.length : Int) = 0 then (none) else (if 0 ≤ x15_3 then (if x15_3 < (x7_3.length : Int) then (cadencyref04_SetT.l1 k3 a2 (x7_3.set (x15_3 : Int).toNat (⟨(rd_T29 x7_3 x15_3).f0, (rd_T29 x7_3 x15_3).f1, (rd_T29 x7_3 x15_3).f2, (rd_T29 x7_3 x15_3).f3, (rd_T29 x7_3 x15_3).f4, (rd_T29 x7_3 x15_3).f5, wrap64 (1 + (Int.tmod (wrap64 ((wrap64 (x15_3 * t138)) + t139)) (x7_1.length : Int)))⟩ : S29)) (x7_1.length : Int) (wrap64 (x15_3 + 1))) else (none)) else (none))) = some r := H
                    have A29 := Aside0.mk A290
                    clear A290
                    by_cases c30 : (x7_1.length : Int) = 0
                    · rw [if_pos c30] at H
                      exact absurd H (by simp)
                    · rw [if_neg c30] at H
                      have c30b0 : ((x7_1.length : Int) == 0) = false := beq_eq_false_iff_ne.mpr c30
                      have c30b1 : ((x7_1.length : Int) != 0) = true := bne_iff_ne.mpr c30
                      have c30b2 : ¬ (x7_1 = []) := fun h_ => c30 (by rw [h_]; rfl)
                      by_cases c31 : 0 ≤ x15_3
                      · rw [if_pos c31] at H
                        have c31b0 : decide (0 ≤ x15_3) = true := decide_eq_true c31
                        clear c31
                        by_cases c32 : x15_3 < (x7_3.length : Int)
                        · rw [if_pos c32] at H
                          have c32b0 : decide (x15_3 < (x7_3.length : Int)) = true := decide_eq_true c32
                          clear c32
                          obtain ⟨y140, hy140⟩ : ∃ y_ : List (S29), y_ = (x7_3.set (x15_3 : Int).toNat (⟨(rd_T29 x7_3 x15_3).f0, (rd_T29 x7_3 x15_3).f1, (rd_T29 x7_3 x15_3).f2, (rd_T29 x7_3 x15_3).f3, (rd_T29 x7_3 x15_3).f4, (rd_T29 x7_3 x15_3).f5, wrap64 (1 + (Int.tmod (wrap64 ((wrap64 (x15_3 * t138)) + t139)) (x7_1.length : Int)))⟩ : S29)) := ⟨_, rfl⟩
                          replace H : (cadencyref04_SetT.l1 k3 a2 y140 (x7_1.length : Int) (wrap64 (x15_3 + 1))) = some r := by first | (rw [hy140]; with_reducible exact H) | (have H2_ := (Option.bind_some _ _).symm.trans H; rw [hy140]; with_reducible exact H2_) | (have H2_ := (Option.bind_some _ _).symm.trans H; with_reducible exact H2_) | with_reducible exact H | (rw [hy140]; exact H) | exact H
                          (try rw [hl7_3] at hy140)
                          have Ny140 := Aside0.mk hy140
                          clear hy140
                          have H' := Aside0.mk H
                          clear H
                          go_wp2_with (first | ((with_reducible refine gate_callee (f := 21) rfl ?_); refine goesL_ (some 101) rfl rfl Tryd.func21 (by kernel_rfl) rfl #[.int .i64 (x7_3.length : Int), .int .i64 a2] rfl (by (try simp only [List.map_toArray, List.map_cons, List.map_nil]); first | done | rfl | (simp only [List.length_drop, List.length_take]; rfl)) ?_; (with_reducible refine (cadencyref04_turns.calls (x7_3.length : Int) a2 t138 _ (by rw [← hl7_3]; exact A28.out)).mono ?_); rintro e w' ⟨rfl, ⟨nd, rfl⟩⟩; refine ⟨_, rfl, ?_⟩; (try (rw [drewN_self wr]; generalize hq_ : World.drewN wr _ = wr; have n0_ : Aside0 (Kd.R k29 29 wr w.heap.size (fun _ => True) (.slice Ao26 x7_3.length co26) x7_3) := ⟨by rw [← hq_]; exact (by (with_reducible repeat (first | apply Kd.R_alloc | apply Kd.R_drewN | apply Kd.R_drew)); exact HO_7.out)⟩; have n1_ : Aside0 (Below w.heap.size w wr) := ⟨by rw [← hq_]; exact (by repeat (first | (with_reducible first | exact HB.out | apply below_alloc | apply pw_below_drewN | apply below_drew1) | exact HB.out))⟩; clear HO_7 HB hq_; have HO_7 := n0_; have HB := n1_; clear n0_ n1_))) | ((with_reducible refine gate_callee (f := 20) rfl ?_); refine goesL_ (some 105) rfl rfl Tryd.func20 (by kernel_rfl) rfl #[.int .i64 a2, .int .i64 (x7_3.length : Int)] rfl (by (try simp only [List.map_toArray, List.map_cons, List.map_nil]); first | done | rfl | (simp only [List.length_drop, List.length_take]; rfl)) ?_; (with_reducible refine (cadencyref04_rest.calls a2 (x7_3.length : Int) t139 _ (by rw [← hl7_3]; exact A29.out)).mono ?_); rintro e w' ⟨rfl, ⟨nd, rfl⟩⟩; refine ⟨_, rfl, ?_⟩; (try (rw [drewN_self wr]; generalize hq_ : World.drewN wr _ = wr; have n0_ : Aside0 (Kd.R k29 29 wr w.heap.size (fun _ => True) (.slice Ao26 x7_3.length co26) x7_3) := ⟨by rw [← hq_]; exact (by (with_reducible repeat (first | apply Kd.R_alloc | apply Kd.R_drewN | apply Kd.R_drew)); exact HO_7.out)⟩; have n1_ : Aside0 (Below w.heap.size w wr) := ⟨by rw [← hq_]; exact (by repeat (first | (with_reducible first | exact HB.out | apply below_alloc | apply pw_below_drewN | apply below_drew1) | exact HB.out))⟩; clear HO_7 HB hq_; have HO_7 := n0_; have HB := n1_; clear n0_ n1_)); have p33 : 0 ≤ (x15_3 : Int) := of_decide_eq_true (by first | (with_reducible assumption) | assumption); have q33 : (x15_3 : Int) < ((x7_3.length : Int) : Int) := of_decide_eq_true (by first | (with_reducible assumption) | assumption); obtain ⟨go33, co33, eo33, gb33, gl33, cl33, HG33⟩ := Kd.R_form HO_7.out (by omega); (first | cases eo33 | (injection eo33 with ea_ en_ ec_; (first | subst ea_ | (injection ea_ with ea_; subst ea_)); subst ec_; clear en_)); have GB33 := Aside0.mk gb33; have GG33 := Aside0.mk HG33; clear gb33 gl33 HG33; obtain ⟨ce33, hcl33, hM33, hcc33, hfr33⟩ := Kd.R_elem HO_7.out z29 (x15_3 : Int) p33 q33; obtain rfl := k29_openM hM33; have hx33_0 : wr.cell? ⟨go33, (x15_3 : Int).toNat * 7, none⟩ = some (.string ((rd_T29 x7_3 x15_3).f0)) := hcc33 0 _ rfl; have hx33_1 : wr.cell? ⟨go33, (x15_3 : Int).toNat * 7 + 1, none⟩ = some (.int .i64 ((rd_T29 x7_3 x15_3).f1)) := hcc33 1 _ rfl; have hx33_2 : wr.cell? ⟨go33, (x15_3 : Int).toNat * 7 + 2, none⟩ = some (.int .i64 ((rd_T29 x7_3 x15_3).f2)) := hcc33 2 _ rfl; have hx33_3 : wr.cell? ⟨go33, (x15_3 : Int).toNat * 7 + 3, none⟩ = some (.int .i64 ((rd_T29 x7_3 x15_3).f3)) := hcc33 3 _ rfl; have hx33_4 : wr.cell? ⟨go33, (x15_3 : Int).toNat * 7 + 4, none⟩ = some (.int .i64 ((rd_T29 x7_3 x15_3).f4)) := hcc33 4 _ rfl; have hx33_5 : wr.cell? ⟨go33, (x15_3 : Int).toNat * 7 + 5, none⟩ = some (.int .i64 ((rd_T29 x7_3 x15_3).f5)) := hcc33 5 _ rfl; have hx33_6 : wr.cell? ⟨go33, (x15_3 : Int).toNat * 7 + 6, none⟩ = some (.int .i64 ((rd_T29 x7_3 x15_3).f6)) := hcc33 6 _ rfl; have hf33_0 : wr.frozen? ⟨go33, (x15_3 : Int).toNat * 7, none⟩ = false := hfr33 0; have hf33_1 : wr.frozen? ⟨go33, (x15_3 : Int).toNat * 7 + 1, none⟩ = false := hfr33 1; have hf33_2 : wr.frozen? ⟨go33, (x15_3 : Int).toNat * 7 + 2, none⟩ = false := hfr33 2; have hf33_3 : wr.frozen? ⟨go33, (x15_3 : Int).toNat * 7 + 3, none⟩ = false := hfr33 3; have hf33_4 : wr.frozen? ⟨go33, (x15_3 : Int).toNat * 7 + 4, none⟩ = false := hfr33 4; have hf33_5 : wr.frozen? ⟨go33, (x15_3 : Int).toNat * 7 + 5, none⟩ = false := hfr33 5; have hf33_6 : wr.frozen? ⟨go33, (x15_3 : Int).toNat * 7 + 6, none⟩ = false := hfr33 6; clear hcl33 hcc33 hfr33 hM33; replace p33 := eq_true p33; replace q33 := eq_true q33; have HX34 := Aside0.mk (show Kd.R k29 29 wr w.heap.size (fun _ => True) (.slice (some ⟨go33, 0, none⟩) x7_3.length co26) x7_3 from (by (with_reducible repeat (first | apply Kd.R_alloc | apply Kd.R_drewN | apply Kd.R_drew)); exact HO_7.out)); obtain ⟨ce34, hcl34, hM34, hcc34, hfr34⟩ := Kd.R_elem HX34.out z29 (x15_3 : Int) (of_decide_eq_true (by first | (with_reducible assumption) | assumption)) (by have h_ : (x15_3 : Int) < ((x7_3.length : Int) : Int) := of_decide_eq_true (by first | (with_reducible assumption) | assumption); first | exact h_ | (have e_ := (Kd.R_reads' HO_7.out).1; omega) | simpa using h_); obtain rfl := k29_openM hM34; have HP34 := Kd.R_seg HX34.out (x15_3 : Int) (of_decide_eq_true (by first | (with_reducible assumption) | assumption)) (by have h_ : (x15_3 : Int) < ((x7_3.length : Int) : Int) := of_decide_eq_true (by first | (with_reducible assumption) | assumption); first | exact h_ | (have e_ := (Kd.R_reads' HO_7.out).1; omega) | simpa using h_) (seg := [.int .i64 (wrap64 (1 + (Int.tmod (wrap64 ((wrap64 (x15_3 * t138)) + t139)) (x7_3.length : Int))))]) (j := 6) hcl34 hcc34 (show 7 ≤ 7 from by decide) (x' := (⟨(rd_T29 x7_3 x15_3).f0, (rd_T29 x7_3 x15_3).f1, (rd_T29 x7_3 x15_3).f2, (rd_T29 x7_3 x15_3).f3, (rd_T29 x7_3 x15_3).f4, (rd_T29 x7_3 x15_3).f5, wrap64 (1 + (Int.tmod (wrap64 ((wrap64 (x15_3 * t138)) + t139)) (x7_3.length : Int)))⟩ : S29)) (k29_mkM _ _ _ (⟨(rd_T29 x7_3 x15_3).f0, (rd_T29 x7_3 x15_3).f1, (rd_T29 x7_3 x15_3).f2, (rd_T29 x7_3 x15_3).f3, (rd_T29 x7_3 x15_3).f4, (rd_T29 x7_3 x15_3).f5, wrap64 (1 + (Int.tmod (wrap64 ((wrap64 (x15_3 * t138)) + t139)) (x7_3.length : Int)))⟩ : S29) ) (fun _ hk => hk); have hx34_6 := hcc34 6 _ rfl; (try simp only [show (k29).sz = 7 from rfl, Nat.mul_one, Nat.add_zero] at hx34_6); have hf34_6 := hfr34 6; (try simp only [show (k29).sz = 7 from rfl, Nat.mul_one, Nat.add_zero] at hf34_6); clear hcl34 hcc34 hfr34 hM34) | ((with_reducible refine gate_store (t := 3) (p := 111) rfl ?_); refine store_event (t := 3) (p := 111) (v := ?vo_w35) (w1 := (wr.setCell ⟨go33, (x15_3 : Int).toNat * 7 + 6, none⟩ (.int .i64 (wrap64 (1 + (Int.tmod (wrap64 ((wrap64 (x15_3 * t138)) + t139)) (x7_3.length : Int))))))) ?hg ?ho ?hn ?hr ?_; (case ho => rfl); (case hg => rfl); (case hn => rfl); (case hr => first | (go_simp; done) | (go_simp; rfl)); intro w35 hw; have hg : wr.grownBy w35 (some go33) := (by rw [hw]; exact HP34.2); have hp_ : Kd.R k29 29 w35 w.heap.size (fun _ => True) (.slice (some ⟨go33, 0, none⟩) x7_3.length co26) y140 := (by rw [hw, Ny140.out]; exact HP34.1); clear HP34; have n0_ := Aside0.mk (hp_); have n1_ := Aside0.mk ((by rw [hw]; exact below_set (HB.out) GB33.out : Below w.heap.size w w35)); clear HO_7; clear HB; have HO_7 := n0_; have HB := n1_; clear n0_ n1_; clear hg hw hp_))
                          (try simp only [← hl7_3])
                          go_roundg k3
                          case measure => have := HK1.out; have := HJ6.out; have := HK3.out; omega
                          case rel => exact ⟨(y140), (wrap64 (x15_3 + 1)), (by first | rfl | (simp; done) | (simp [*]; done)), H', ⟨by have := HK1.out; have := HJ6.out; have := HK3.out; omega⟩, ⟨by (try simp only [hl7_3]); (with_reducible repeat (first | apply Kd.R_alloc | apply Kd.R_drewN | apply Kd.R_drew)); exact HO_7.out⟩, ⟨by repeat (first | (with_reducible first | exact HB.out | apply below_alloc | apply pw_below_drewN | apply below_drew1) | exact HB.out)⟩⟩
                        · rw [if_neg c32] at H
                          exact absurd H (by simp)
                      · rw [if_neg c31] at H
                        exact absurd H (by simp)
                  · rw [if_neg c27] at H
                    have c27b0 : decide (x15_3 < (x7_1.length : Int)) = false := decide_eq_false c27
                    clear c27
                    (try rw [hl7_3] at c27b0)
                    obtain rfl := Option.some.inj H
                    go_wp2
                    go_ret
                    exact ⟨_, by first | rfl | (simp [errW_none, errW_some] <;> rfl) | (simp [*, errW_none, errW_some] <;> rfl), by (with_reducible repeat (first | apply Kd.R_alloc | apply Kd.R_drewN | apply Kd.R_drew)); exact HO_7.out, by repeat (first | (with_reducible first | exact HB.out | apply below_alloc | apply pw_below_drewN | apply below_drew1) | exact HB.out)⟩
  · rw [if_neg c4] at H
    exact absurd H (by simp)

end Go.Proofs.YtefdcjmfbjlinaaDoor.A
