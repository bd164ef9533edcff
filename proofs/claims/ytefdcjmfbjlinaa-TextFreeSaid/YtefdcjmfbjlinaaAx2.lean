-- written by a program (wip/dev/print2.sh): functions of the program as plain Lean, with their contracts
import Derived.Test.YtefdcjmfbjlinaaAx0
import Derived.Test.YtefdcjmfbjlinaaAx1
import Derived.Test.YtefdcjmfbjlinaaGivT
namespace Go.Proofs.Ytefdcjmfbjlinaa.A
open Go.RowKit Go.Proofs.YtefdcjmfbjlinaaW.PrintWords Go.Proofs.YtefdcjmfbjlinaaW.PrintLast Go.Proofs.YtefdcjmfbjlinaaW.PrintMore
set_option linter.unusedVariables false
set_option linter.unusedSimpArgs false

attribute [local go_sem high] eqA33
-- NOT PRINTED: function 33 (scan_Each)

-- NOT PRINTED: function 45 (scan_long)

-- NOT PRINTED: function 34 (scan_skip)

-- NOT PRINTED: function 23 (scan_Lex)

-- NOT PRINTED: function 26 (text_reader_here)

-- NOT PRINTED: function 24 (text_reader_take)

-- NOT PRINTED: function 35 (text_fields)

-- NOT PRINTED: function 36 (text_reader_ends)

-- NOT PRINTED: function 25 (text_reader_task)

-- NOT PRINTED: function 56 (task_first)

-- NOT PRINTED: function 39 (task_Check)

-- NOT PRINTED: function 28 (task_CheckAll)

/-! ### cadencylaw05_awake: function 6 -/
def cadencylaw05_awake.f  : Option (Bool) := (text_Parse.f (⟨#[116, 97, 115, 107, 32, 97, 32, 112, 61, 50, 32, 99, 61, 49, 32, 116, 61, 57]⟩ : ByteArray)).bind fun bt107 => ((text_Parse.f (⟨#[116, 97, 115, 107, 32, 97, 32, 99, 61, 49, 32, 99, 61, 50]⟩ : ByteArray)).bind fun bt112 => (if bt107.2.2 = 0 then (if bt107.2.1 = 1 then (if (bt107.1.length : Int) = 1 then (if 0 < (bt107.1.length : Int) then (if ((((rd_T33 bt107.1 0).f0).toList) == ([97] : List UInt8) && (((rd_T33 bt107.1 0).f1) == 1 && (((rd_T33 bt107.1 0).f2) == 9 && (((rd_T33 bt107.1 0).f3) == 9 && (((rd_T33 bt107.1 0).f4) == 0 && (((rd_T33 bt107.1 0).f5) == 1 && (((rd_T33 bt107.1 0).f6) == 2))))))) = true then (if bt112.2.2 = 10 then (some (bt112.2.1 == 11)) else (some false)) else (some false)) else (none)) else (some false)) else (some false)) else (some false)))
set_option maxHeartbeats 8000000 in
set_option maxRecDepth 100000 in
theorem cadencylaw05_awake.calls  (r : Bool) (w : World) (h : cadencylaw05_awake.f  = some r) :
    Calls Try.prog 6 #[] w fun e w' => e = .returned (.bool r) ∧ Below w.heap.size w w' := by
  have hu33 := Try.underlying33
  have HB := Aside0.mk (Below.refl w.heap.size w)
  have H : ((text_Parse.f (⟨#[116, 97, 115, 107, 32, 97, 32, 112, 61, 50, 32, 99, 61, 49, 32, 116, 61, 57]⟩ : ByteArray)).bind fun bt107 => ((text_Parse.f (⟨#[116, 97, 115, 107, 32, 97, 32, 99, 61, 49, 32, 99, 61, 50]⟩ : ByteArray)).bind fun bt112 => (if bt107.2.2 = 0 then (if bt107.2.1 = 1 then (if (bt107.1.length : Int) = 1 then (if 0 < (bt107.1.length : Int) then (if ((((rd_T33 bt107.1 0).f0).toList) == ([97] : List UInt8) && (((rd_T33 bt107.1 0).f1) == 1 && (((rd_T33 bt107.1 0).f2) == 9 && (((rd_T33 bt107.1 0).f3) == 9 && (((rd_T33 bt107.1 0).f4) == 0 && (((rd_T33 bt107.1 0).f5) == 1 && (((rd_T33 bt107.1 0).f6) == 2))))))) = true then (if bt112.2.2 = 10 then (some (bt112.2.1 == 11)) else (some false)) else (some false)) else (none)) else (some false)) else (some false)) else (some false)))) = some r := h
  clear h
  replace H := Option.bind_eq_some_iff.mp H
  obtain ⟨⟨t107, t108, t109⟩, A10, H⟩ := H
  replace H : ((text_Parse.f (⟨#[116, 97, 115, 107, 32, 97, 32, 99, 61, 49, 32, 99, 61, 50]⟩ : ByteArray)).bind fun bt112 => (if t109 = 0 then (if t108 = 1 then (if (t107.length : Int) = 1 then (if 0 < (t107.length : Int) then (if ((((rd_T33 t107 0).f0).toList) == ([97] : List UInt8) && (((rd_T33 t107 0).f1) == 1 && (((rd_T33 t107 0).f2) == 9 && (((rd_T33 t107 0).f3) == 9 && (((rd_T33 t107 0).f4) == 0 && (((rd_T33 t107 0).f5) == 1 && (((rd_T33 t107 0).f6) == 2))))))) = true then (if bt112.2.2 = 10 then (some (bt112.2.1 == 11)) else (some false)) else (some false)) else (none)) else (some false)) else (some false)) else (some false))) = some r := H
  have A1 := Aside0.mk A10
  clear A10
  replace H := Option.bind_eq_some_iff.mp H
  obtain ⟨⟨t112, t113, t114⟩, A20, H⟩ := H
  replace H : (if t109 = 0 then (if t108 = 1 then (if (t107.length : Int) = 1 then (if 0 < (t107.length : Int) then (if ((((rd_T33 t107 0).f0).toList) == ([97] : List UInt8) && (((rd_T33 t107 0).f1) == 1 && (((rd_T33 t107 0).f2) == 9 && (((rd_T33 t107 0).f3) == 9 && (((rd_T33 t107 0).f4) == 0 && (((rd_T33 t107 0).f5) == 1 && (((rd_T33 t107 0).f6) == 2))))))) = true then (if t114 = 10 then (some (t113 == 11)) else (some false)) else (some false)) else (none)) else (some false)) else (some false)) else (some false)) = some r := H
  have A2 := Aside0.mk A20
  clear A20
  by_cases c3 : t109 = 0
  · rw [if_pos c3] at H
    have c3b0 : (t109 == 0) = true := beq_iff_eq.mpr c3
    have c3b1 : (t109 != 0) = false := bne_eq_false_iff_eq.mpr c3
    clear c3
    by_cases c4 : t108 = 1
    · rw [if_pos c4] at H
      have c4b0 : (t108 == 1) = true := beq_iff_eq.mpr c4
      have c4b1 : (t108 != 1) = false := bne_eq_false_iff_eq.mpr c4
      clear c4
      by_cases c5 : (t107.length : Int) = 1
      · rw [if_pos c5] at H
        have c5b0 : ((t107.length : Int) == 1) = true := beq_iff_eq.mpr c5
        have c5b1 : ((t107.length : Int) != 1) = false := bne_eq_false_iff_eq.mpr c5
        clear c5
        by_cases c6 : 0 < (t107.length : Int)
        · rw [if_pos c6] at H
          have c6b0 : decide (0 < (t107.length : Int)) = true := decide_eq_true c6
          have c6b1 : decide (0 < t107.length) = true := decide_eq_true (by omega)
          clear c6
          by_cases c7 : ((((rd_T33 t107 0).f0).toList) == ([97] : List UInt8) && (((rd_T33 t107 0).f1) == 1 && (((rd_T33 t107 0).f2) == 9 && (((rd_T33 t107 0).f3) == 9 && (((rd_T33 t107 0).f4) == 0 && (((rd_T33 t107 0).f5) == 1 && (((rd_T33 t107 0).f6) == 2))))))) = true
          · rw [if_pos c7] at H
            have c7b0 : ((((rd_T33 t107 0).f0).toList) == ([97] : List UInt8) && (((rd_T33 t107 0).f1) == 1 && (((rd_T33 t107 0).f2) == 9 && (((rd_T33 t107 0).f3) == 9 && (((rd_T33 t107 0).f4) == 0 && (((rd_T33 t107 0).f5) == 1 && (((rd_T33 t107 0).f6) == 2))))))) = true := c7
            (try (have c7b1 : decide ((((rd_T33 t107 0).f0).toList) = ([97] : List UInt8) && (((rd_T33 t107 0).f1) == 1 && (((rd_T33 t107 0).f2) == 9 && (((rd_T33 t107 0).f3) == 9 && (((rd_T33 t107 0).f4) == 0 && (((rd_T33 t107 0).f5) == 1 && (((rd_T33 t107 0).f6) == 2))))))) = true := by simpa using c7))
            (try (have c7b2 : ((((rd_T33 t107 0).f0).toList) == ([97] : List UInt8) && (((rd_T33 t107 0).f1) == 1 && (((rd_T33 t107 0).f2) == 9 && (((rd_T33 t107 0).f3) == 9 && (((rd_T33 t107 0).f4) == 0 && (((rd_T33 t107 0).f5) == 1 && (((rd_T33 t107 0).f6) == 2))))))) = true := by simpa using c7))
            clear c7
            by_cases c8 : t114 = 10
            · rw [if_pos c8] at H
              have c8b0 : (t114 == 10) = true := beq_iff_eq.mpr c8
              have c8b1 : (t114 != 10) = false := bne_eq_false_iff_eq.mpr c8
              clear c8
              obtain rfl := Option.some.inj H
              go_enter Try.func6, Try.ntmps6
              go_wp2_with (first | ((with_reducible refine gate_callee (f := 16) rfl ?_); refine goesL_ (some 8) rfl rfl Try.func16 (by kernel_rfl) rfl #[.string (⟨#[116, 97, 115, 107, 32, 97, 32, 112, 61, 50, 32, 99, 61, 49, 32, 116, 61, 57]⟩ : ByteArray)] rfl (by (try simp only [List.map_toArray, List.map_cons, List.map_nil]); first | done | rfl | (simp only [List.length_drop, List.length_take]; rfl)) ?_; (with_reducible refine (text_Parse.calls (⟨#[116, 97, 115, 107, 32, 97, 32, 112, 61, 50, 32, 99, 61, 49, 32, 116, 61, 57]⟩ : ByteArray) t107 t108 t109 _ A1.out).mono ?_); rintro e w9 ⟨v110, rfl, ho0, hb⟩; refine ⟨_, rfl, ?_⟩; have n0_ := Aside0.mk (Kd.R_lower ho0 (below_size (by repeat (first | (with_reducible first | exact HB.out | apply below_alloc | apply pw_below_drewN | apply below_drew1) | exact HB.out)))); have n1_ := Aside0.mk (below_step (by repeat (first | (with_reducible first | exact HB.out | apply below_alloc | apply pw_below_drewN | apply below_drew1) | exact HB.out)) hb); clear HB; have HO111 := n0_; have HB := n1_; clear n0_ n1_; (try clear hb); (try clear hb2); (try clear hk); (try clear hi); (try clear ho0)) | ((with_reducible refine gate_callee (f := 16) rfl ?_); refine goesL_ (some 13) rfl rfl Try.func16 (by kernel_rfl) rfl #[.string (⟨#[116, 97, 115, 107, 32, 97, 32, 99, 61, 49, 32, 99, 61, 50]⟩ : ByteArray)] rfl (by (try simp only [List.map_toArray, List.map_cons, List.map_nil]); first | done | rfl | (simp only [List.length_drop, List.length_take]; rfl)) ?_; (with_reducible refine (text_Parse.calls (⟨#[116, 97, 115, 107, 32, 97, 32, 99, 61, 49, 32, 99, 61, 50]⟩ : ByteArray) t112 t113 t114 _ A2.out).mono ?_); rintro e w10 ⟨v115, rfl, ho0, hb⟩; refine ⟨_, rfl, ?_⟩; have n0_ := Aside0.mk (Kd.R_elder' (by (with_reducible repeat (first | apply Kd.R_alloc | apply Kd.R_drewN | apply Kd.R_drew)); exact HO111.out) (Kd.R_base ho0) hb); have n1_ := Aside0.mk (Kd.R_lower (Kd.R_new' ho0 (Kd.R_lt (by (with_reducible repeat (first | apply Kd.R_alloc | apply Kd.R_drewN | apply Kd.R_drew)); exact HO111.out))) (below_size (by repeat (first | (with_reducible first | exact HB.out | apply below_alloc | apply pw_below_drewN | apply below_drew1) | exact HB.out)))); have n2_ := Aside0.mk (below_step (by repeat (first | (with_reducible first | exact HB.out | apply below_alloc | apply pw_below_drewN | apply below_drew1) | exact HB.out)) hb); clear HO111; clear HB; have HO111 := n0_; have HO116 := n1_; have HB := n2_; clear n0_ n1_ n2_; (try clear hb); (try clear hb2); (try clear hk); (try clear hi); (try clear ho0); obtain ⟨Ao11, co11, eo11⟩ := Kd.R_slice HO111.out; subst eo11; have p117 : 0 ≤ (0 : Int) := (by omega); have q117 : 0 < (t107.length : Int) := of_decide_eq_true (by first | (with_reducible assumption) | assumption); obtain ⟨ad117, e117, hx117_0, hx117_1, hx117_2, hx117_3, hx117_4, hx117_5, hx117_6⟩ := at_T33 (Kd.R_reads' HO111.out).2.2 0 p117 q117; cases e117; have qi117 : (0 < t107.length) = True := eq_true (by omega); (try rw [show ((0 : Int)).toNat = 0 from rfl] at hx117_0); (try rw [show 0 * 7 = 0 from rfl] at hx117_0); (try rw [Addr.add_zero'] at hx117_0); (try rw [show ((0 : Int)).toNat = 0 from rfl] at hx117_1); (try rw [show 0 * 7 = 0 from rfl] at hx117_1); (try rw [Addr.add_zero'] at hx117_1); (try rw [show ((0 : Int)).toNat = 0 from rfl] at hx117_2); (try rw [show 0 * 7 = 0 from rfl] at hx117_2); (try rw [Addr.add_zero'] at hx117_2); (try rw [show ((0 : Int)).toNat = 0 from rfl] at hx117_3); (try rw [show 0 * 7 = 0 from rfl] at hx117_3); (try rw [Addr.add_zero'] at hx117_3); (try rw [show ((0 : Int)).toNat = 0 from rfl] at hx117_4); (try rw [show 0 * 7 = 0 from rfl] at hx117_4); (try rw [Addr.add_zero'] at hx117_4); (try rw [show ((0 : Int)).toNat = 0 from rfl] at hx117_5); (try rw [show 0 * 7 = 0 from rfl] at hx117_5); (try rw [Addr.add_zero'] at hx117_5); (try rw [show ((0 : Int)).toNat = 0 from rfl] at hx117_6); (try rw [show 0 * 7 = 0 from rfl] at hx117_6); (try rw [Addr.add_zero'] at hx117_6); replace p117 := eq_true p117; replace q117 := eq_true q117))
              go_ret
              exact ⟨by first | rfl | (simp [errW_none, errW_some] <;> rfl) | (simp [*, errW_none, errW_some] <;> rfl), by repeat (first | (with_reducible first | exact HB.out | apply below_alloc | apply pw_below_drewN | apply below_drew1) | exact HB.out)⟩
            · rw [if_neg c8] at H
              have c8b0 : (t114 == 10) = false := beq_eq_false_iff_ne.mpr c8
              have c8b1 : (t114 != 10) = true := bne_iff_ne.mpr c8
              obtain rfl := Option.some.inj H
              go_enter Try.func6, Try.ntmps6
              go_wp2_with (first | ((with_reducible refine gate_callee (f := 16) rfl ?_); refine goesL_ (some 8) rfl rfl Try.func16 (by kernel_rfl) rfl #[.string (⟨#[116, 97, 115, 107, 32, 97, 32, 112, 61, 50, 32, 99, 61, 49, 32, 116, 61, 57]⟩ : ByteArray)] rfl (by (try simp only [List.map_toArray, List.map_cons, List.map_nil]); first | done | rfl | (simp only [List.length_drop, List.length_take]; rfl)) ?_; (with_reducible refine (text_Parse.calls (⟨#[116, 97, 115, 107, 32, 97, 32, 112, 61, 50, 32, 99, 61, 49, 32, 116, 61, 57]⟩ : ByteArray) t107 t108 t109 _ A1.out).mono ?_); rintro e w12 ⟨v110, rfl, ho0, hb⟩; refine ⟨_, rfl, ?_⟩; have n0_ := Aside0.mk (Kd.R_lower ho0 (below_size (by repeat (first | (with_reducible first | exact HB.out | apply below_alloc | apply pw_below_drewN | apply below_drew1) | exact HB.out)))); have n1_ := Aside0.mk (below_step (by repeat (first | (with_reducible first | exact HB.out | apply below_alloc | apply pw_below_drewN | apply below_drew1) | exact HB.out)) hb); clear HB; have HO111 := n0_; have HB := n1_; clear n0_ n1_; (try clear hb); (try clear hb2); (try clear hk); (try clear hi); (try clear ho0)) | ((with_reducible refine gate_callee (f := 16) rfl ?_); refine goesL_ (some 13) rfl rfl Try.func16 (by kernel_rfl) rfl #[.string (⟨#[116, 97, 115, 107, 32, 97, 32, 99, 61, 49, 32, 99, 61, 50]⟩ : ByteArray)] rfl (by (try simp only [List.map_toArray, List.map_cons, List.map_nil]); first | done | rfl | (simp only [List.length_drop, List.length_take]; rfl)) ?_; (with_reducible refine (text_Parse.calls (⟨#[116, 97, 115, 107, 32, 97, 32, 99, 61, 49, 32, 99, 61, 50]⟩ : ByteArray) t112 t113 t114 _ A2.out).mono ?_); rintro e w13 ⟨v115, rfl, ho0, hb⟩; refine ⟨_, rfl, ?_⟩; have n0_ := Aside0.mk (Kd.R_elder' (by (with_reducible repeat (first | apply Kd.R_alloc | apply Kd.R_drewN | apply Kd.R_drew)); exact HO111.out) (Kd.R_base ho0) hb); have n1_ := Aside0.mk (Kd.R_lower (Kd.R_new' ho0 (Kd.R_lt (by (with_reducible repeat (first | apply Kd.R_alloc | apply Kd.R_drewN | apply Kd.R_drew)); exact HO111.out))) (below_size (by repeat (first | (with_reducible first | exact HB.out | apply below_alloc | apply pw_below_drewN | apply below_drew1) | exact HB.out)))); have n2_ := Aside0.mk (below_step (by repeat (first | (with_reducible first | exact HB.out | apply below_alloc | apply pw_below_drewN | apply below_drew1) | exact HB.out)) hb); clear HO111; clear HB; have HO111 := n0_; have HO116 := n1_; have HB := n2_; clear n0_ n1_ n2_; (try clear hb); (try clear hb2); (try clear hk); (try clear hi); (try clear ho0); obtain ⟨Ao14, co14, eo14⟩ := Kd.R_slice HO111.out; subst eo14; have p117 : 0 ≤ (0 : Int) := (by omega); have q117 : 0 < (t107.length : Int) := of_decide_eq_true (by first | (with_reducible assumption) | assumption); obtain ⟨ad117, e117, hx117_0, hx117_1, hx117_2, hx117_3, hx117_4, hx117_5, hx117_6⟩ := at_T33 (Kd.R_reads' HO111.out).2.2 0 p117 q117; cases e117; have qi117 : (0 < t107.length) = True := eq_true (by omega); (try rw [show ((0 : Int)).toNat = 0 from rfl] at hx117_0); (try rw [show 0 * 7 = 0 from rfl] at hx117_0); (try rw [Addr.add_zero'] at hx117_0); (try rw [show ((0 : Int)).toNat = 0 from rfl] at hx117_1); (try rw [show 0 * 7 = 0 from rfl] at hx117_1); (try rw [Addr.add_zero'] at hx117_1); (try rw [show ((0 : Int)).toNat = 0 from rfl] at hx117_2); (try rw [show 0 * 7 = 0 from rfl] at hx117_2); (try rw [Addr.add_zero'] at hx117_2); (try rw [show ((0 : Int)).toNat = 0 from rfl] at hx117_3); (try rw [show 0 * 7 = 0 from rfl] at hx117_3); (try rw [Addr.add_zero'] at hx117_3); (try rw [show ((0 : Int)).toNat = 0 from rfl] at hx117_4); (try rw [show 0 * 7 = 0 from rfl] at hx117_4); (try rw [Addr.add_zero'] at hx117_4); (try rw [show ((0 : Int)).toNat = 0 from rfl] at hx117_5); (try rw [show 0 * 7 = 0 from rfl] at hx117_5); (try rw [Addr.add_zero'] at hx117_5); (try rw [show ((0 : Int)).toNat = 0 from rfl] at hx117_6); (try rw [show 0 * 7 = 0 from rfl] at hx117_6); (try rw [Addr.add_zero'] at hx117_6); replace p117 := eq_true p117; replace q117 := eq_true q117))
              go_ret
              exact ⟨by first | rfl | (simp [errW_none, errW_some] <;> rfl) | (simp [*, errW_none, errW_some] <;> rfl), by repeat (first | (with_reducible first | exact HB.out | apply below_alloc | apply pw_below_drewN | apply below_drew1) | exact HB.out)⟩
          · rw [if_neg c7] at H
            have c7b0 : ((((rd_T33 t107 0).f0).toList) == ([97] : List UInt8) && (((rd_T33 t107 0).f1) == 1 && (((rd_T33 t107 0).f2) == 9 && (((rd_T33 t107 0).f3) == 9 && (((rd_T33 t107 0).f4) == 0 && (((rd_T33 t107 0).f5) == 1 && (((rd_T33 t107 0).f6) == 2))))))) = false := by simpa using c7
            (try (have c7b1 : decide ((((rd_T33 t107 0).f0).toList) = ([97] : List UInt8) && (((rd_T33 t107 0).f1) == 1 && (((rd_T33 t107 0).f2) == 9 && (((rd_T33 t107 0).f3) == 9 && (((rd_T33 t107 0).f4) == 0 && (((rd_T33 t107 0).f5) == 1 && (((rd_T33 t107 0).f6) == 2))))))) = false := by simpa using c7))
            (try (have c7b2 : ((((rd_T33 t107 0).f0).toList) == ([97] : List UInt8) && (((rd_T33 t107 0).f1) == 1 && (((rd_T33 t107 0).f2) == 9 && (((rd_T33 t107 0).f3) == 9 && (((rd_T33 t107 0).f4) == 0 && (((rd_T33 t107 0).f5) == 1 && (((rd_T33 t107 0).f6) == 2))))))) = false := by simpa using c7))
            (try (have c7b3 : ¬ ((((rd_T33 t107 0).f0).toList) = ([97] : List UInt8) && (((rd_T33 t107 0).f1) == 1 && (((rd_T33 t107 0).f2) == 9 && (((rd_T33 t107 0).f3) == 9 && (((rd_T33 t107 0).f4) == 0 && (((rd_T33 t107 0).f5) == 1 && (((rd_T33 t107 0).f6) == 2))))))) := by simpa using c7))
            clear c7
            obtain rfl := Option.some.inj H
            go_enter Try.func6, Try.ntmps6
            go_wp2_with (first | ((with_reducible refine gate_callee (f := 16) rfl ?_); refine goesL_ (some 8) rfl rfl Try.func16 (by kernel_rfl) rfl #[.string (⟨#[116, 97, 115, 107, 32, 97, 32, 112, 61, 50, 32, 99, 61, 49, 32, 116, 61, 57]⟩ : ByteArray)] rfl (by (try simp only [List.map_toArray, List.map_cons, List.map_nil]); first | done | rfl | (simp only [List.length_drop, List.length_take]; rfl)) ?_; (with_reducible refine (text_Parse.calls (⟨#[116, 97, 115, 107, 32, 97, 32, 112, 61, 50, 32, 99, 61, 49, 32, 116, 61, 57]⟩ : ByteArray) t107 t108 t109 _ A1.out).mono ?_); rintro e w15 ⟨v110, rfl, ho0, hb⟩; refine ⟨_, rfl, ?_⟩; have n0_ := Aside0.mk (Kd.R_lower ho0 (below_size (by repeat (first | (with_reducible first | exact HB.out | apply below_alloc | apply pw_below_drewN | apply below_drew1) | exact HB.out)))); have n1_ := Aside0.mk (below_step (by repeat (first | (with_reducible first | exact HB.out | apply below_alloc | apply pw_below_drewN | apply below_drew1) | exact HB.out)) hb); clear HB; have HO111 := n0_; have HB := n1_; clear n0_ n1_; (try clear hb); (try clear hb2); (try clear hk); (try clear hi); (try clear ho0)) | ((with_reducible refine gate_callee (f := 16) rfl ?_); refine goesL_ (some 13) rfl rfl Try.func16 (by kernel_rfl) rfl #[.string (⟨#[116, 97, 115, 107, 32, 97, 32, 99, 61, 49, 32, 99, 61, 50]⟩ : ByteArray)] rfl (by (try simp only [List.map_toArray, List.map_cons, List.map_nil]); first | done | rfl | (simp only [List.length_drop, List.length_take]; rfl)) ?_; (with_reducible refine (text_Parse.calls (⟨#[116, 97, 115, 107, 32, 97, 32, 99, 61, 49, 32, 99, 61, 50]⟩ : ByteArray) t112 t113 t114 _ A2.out).mono ?_); rintro e w16 ⟨v115, rfl, ho0, hb⟩; refine ⟨_, rfl, ?_⟩; have n0_ := Aside0.mk (Kd.R_elder' (by (with_reducible repeat (first | apply Kd.R_alloc | apply Kd.R_drewN | apply Kd.R_drew)); exact HO111.out) (Kd.R_base ho0) hb); have n1_ := Aside0.mk (Kd.R_lower (Kd.R_new' ho0 (Kd.R_lt (by (with_reducible repeat (first | apply Kd.R_alloc | apply Kd.R_drewN | apply Kd.R_drew)); exact HO111.out))) (below_size (by repeat (first | (with_reducible first | exact HB.out | apply below_alloc | apply pw_below_drewN | apply below_drew1) | exact HB.out)))); have n2_ := Aside0.mk (below_step (by repeat (first | (with_reducible first | exact HB.out | apply below_alloc | apply pw_below_drewN | apply below_drew1) | exact HB.out)) hb); clear HO111; clear HB; have HO111 := n0_; have HO116 := n1_; have HB := n2_; clear n0_ n1_ n2_; (try clear hb); (try clear hb2); (try clear hk); (try clear hi); (try clear ho0); obtain ⟨Ao17, co17, eo17⟩ := Kd.R_slice HO111.out; subst eo17; have p117 : 0 ≤ (0 : Int) := (by omega); have q117 : 0 < (t107.length : Int) := of_decide_eq_true (by first | (with_reducible assumption) | assumption); obtain ⟨ad117, e117, hx117_0, hx117_1, hx117_2, hx117_3, hx117_4, hx117_5, hx117_6⟩ := at_T33 (Kd.R_reads' HO111.out).2.2 0 p117 q117; cases e117; have qi117 : (0 < t107.length) = True := eq_true (by omega); (try rw [show ((0 : Int)).toNat = 0 from rfl] at hx117_0); (try rw [show 0 * 7 = 0 from rfl] at hx117_0); (try rw [Addr.add_zero'] at hx117_0); (try rw [show ((0 : Int)).toNat = 0 from rfl] at hx117_1); (try rw [show 0 * 7 = 0 from rfl] at hx117_1); (try rw [Addr.add_zero'] at hx117_1); (try rw [show ((0 : Int)).toNat = 0 from rfl] at hx117_2); (try rw [show 0 * 7 = 0 from rfl] at hx117_2); (try rw [Addr.add_zero'] at hx117_2); (try rw [show ((0 : Int)).toNat = 0 from rfl] at hx117_3); (try rw [show 0 * 7 = 0 from rfl] at hx117_3); (try rw [Addr.add_zero'] at hx117_3); (try rw [show ((0 : Int)).toNat = 0 from rfl] at hx117_4); (try rw [show 0 * 7 = 0 from rfl] at hx117_4); (try rw [Addr.add_zero'] at hx117_4); (try rw [show ((0 : Int)).toNat = 0 from rfl] at hx117_5); (try rw [show 0 * 7 = 0 from rfl] at hx117_5); (try rw [Addr.add_zero'] at hx117_5); (try rw [show ((0 : Int)).toNat = 0 from rfl] at hx117_6); (try rw [show 0 * 7 = 0 from rfl] at hx117_6); (try rw [Addr.add_zero'] at hx117_6); replace p117 := eq_true p117; replace q117 := eq_true q117))
            go_ret
            exact ⟨by first | rfl | (simp [errW_none, errW_some] <;> rfl) | (simp [*, errW_none, errW_some] <;> rfl), by repeat (first | (with_reducible first | exact HB.out | apply below_alloc | apply pw_below_drewN | apply below_drew1) | exact HB.out)⟩
        · rw [if_neg c6] at H
          exact absurd H (by simp)
      · rw [if_neg c5] at H
        have c5b0 : ((t107.length : Int) == 1) = false := beq_eq_false_iff_ne.mpr c5
        have c5b1 : ((t107.length : Int) != 1) = true := bne_iff_ne.mpr c5
        obtain rfl := Option.some.inj H
        go_enter Try.func6, Try.ntmps6
        go_wp2_with (first | ((with_reducible refine gate_callee (f := 16) rfl ?_); refine goesL_ (some 8) rfl rfl Try.func16 (by kernel_rfl) rfl #[.string (⟨#[116, 97, 115, 107, 32, 97, 32, 112, 61, 50, 32, 99, 61, 49, 32, 116, 61, 57]⟩ : ByteArray)] rfl (by (try simp only [List.map_toArray, List.map_cons, List.map_nil]); first | done | rfl | (simp only [List.length_drop, List.length_take]; rfl)) ?_; (with_reducible refine (text_Parse.calls (⟨#[116, 97, 115, 107, 32, 97, 32, 112, 61, 50, 32, 99, 61, 49, 32, 116, 61, 57]⟩ : ByteArray) t107 t108 t109 _ A1.out).mono ?_); rintro e w18 ⟨v110, rfl, ho0, hb⟩; refine ⟨_, rfl, ?_⟩; have n0_ := Aside0.mk (Kd.R_lower ho0 (below_size (by repeat (first | (with_reducible first | exact HB.out | apply below_alloc | apply pw_below_drewN | apply below_drew1) | exact HB.out)))); have n1_ := Aside0.mk (below_step (by repeat (first | (with_reducible first | exact HB.out | apply below_alloc | apply pw_below_drewN | apply below_drew1) | exact HB.out)) hb); clear HB; have HO111 := n0_; have HB := n1_; clear n0_ n1_; (try clear hb); (try clear hb2); (try clear hk); (try clear hi); (try clear ho0)) | ((with_reducible refine gate_callee (f := 16) rfl ?_); refine goesL_ (some 13) rfl rfl Try.func16 (by kernel_rfl) rfl #[.string (⟨#[116, 97, 115, 107, 32, 97, 32, 99, 61, 49, 32, 99, 61, 50]⟩ : ByteArray)] rfl (by (try simp only [List.map_toArray, List.map_cons, List.map_nil]); first | done | rfl | (simp only [List.length_drop, List.length_take]; rfl)) ?_; (with_reducible refine (text_Parse.calls (⟨#[116, 97, 115, 107, 32, 97, 32, 99, 61, 49, 32, 99, 61, 50]⟩ : ByteArray) t112 t113 t114 _ A2.out).mono ?_); rintro e w19 ⟨v115, rfl, ho0, hb⟩; refine ⟨_, rfl, ?_⟩; have n0_ := Aside0.mk (Kd.R_elder' (by (with_reducible repeat (first | apply Kd.R_alloc | apply Kd.R_drewN | apply Kd.R_drew)); exact HO111.out) (Kd.R_base ho0) hb); have n1_ := Aside0.mk (Kd.R_lower (Kd.R_new' ho0 (Kd.R_lt (by (with_reducible repeat (first | apply Kd.R_alloc | apply Kd.R_drewN | apply Kd.R_drew)); exact HO111.out))) (below_size (by repeat (first | (with_reducible first | exact HB.out | apply below_alloc | apply pw_below_drewN | apply below_drew1) | exact HB.out)))); have n2_ := Aside0.mk (below_step (by repeat (first | (with_reducible first | exact HB.out | apply below_alloc | apply pw_below_drewN | apply below_drew1) | exact HB.out)) hb); clear HO111; clear HB; have HO111 := n0_; have HO116 := n1_; have HB := n2_; clear n0_ n1_ n2_; (try clear hb); (try clear hb2); (try clear hk); (try clear hi); (try clear ho0); obtain ⟨Ao20, co20, eo20⟩ := Kd.R_slice HO111.out; subst eo20))
        go_ret
        exact ⟨by first | rfl | (simp [errW_none, errW_some] <;> rfl) | (simp [*, errW_none, errW_some] <;> rfl), by repeat (first | (with_reducible first | exact HB.out | apply below_alloc | apply pw_below_drewN | apply below_drew1) | exact HB.out)⟩
    · rw [if_neg c4] at H
      have c4b0 : (t108 == 1) = false := beq_eq_false_iff_ne.mpr c4
      have c4b1 : (t108 != 1) = true := bne_iff_ne.mpr c4
      obtain rfl := Option.some.inj H
      go_enter Try.func6, Try.ntmps6
      go_wp2_with (first | ((with_reducible refine gate_callee (f := 16) rfl ?_); refine goesL_ (some 8) rfl rfl Try.func16 (by kernel_rfl) rfl #[.string (⟨#[116, 97, 115, 107, 32, 97, 32, 112, 61, 50, 32, 99, 61, 49, 32, 116, 61, 57]⟩ : ByteArray)] rfl (by (try simp only [List.map_toArray, List.map_cons, List.map_nil]); first | done | rfl | (simp only [List.length_drop, List.length_take]; rfl)) ?_; (with_reducible refine (text_Parse.calls (⟨#[116, 97, 115, 107, 32, 97, 32, 112, 61, 50, 32, 99, 61, 49, 32, 116, 61, 57]⟩ : ByteArray) t107 t108 t109 _ A1.out).mono ?_); rintro e w21 ⟨v110, rfl, ho0, hb⟩; refine ⟨_, rfl, ?_⟩; have n0_ := Aside0.mk (Kd.R_lower ho0 (below_size (by repeat (first | (with_reducible first | exact HB.out | apply below_alloc | apply pw_below_drewN | apply below_drew1) | exact HB.out)))); have n1_ := Aside0.mk (below_step (by repeat (first | (with_reducible first | exact HB.out | apply below_alloc | apply pw_below_drewN | apply below_drew1) | exact HB.out)) hb); clear HB; have HO111 := n0_; have HB := n1_; clear n0_ n1_; (try clear hb); (try clear hb2); (try clear hk); (try clear hi); (try clear ho0)) | ((with_reducible refine gate_callee (f := 16) rfl ?_); refine goesL_ (some 13) rfl rfl Try.func16 (by kernel_rfl) rfl #[.string (⟨#[116, 97, 115, 107, 32, 97, 32, 99, 61, 49, 32, 99, 61, 50]⟩ : ByteArray)] rfl (by (try simp only [List.map_toArray, List.map_cons, List.map_nil]); first | done | rfl | (simp only [List.length_drop, List.length_take]; rfl)) ?_; (with_reducible refine (text_Parse.calls (⟨#[116, 97, 115, 107, 32, 97, 32, 99, 61, 49, 32, 99, 61, 50]⟩ : ByteArray) t112 t113 t114 _ A2.out).mono ?_); rintro e w22 ⟨v115, rfl, ho0, hb⟩; refine ⟨_, rfl, ?_⟩; have n0_ := Aside0.mk (Kd.R_elder' (by (with_reducible repeat (first | apply Kd.R_alloc | apply Kd.R_drewN | apply Kd.R_drew)); exact HO111.out) (Kd.R_base ho0) hb); have n1_ := Aside0.mk (Kd.R_lower (Kd.R_new' ho0 (Kd.R_lt (by (with_reducible repeat (first | apply Kd.R_alloc | apply Kd.R_drewN | apply Kd.R_drew)); exact HO111.out))) (below_size (by repeat (first | (with_reducible first | exact HB.out | apply below_alloc | apply pw_below_drewN | apply below_drew1) | exact HB.out)))); have n2_ := Aside0.mk (below_step (by repeat (first | (with_reducible first | exact HB.out | apply below_alloc | apply pw_below_drewN | apply below_drew1) | exact HB.out)) hb); clear HO111; clear HB; have HO111 := n0_; have HO116 := n1_; have HB := n2_; clear n0_ n1_ n2_; (try clear hb); (try clear hb2); (try clear hk); (try clear hi); (try clear ho0)))
      go_ret
      exact ⟨by first | rfl | (simp [errW_none, errW_some] <;> rfl) | (simp [*, errW_none, errW_some] <;> rfl), by repeat (first | (with_reducible first | exact HB.out | apply below_alloc | apply pw_below_drewN | apply below_drew1) | exact HB.out)⟩
  · rw [if_neg c3] at H
    have c3b0 : (t109 == 0) = false := beq_eq_false_iff_ne.mpr c3
    have c3b1 : (t109 != 0) = true := bne_iff_ne.mpr c3
    obtain rfl := Option.some.inj H
    go_enter Try.func6, Try.ntmps6
    go_wp2_with (first | ((with_reducible refine gate_callee (f := 16) rfl ?_); refine goesL_ (some 8) rfl rfl Try.func16 (by kernel_rfl) rfl #[.string (⟨#[116, 97, 115, 107, 32, 97, 32, 112, 61, 50, 32, 99, 61, 49, 32, 116, 61, 57]⟩ : ByteArray)] rfl (by (try simp only [List.map_toArray, List.map_cons, List.map_nil]); first | done | rfl | (simp only [List.length_drop, List.length_take]; rfl)) ?_; (with_reducible refine (text_Parse.calls (⟨#[116, 97, 115, 107, 32, 97, 32, 112, 61, 50, 32, 99, 61, 49, 32, 116, 61, 57]⟩ : ByteArray) t107 t108 t109 _ A1.out).mono ?_); rintro e w23 ⟨v110, rfl, ho0, hb⟩; refine ⟨_, rfl, ?_⟩; have n0_ := Aside0.mk (Kd.R_lower ho0 (below_size (by repeat (first | (with_reducible first | exact HB.out | apply below_alloc | apply pw_below_drewN | apply below_drew1) | exact HB.out)))); have n1_ := Aside0.mk (below_step (by repeat (first | (with_reducible first | exact HB.out | apply below_alloc | apply pw_below_drewN | apply below_drew1) | exact HB.out)) hb); clear HB; have HO111 := n0_; have HB := n1_; clear n0_ n1_; (try clear hb); (try clear hb2); (try clear hk); (try clear hi); (try clear ho0)) | ((with_reducible refine gate_callee (f := 16) rfl ?_); refine goesL_ (some 13) rfl rfl Try.func16 (by kernel_rfl) rfl #[.string (⟨#[116, 97, 115, 107, 32, 97, 32, 99, 61, 49, 32, 99, 61, 50]⟩ : ByteArray)] rfl (by (try simp only [List.map_toArray, List.map_cons, List.map_nil]); first | done | rfl | (simp only [List.length_drop, List.length_take]; rfl)) ?_; (with_reducible refine (text_Parse.calls (⟨#[116, 97, 115, 107, 32, 97, 32, 99, 61, 49, 32, 99, 61, 50]⟩ : ByteArray) t112 t113 t114 _ A2.out).mono ?_); rintro e w24 ⟨v115, rfl, ho0, hb⟩; refine ⟨_, rfl, ?_⟩; have n0_ := Aside0.mk (Kd.R_elder' (by (with_reducible repeat (first | apply Kd.R_alloc | apply Kd.R_drewN | apply Kd.R_drew)); exact HO111.out) (Kd.R_base ho0) hb); have n1_ := Aside0.mk (Kd.R_lower (Kd.R_new' ho0 (Kd.R_lt (by (with_reducible repeat (first | apply Kd.R_alloc | apply Kd.R_drewN | apply Kd.R_drew)); exact HO111.out))) (below_size (by repeat (first | (with_reducible first | exact HB.out | apply below_alloc | apply pw_below_drewN | apply below_drew1) | exact HB.out)))); have n2_ := Aside0.mk (below_step (by repeat (first | (with_reducible first | exact HB.out | apply below_alloc | apply pw_below_drewN | apply below_drew1) | exact HB.out)) hb); clear HO111; clear HB; have HO111 := n0_; have HO116 := n1_; have HB := n2_; clear n0_ n1_ n2_; (try clear hb); (try clear hb2); (try clear hk); (try clear hi); (try clear ho0)))
    go_ret
    exact ⟨by first | rfl | (simp [errW_none, errW_some] <;> rfl) | (simp [*, errW_none, errW_some] <;> rfl), by repeat (first | (with_reducible first | exact HB.out | apply below_alloc | apply pw_below_drewN | apply below_drew1) | exact HB.out)⟩

/-! ### cadencyref05_Digits: function 12 -/
mutual
def cadencyref05_Digits.l0 : Nat → Int → ByteArray → Int → Option (ByteArray)
  | 0, _, _, _ => none
  | k + 1, x0, x3, x4 => if x4 = 0 then (cadencyref05_Digits.j1 k x0 x3 x4 (x3.toList == ([] : List UInt8))) else (cadencyref05_Digits.j1 k x0 x3 x4 true)
def cadencyref05_Digits.j1 : Nat → Int → ByteArray → Int → Bool → Option (ByteArray)
  | 0, _, _, _, _ => none
  | k + 1, x0, x3, x4, x12 => if x12 = true then (if (Int.tmod x4 10) < 0 then ((some (([(wrap64 (48 + (wrap64 (-(Int.tmod x4 10))))) % 256] : List Int) : List Int)).bind fun y118 => (if (strOfNums y118).size + x3.size ≤ 9223372036854775807 then (cadencyref05_Digits.l0 k x0 ((strOfNums y118) ++ x3) (wrap64 (Int.tdiv x4 10))) else (none))) else ((some (([(wrap64 (48 + (Int.tmod x4 10))) % 256] : List Int) : List Int)).bind fun y121 => (if (strOfNums y121).size + x3.size ≤ 9223372036854775807 then (cadencyref05_Digits.l0 k x0 ((strOfNums y121) ++ x3) (wrap64 (Int.tdiv x4 10))) else (none)))) else (if x0 < 0 then (if 1 + x3.size ≤ 9223372036854775807 then (some ((⟨#[45]⟩ : ByteArray) ++ x3)) else (none)) else (some x3))
end
def cadencyref05_Digits.f (k : Nat) (a0 : Int) : Option (ByteArray) := cadencyref05_Digits.l0 k a0 (⟨#[]⟩ : ByteArray) a0
set_option maxHeartbeats 8000000 in
set_option maxRecDepth 100000 in
theorem cadencyref05_Digits.calls (k : Nat) (a0 : Int) (r : ByteArray) (w : World) (h : cadencyref05_Digits.f k a0 = some r) :
    Calls Try.prog 12 #[.int .i64 a0] w fun e w' => e = .returned (.string r) ∧ Below w.heap.size w w' := by
  have HB := Aside0.mk (Below.refl w.heap.size w)
  have H : (cadencyref05_Digits.l0 k a0 (⟨#[]⟩ : ByteArray) a0) = some r := h
  clear h
  have H' := Aside0.mk H
  clear H
  go_enter Try.func12, Try.ntmps12
  go_wp2
  go_loopg [3, 4] k (fun kq v3 v4 w' => ∃ (x3_1 : ByteArray) (x4_1 : Int), v3 = .string x3_1 ∧ v4 = .int .i64 x4_1 ∧ Aside0 (cadencyref05_Digits.l0 kq a0 x3_1 x4_1 = some r) ∧ Aside0 (kq ≤ k) ∧ Aside0 (Below w.heap.size w w'))
  case atStart => exact ⟨((⟨#[]⟩ : ByteArray)), (a0), (by first | rfl | (simp; done) | (simp [*]; done)), (by first | rfl | (simp; done) | (simp [*]; done)), H', ⟨Nat.le_refl _⟩, ⟨by repeat (first | (with_reducible first | exact HB.out | apply below_alloc | apply pw_below_drewN | apply below_drew1) | exact HB.out)⟩⟩
  case round =>
    clear H'
    try clear c1
    obtain ⟨x3_1, x4_1, rfl, rfl, HA, HK1, HB⟩ := hrel
    cases gk with
    | zero => exact absurd HA.out (by simp [cadencyref05_Digits.l0])
    | succ k1 =>
      have H := HA.out
      clear HA
      simp only [cadencyref05_Digits.l0] at H
      have HC2 := Aside0.mk H
      clear H
      go_upto_region 3 with (fail)
      go_cut [12] (fun v12 wc => ∃ (kq : Nat) (x12_1 : Bool), v12 = .bool x12_1 ∧ Aside0 (cadencyref05_Digits.j1 kq a0 x3_1 x4_1 x12_1 = some r) ∧ Aside0 (kq ≤ k1) ∧ Aside0 (Below w.heap.size w wc))
      case first =>
        have H := HC2.out
        clear HC2
        by_cases c3 : x4_1 = 0
        · rw [if_pos c3] at H
          have c3b0 : (x4_1 == 0) = true := beq_iff_eq.mpr c3
          have c3b1 : (x4_1 != 0) = false := bne_eq_false_iff_eq.mpr c3
          clear c3
          (first | rw [c3b0] | (simp only [i64_w, i32_w]; rw [c3b0]) | skip)
          have H' := Aside0.mk H
          clear H
          go_wp2
          go_meet
          case rel => exact ⟨_, ((x3_1.toList == ([] : List UInt8))), (by first | rfl | (simp; done) | (simp [*]; done)), H', ⟨by have := HK1.out; first | omega | exact Nat.le_refl _⟩, ⟨by repeat (first | (with_reducible first | exact HB.out | apply below_alloc | apply pw_below_drewN | apply below_drew1) | exact HB.out)⟩⟩
        · rw [if_neg c3] at H
          have c3b0 : (x4_1 == 0) = false := beq_eq_false_iff_ne.mpr c3
          have c3b1 : (x4_1 != 0) = true := bne_iff_ne.mpr c3
          (first | rw [c3b0] | (simp only [i64_w, i32_w]; rw [c3b0]) | skip)
          have H' := Aside0.mk H
          clear H
          go_wp2
          go_meet
          case rel => exact ⟨_, (true), (by first | rfl | (simp; done) | (simp [*]; done)), H', ⟨by have := HK1.out; first | omega | exact Nat.le_refl _⟩, ⟨by repeat (first | (with_reducible first | exact HB.out | apply below_alloc | apply pw_below_drewN | apply below_drew1) | exact HB.out)⟩⟩
      case rest =>
        clear HC2
        try clear c1
        try clear p2
        try clear c3
        try clear c3b0
        try clear c3b1
        obtain ⟨kq, x12_1, rfl, HA, HJ1, HB⟩ := hcut
        cases kq with
        | zero => exact absurd HA.out (by simp [cadencyref05_Digits.j1])
        | succ kj1 =>
          have H := HA.out
          clear HA
          simp only [cadencyref05_Digits.j1] at H
          by_cases c4 : x12_1 = true
          · subst c4
            have H1 : (if (Int.tmod x4_1 10) < 0 then ((some (([(wrap64 (48 + (wrap64 (-(Int.tmod x4_1 10))))) % 256] : List Int) : List Int)).bind fun y118 => (if (strOfNums y118).size + x3_1.size ≤ 9223372036854775807 then (cadencyref05_Digits.l0 kj1 a0 ((strOfNums y118) ++ x3_1) (wrap64 (Int.tdiv x4_1 10))) else (none))) else ((some (([(wrap64 (48 + (Int.tmod x4_1 10))) % 256] : List Int) : List Int)).bind fun y121 => (if (strOfNums y121).size + x3_1.size ≤ 9223372036854775807 then (cadencyref05_Digits.l0 kj1 a0 ((strOfNums y121) ++ x3_1) (wrap64 (Int.tdiv x4_1 10))) else (none)))) = some r := by rw [if_pos rfl] at H; exact H
            clear H
            have H := H1
            clear H1
            by_cases c5 : (Int.tmod x4_1 10) < 0
            · rw [if_pos c5] at H
              have c5b0 : decide ((Int.tmod x4_1 10) < 0) = true := decide_eq_true c5
              clear c5
              obtain ⟨y118, hy118⟩ : ∃ y_ : List Int, y_ = (([(wrap64 (48 + (wrap64 (-(Int.tmod x4_1 10))))) % 256] : List Int)) := ⟨_, rfl⟩
              replace H : (if (strOfNums y118).size + x3_1.size ≤ 9223372036854775807 then (cadencyref05_Digits.l0 kj1 a0 ((strOfNums y118) ++ x3_1) (wrap64 (Int.tdiv x4_1 10))) else (none)) = some r := by first | (rw [hy118]; with_reducible exact H) | (have H2_ := (Option.bind_some _ _).symm.trans H; rw [hy118]; with_reducible exact H2_) | (have H2_ := (Option.bind_some _ _).symm.trans H; with_reducible exact H2_) | with_reducible exact H | (rw [hy118]; exact H) | exact H
              have Ny118 := Aside0.mk hy118
              clear hy118
              by_cases c6 : (strOfNums y118).size + x3_1.size ≤ 9223372036854775807
              · rw [if_pos c6] at H
                have c6b0 := eq_true c6
                have c6b1 : decide ((strOfNums y118).size + x3_1.size ≤ 9223372036854775807) = true := decide_eq_true c6
                try have c6b2 : (9223372036854775807 < (strOfNums y118).size + x3_1.size) = False := eq_false (Nat.not_lt.2 c6)
                have H' := Aside0.mk H
                clear H
                go_wp2_with (first | ((with_reducible refine gate_dst (N := 22) rfl ?_); refine Kd.R_lit (Kd.int .u8) _ 5 ?hg (N := 22) ?hd (xs := ([(wrap64 (48 + (wrap64 (-(Int.tmod x4_1 10))))) % 256] : List Int)) (inner := [.int .u8 ((wrap64 (48 + (wrap64 (-(Int.tmod x4_1 10))))) % 256)]) (ok := fun _ => True) (okp := fun _ => True) ?hr ?hp (fun _ hk => hk) trivial (Below.refl _ _) (Nat.le_refl _) (by simp) ?_; (case hd => rfl); (case hg => rfl); (case hr => first | (go_simp; done) | (go_simp; rfl)); (case hp => exact (Reps.one (show Kd.M (Kd.int .u8) _ _ _ ((wrap64 (48 + (wrap64 (-(Int.tmod x4_1 10))))) % 256) [.int .u8 ((wrap64 (48 + (wrap64 (-(Int.tmod x4_1 10))))) % 256)] from rfl) (Reps.none _ _))); intro v119 w7 ho8 hb hg_ hnew_; clear hg_ hnew_; (first | rw [← Ny118.out] at ho8 | (simp only [Int.reduceToNat] at ho8; rw [← Ny118.out] at ho8)); have n0_ := Aside0.mk (Kd.R_lower ho8 (below_size (by repeat (first | (with_reducible first | exact HB.out | apply below_alloc | apply pw_below_drewN | apply below_drew1) | exact HB.out)))); have n1_ := Aside0.mk (below_step (by repeat (first | (with_reducible first | exact HB.out | apply below_alloc | apply pw_below_drewN | apply below_drew1) | exact HB.out)) hb); clear HB; have HO120 := n0_; have HB := n1_; clear n0_ n1_; clear hb ho8; have hcv9 := own_string (P := Try.prog) Try.underlying44 Try.underlying5 Try.underlying9 (Kd.own_of_R HO120.out)))
                go_roundg kj1
                case measure => have := HK1.out; have := HJ1.out; omega
                case rel => exact ⟨((strOfNums y118) ++ x3_1), (wrap64 (Int.tdiv x4_1 10)), (by first | rfl | (simp; done) | (simp [*]; done)), (by first | rfl | (simp; done) | (simp [*]; done)), H', ⟨by have := HK1.out; have := HJ1.out; omega⟩, ⟨by repeat (first | (with_reducible first | exact HB.out | apply below_alloc | apply pw_below_drewN | apply below_drew1) | exact HB.out)⟩⟩
              · rw [if_neg c6] at H
                exact absurd H (by simp)
            · rw [if_neg c5] at H
              have c5b0 : decide ((Int.tmod x4_1 10) < 0) = false := decide_eq_false c5
              clear c5
              obtain ⟨y121, hy121⟩ : ∃ y_ : List Int, y_ = (([(wrap64 (48 + (Int.tmod x4_1 10))) % 256] : List Int)) := ⟨_, rfl⟩
              replace H : (if (strOfNums y121).size + x3_1.size ≤ 9223372036854775807 then (cadencyref05_Digits.l0 kj1 a0 ((strOfNums y121) ++ x3_1) (wrap64 (Int.tdiv x4_1 10))) else (none)) = some r := by first | (rw [hy121]; with_reducible exact H) | (have H2_ := (Option.bind_some _ _).symm.trans H; rw [hy121]; with_reducible exact H2_) | (have H2_ := (Option.bind_some _ _).symm.trans H; with_reducible exact H2_) | with_reducible exact H | (rw [hy121]; exact H) | exact H
              have Ny121 := Aside0.mk hy121
              clear hy121
              by_cases c10 : (strOfNums y121).size + x3_1.size ≤ 9223372036854775807
              · rw [if_pos c10] at H
                have c10b0 := eq_true c10
                have c10b1 : decide ((strOfNums y121).size + x3_1.size ≤ 9223372036854775807) = true := decide_eq_true c10
                try have c10b2 : (9223372036854775807 < (strOfNums y121).size + x3_1.size) = False := eq_false (Nat.not_lt.2 c10)
                have H' := Aside0.mk H
                clear H
                go_wp2_with (first | ((with_reducible refine gate_dst (N := 22) rfl ?_); refine Kd.R_lit (Kd.int .u8) _ 5 ?hg (N := 22) ?hd (xs := ([(wrap64 (48 + (Int.tmod x4_1 10))) % 256] : List Int)) (inner := [.int .u8 ((wrap64 (48 + (Int.tmod x4_1 10))) % 256)]) (ok := fun _ => True) (okp := fun _ => True) ?hr ?hp (fun _ hk => hk) trivial (Below.refl _ _) (Nat.le_refl _) (by simp) ?_; (case hd => rfl); (case hg => rfl); (case hr => first | (go_simp; done) | (go_simp; rfl)); (case hp => exact (Reps.one (show Kd.M (Kd.int .u8) _ _ _ ((wrap64 (48 + (Int.tmod x4_1 10))) % 256) [.int .u8 ((wrap64 (48 + (Int.tmod x4_1 10))) % 256)] from rfl) (Reps.none _ _))); intro v122 w11 ho12 hb hg_ hnew_; clear hg_ hnew_; (first | rw [← Ny121.out] at ho12 | (simp only [Int.reduceToNat] at ho12; rw [← Ny121.out] at ho12)); have n0_ := Aside0.mk (Kd.R_lower ho12 (below_size (by repeat (first | (with_reducible first | exact HB.out | apply below_alloc | apply pw_below_drewN | apply below_drew1) | exact HB.out)))); have n1_ := Aside0.mk (below_step (by repeat (first | (with_reducible first | exact HB.out | apply below_alloc | apply pw_below_drewN | apply below_drew1) | exact HB.out)) hb); clear HB; have HO123 := n0_; have HB := n1_; clear n0_ n1_; clear hb ho12; have hcv13 := own_string (P := Try.prog) Try.underlying44 Try.underlying5 Try.underlying9 (Kd.own_of_R HO123.out)))
                go_roundg kj1
                case measure => have := HK1.out; have := HJ1.out; omega
                case rel => exact ⟨((strOfNums y121) ++ x3_1), (wrap64 (Int.tdiv x4_1 10)), (by first | rfl | (simp; done) | (simp [*]; done)), (by first | rfl | (simp; done) | (simp [*]; done)), H', ⟨by have := HK1.out; have := HJ1.out; omega⟩, ⟨by repeat (first | (with_reducible first | exact HB.out | apply below_alloc | apply pw_below_drewN | apply below_drew1) | exact HB.out)⟩⟩
              · rw [if_neg c10] at H
                exact absurd H (by simp)
          · replace c4 := Bool.eq_false_iff.mpr c4
            subst c4
            have H1 : (if a0 < 0 then (if 1 + x3_1.size ≤ 9223372036854775807 then (some ((⟨#[45]⟩ : ByteArray) ++ x3_1)) else (none)) else (some x3_1)) = some r := by rw [if_neg (show ¬ (false = true) by decide)] at H; exact H
            clear H
            have H := H1
            clear H1
            by_cases c14 : a0 < 0
            · rw [if_pos c14] at H
              have c14b0 : decide (a0 < 0) = true := decide_eq_true c14
              clear c14
              by_cases c15 : 1 + x3_1.size ≤ 9223372036854775807
              · rw [if_pos c15] at H
                have c15b0 := eq_true c15
                have c15b1 : decide (1 + x3_1.size ≤ 9223372036854775807) = true := decide_eq_true c15
                try have c15b2 : (9223372036854775807 < 1 + x3_1.size) = False := eq_false (Nat.not_lt.2 c15)
                obtain rfl := Option.some.inj H
                go_wp2
                go_ret
                exact ⟨by first | rfl | (simp [errW_none, errW_some] <;> rfl) | (simp [*, errW_none, errW_some] <;> rfl), by repeat (first | (with_reducible first | exact HB.out | apply below_alloc | apply pw_below_drewN | apply below_drew1) | exact HB.out)⟩
              · rw [if_neg c15] at H
                exact absurd H (by simp)
            · rw [if_neg c14] at H
              have c14b0 : decide (a0 < 0) = false := decide_eq_false c14
              clear c14
              obtain rfl := Option.some.inj H
              go_wp2
              go_ret
              exact ⟨by first | rfl | (simp [errW_none, errW_some] <;> rfl) | (simp [*, errW_none, errW_some] <;> rfl), by repeat (first | (with_reducible first | exact HB.out | apply below_alloc | apply pw_below_drewN | apply below_drew1) | exact HB.out)⟩

end Go.Proofs.Ytefdcjmfbjlinaa.A
