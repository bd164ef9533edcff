-- written by a program (wip/dev/print2.sh): functions of the program as plain Lean, with their contracts
import Derived.Test.YtefdcjmfbjlinaaAx0
import Derived.Test.YtefdcjmfbjlinaaAx2
import Derived.Test.YtefdcjmfbjlinaaAx4
import Derived.Test.YtefdcjmfbjlinaaAx5
import Derived.Test.YtefdcjmfbjlinaaAx8
import Derived.Test.YtefdcjmfbjlinaaAx9
namespace Go.Proofs.Ytefdcjmfbjlinaa.A
open Go.RowKit Go.Proofs.YtefdcjmfbjlinaaW.PrintWords Go.Proofs.YtefdcjmfbjlinaaW.PrintLast Go.Proofs.YtefdcjmfbjlinaaW.PrintMore
set_option linter.unusedVariables false
set_option linter.unusedSimpArgs false

/-! ### cadencylaw05_TextParses: function 3 -/
def cadencylaw05_TextParses.f (k : Nat) (a0 : ByteArray) (l1 : List (S43)) (a2_0 : Int) (a2_1 : Int) (a2_2 : Int) : Option (Bool) := (cadencylaw05_awake.f).bind fun t258 => ((cadencyref04_Set.f k l1 6 a2_1).bind fun t259 => ((cadencyref05_Print.f k t259).bind fun t262 => (if t258 = true then ((cadencylaw05_short.f a0).bind fun t263 => ((cadencylaw05_parses.f k t263).bind fun t264 => (if t264 = true then ((cadencylaw05_parses.f k t262).bind fun t265 => (if t265 = true then ((cadencylaw05_spoilt.f t262 a2_0 a2_1 a2_2).bind fun t266 => ((cadencylaw05_parses.f k t266).bind fun t267 => (if t267 = true then ((cadencylaw05_short.f a0).bind fun t268 => (if t262.size + t268.size ≤ 9223372036854775807 then ((cadencylaw05_spoilt.f (t262 ++ t268) a2_0 a2_1 a2_2).bind fun t269 => ((cadencylaw05_parses.f k t269).bind fun t270 => (some t270))) else (none))) else (some false)))) else (some false))) else (some false)))) else (some false))))
def cadencylaw05_TextParses.T3 : Bool × List (List Nat × List Nat) := (true, [([], []), ([0], [0]), ([1], [1]), ([2, 1, 1], [1, 2]), ([3, 3, 1], [1, 3]), ([1, 4], [1, 4]), ([5, 4], [5]), ([6], [6]), ([7, 6, 6], [6, 7]), ([6, 8], [6, 8]), ([9, 8], [9]), ([10], [10]), ([10], [10]), ([11, 12, 10, 10], [10, 11, 12]), ([13, 13, 10], [10, 13]), ([10, 14], [10, 14]), ([15, 14], [15]), ([16], [16]), ([16], [16]), ([18, 16, 16], [16, 18]), ([17, 19, 16], [16, 17, 19]), ([16], [16]), ([20, 21, 19, 16], [16, 20, 21]), ([22, 22, 16], [16, 22]), ([16, 23], [16, 23]), ([24, 23, 0, 1, 2, 3, 4, 5, 6, 7, 8, 9, 10, 11, 12, 13, 14, 15, 16, 17, 18, 19, 20, 21, 22, 23, 24], [24])])
def cadencylaw05_TextParses.B3 : List Nat := [0, 1, 3, 7, 15, 31, 63, 127, 255, 511, 1023, 2047, 2047, 8191, 16383, 32767, 65535, 131071, 131071, 393215, 1048575, 131071, 4194303, 8388607, 16777215, 33554431]
theorem cadencylaw05_TextParses.tab3 : rtab .any (opsOf Try.f3 3) = cadencylaw05_TextParses.T3 := by kernel_rfl
theorem cadencylaw05_TextParses.bits3 : waitsOk cadencylaw05_TextParses.T3.2 cadencylaw05_TextParses.B3 = true := by kernel_rfl
set_option maxHeartbeats 8000000 in
set_option maxRecDepth 100000 in
theorem cadencylaw05_TextParses.calls (k : Nat) (a0 : ByteArray) (A1 : Option Addr) (c1 : Nat) (l1 : List (S43)) (a2_0 : Int) (a2_1 : Int) (a2_2 : Int) (r : Bool) (w : World) (hr1 : Kd.C k43 w A1 l1.length l1) (hc1 : l1.length ≤ c1) (hr : Aside0 (r = true)) (h : cadencylaw05_TextParses.f k a0 l1 a2_0 a2_1 a2_2 = some r) :
    Calls Try.prog 3 #[.string a0, .slice A1 l1.length c1, .agg #[.int .i64 a2_0, .int .i64 a2_1, .int .i64 a2_2]] w fun e w' => e = .returned (.bool r) ∧ Below w.heap.size w w' := by
  have hu23 := Try.underlying23
  have HR1 := Aside0.mk hr1
  have HC1 := Aside0.mk hc1
  clear hr1 hc1
  have HB := Aside0.mk (Below.refl w.heap.size w)
  have H : ((cadencylaw05_awake.f).bind fun t258 => ((cadencyref04_Set.f k l1 6 a2_1).bind fun t259 => ((cadencyref05_Print.f k t259).bind fun t262 => (if t258 = true then ((cadencylaw05_short.f a0).bind fun t263 => ((cadencylaw05_parses.f k t263).bind fun t264 => (if t264 = true then ((cadencylaw05_parses.f k t262).bind fun t265 => (if t265 = true then ((cadencylaw05_spoilt.f t262 a2_0 a2_1 a2_2).bind fun t266 => ((cadencylaw05_parses.f k t266).bind fun t267 => (if t267 = true then ((cadencylaw05_short.f a0).bind fun t268 => (if t262.size + t268.size ≤ 9223372036854775807 then ((cadencylaw05_spoilt.f (t262 ++ t268) a2_0 a2_1 a2_2).bind fun t269 => ((cadencylaw05_parses.f k t269).bind fun t270 => (some t270))) else (none))) else (some false)))) else (some false))) else (some false)))) else (some false))))) = some r := h
  clear h
  replace H := Option.bind_eq_some_iff.mp H
  obtain ⟨t258, A40, H⟩ := H
  replace H : ((cadencyref04_Set.f k l1 6 a2_1).bind fun t259 => ((cadencyref05_Print.f k t259).bind fun t262 => (if t258 = true then ((cadencylaw05_short.f a0).bind fun t263 => ((cadencylaw05_parses.f k t263).bind fun t264 => (if t264 = true then ((cadencylaw05_parses.f k t262).bind fun t265 => (if t265 = true then ((cadencylaw05_spoilt.f t262 a2_0 a2_1 a2_2).bind fun t266 => ((cadencylaw05_parses.f k t266).bind fun t267 => (if t267 = true then ((cadencylaw05_short.f a0).bind fun t268 => (if t262.size + t268.size ≤ 9223372036854775807 then ((cadencylaw05_spoilt.f (t262 ++ t268) a2_0 a2_1 a2_2).bind fun t269 => ((cadencylaw05_parses.f k t269).bind fun t270 => (some t270))) else (none))) else (some false)))) else (some false))) else (some false)))) else (some false)))) = some r := H
  have A4 := Aside0.mk A40
  clear A40
  replace H := Option.bind_eq_some_iff.mp H
  obtain ⟨t259, A50, H⟩ := H
  replace H : ((cadencyref05_Print.f k t259).bind fun t262 => (if t258 = true then ((cadencylaw05_short.f a0).bind fun t263 => ((cadencylaw05_parses.f k t263).bind fun t264 => (if t264 = true then ((cadencylaw05_parses.f k t262).bind fun t265 => (if t265 = true then ((cadencylaw05_spoilt.f t262 a2_0 a2_1 a2_2).bind fun t266 => ((cadencylaw05_parses.f k t266).bind fun t267 => (if t267 = true then ((cadencylaw05_short.f a0).bind fun t268 => (if t262.size + t268.size ≤ 9223372036854775807 then ((cadencylaw05_spoilt.f (t262 ++ t268) a2_0 a2_1 a2_2).bind fun t269 => ((cadencylaw05_parses.f k t269).bind fun t270 => (some t270))) else (none))) else (some false)))) else (some false))) else (some false)))) else (some false))) = some r := H
  have A5 := Aside0.mk A50
  clear A50
  replace H := Option.bind_eq_some_iff.mp H
  obtain ⟨t262, A60, H⟩ := H
  replace H : (if t258 = true then ((cadencylaw05_short.f a0).bind fun t263 => ((cadencylaw05_parses.f k t263).bind fun t264 => (if t264 = true then ((cadencylaw05_parses.f k t262).bind fun t265 => (if t265 = true then ((cadencylaw05_spoilt.f t262 a2_0 a2_1 a2_2).bind fun t266 => ((cadencylaw05_parses.f k t266).bind fun t267 => (if t267 = true then ((cadencylaw05_short.f a0).bind fun t268 => (if t262.size + t268.size ≤ 9223372036854775807 then ((cadencylaw05_spoilt.f (t262 ++ t268) a2_0 a2_1 a2_2).bind fun t269 => ((cadencylaw05_parses.f k t269).bind fun t270 => (some t270))) else (none))) else (some false)))) else (some false))) else (some false)))) else (some false)) = some r := H
  have A6 := Aside0.mk A60
  clear A60
  by_cases c7 : t258 = true
  · subst c7
    have H1 : ((cadencylaw05_short.f a0).bind fun t263 => ((cadencylaw05_parses.f k t263).bind fun t264 => (if t264 = true then ((cadencylaw05_parses.f k t262).bind fun t265 => (if t265 = true then ((cadencylaw05_spoilt.f t262 a2_0 a2_1 a2_2).bind fun t266 => ((cadencylaw05_parses.f k t266).bind fun t267 => (if t267 = true then ((cadencylaw05_short.f a0).bind fun t268 => (if t262.size + t268.size ≤ 9223372036854775807 then ((cadencylaw05_spoilt.f (t262 ++ t268) a2_0 a2_1 a2_2).bind fun t269 => ((cadencylaw05_parses.f k t269).bind fun t270 => (some t270))) else (none))) else (some false)))) else (some false))) else (some false)))) = some r := by rw [if_pos rfl] at H; exact H
    clear H
    have H := H1
    clear H1
    replace H := Option.bind_eq_some_iff.mp H
    obtain ⟨t263, A80, H⟩ := H
    replace H : ((cadencylaw05_parses.f k t263).bind fun t264 => (if t264 = true then ((cadencylaw05_parses.f k t262).bind fun t265 => (if t265 = true then ((cadencylaw05_spoilt.f t262 a2_0 a2_1 a2_2).bind fun t266 => ((cadencylaw05_parses.f k t266).bind fun t267 => (if t267 = true then ((cadencylaw05_short.f a0).bind fun t268 => (if t262.size + t268.size ≤ 9223372036854775807 then ((cadencylaw05_spoilt.f (t262 ++ t268) a2_0 a2_1 a2_2).bind fun t269 => ((cadencylaw05_parses.f k t269).bind fun t270 => (some t270))) else (none))) else (some false)))) else (some false))) else (some false))) = some r := H
    have A8 := Aside0.mk A80
    clear A80
    replace H := Option.bind_eq_some_iff.mp H
    obtain ⟨t264, A90, H⟩ := H
    replace H : (if t264 = true then ((cadencylaw05_parses.f k t262).bind fun t265 => (if t265 = true then ((cadencylaw05_spoilt.f t262 a2_0 a2_1 a2_2).bind fun t266 => ((cadencylaw05_parses.f k t266).bind fun t267 => (if t267 = true then ((cadencylaw05_short.f a0).bind fun t268 => (if t262.size + t268.size ≤ 9223372036854775807 then ((cadencylaw05_spoilt.f (t262 ++ t268) a2_0 a2_1 a2_2).bind fun t269 => ((cadencylaw05_parses.f k t269).bind fun t270 => (some t270))) else (none))) else (some false)))) else (some false))) else (some false)) = some r := H
    have A9 := Aside0.mk A90
    clear A90
    by_cases c10 : t264 = true
    · subst c10
      have H1 : ((cadencylaw05_parses.f k t262).bind fun t265 => (if t265 = true then ((cadencylaw05_spoilt.f t262 a2_0 a2_1 a2_2).bind fun t266 => ((cadencylaw05_parses.f k t266).bind fun t267 => (if t267 = true then ((cadencylaw05_short.f a0).bind fun t268 => (if t262.size + t268.size ≤ 9223372036854775807 then ((cadencylaw05_spoilt.f (t262 ++ t268) a2_0 a2_1 a2_2).bind fun t269 => ((cadencylaw05_parses.f k t269).bind fun t270 => (some t270))) else (none))) else (some false)))) else (some false))) = some r := by rw [if_pos rfl] at H; exact H
      clear H
      have H := H1
      clear H1
      replace H := Option.bind_eq_some_iff.mp H
      obtain ⟨t265, A110, H⟩ := H
      replace H : (if t265 = true then ((cadencylaw05_spoilt.f t262 a2_0 a2_1 a2_2).bind fun t266 => ((cadencylaw05_parses.f k t266).bind fun t267 => (if t267 = true then ((cadencylaw05_short.f a0).bind fun t268 => (if t262.size + t268.size ≤ 9223372036854775807 then ((cadencylaw05_spoilt.f (t262 ++ t268) a2_0 a2_1 a2_2).bind fun t269 => ((cadencylaw05_parses.f k t269).bind fun t270 => (some t270))) else (none))) else (some false)))) else (some false)) = some r := H
      have A11 := Aside0.mk A110
      clear A110
      by_cases c12 : t265 = true
      · subst c12
        have H1 : ((cadencylaw05_spoilt.f t262 a2_0 a2_1 a2_2).bind fun t266 => ((cadencylaw05_parses.f k t266).bind fun t267 => (if t267 = true then ((cadencylaw05_short.f a0).bind fun t268 => (if t262.size + t268.size ≤ 9223372036854775807 then ((cadencylaw05_spoilt.f (t262 ++ t268) a2_0 a2_1 a2_2).bind fun t269 => ((cadencylaw05_parses.f k t269).bind fun t270 => (some t270))) else (none))) else (some false)))) = some r := by rw [if_pos rfl] at H; exact H
        clear H
        have H := H1
        clear H1
        replace H := Option.bind_eq_some_iff.mp H
        obtain ⟨t266, A130, H⟩ := H
        replace H : ((cadencylaw05_parses.f k t266).bind fun t267 => (if t267 = true then ((cadencylaw05_short.f a0).bind fun t268 => (if t262.size + t268.size ≤ 9223372036854775807 then ((cadencylaw05_spoilt.f (t262 ++ t268) a2_0 a2_1 a2_2).bind fun t269 => ((cadencylaw05_parses.f k t269).bind fun t270 => (some t270))) else (none))) else (some false))) = some r := H
        have A13 := Aside0.mk A130
        clear A130
        replace H := Option.bind_eq_some_iff.mp H
        obtain ⟨t267, A140, H⟩ := H
        replace H : (if t267 = true then ((cadencylaw05_short.f a0).bind fun t268 => (if t262.size + t268.size ≤ 9223372036854775807 then ((cadencylaw05_spoilt.f (t262 ++ t268) a2_0 a2_1 a2_2).bind fun t269 => ((cadencylaw05_parses.f k t269).bind fun t270 => (some t270))) else (none))) else (some false)) = some r := H
        have A14 := Aside0.mk A140
        clear A140
        by_cases c15 : t267 = true
        · subst c15
          have H1 : ((cadencylaw05_short.f a0).bind fun t268 => (if t262.size + t268.size ≤ 9223372036854775807 then ((cadencylaw05_spoilt.f (t262 ++ t268) a2_0 a2_1 a2_2).bind fun t269 => ((cadencylaw05_parses.f k t269).bind fun t270 => (some t270))) else (none))) = some r := by rw [if_pos rfl] at H; exact H
          clear H
          have H := H1
          clear H1
          replace H := Option.bind_eq_some_iff.mp H
          obtain ⟨t268, A160, H⟩ := H
          replace H : (if t262.size + t268.size ≤ 9223372036854775807 then ((cadencylaw05_spoilt.f (t262 ++ t268) a2_0 a2_1 a2_2).bind fun t269 => ((cadencylaw05_parses.f k t269).bind fun t270 => (some t270))) else (none)) = some r := H
          have A16 := Aside0.mk A160
          clear A160
          by_cases c17 : t262.size + t268.size ≤ 9223372036854775807
          · rw [if_pos c17] at H
            have c17b0 := eq_true c17
            have c17b1 : decide (t262.size + t268.size ≤ 9223372036854775807) = true := decide_eq_true c17
            try have c17b2 : (9223372036854775807 < t262.size + t268.size) = False := eq_false (Nat.not_lt.2 c17)
            replace H := Option.bind_eq_some_iff.mp H
            obtain ⟨t269, A180, H⟩ := H
            replace H : ((cadencylaw05_parses.f k t269).bind fun t270 => (some t270)) = some r := H
            have A18 := Aside0.mk A180
            clear A180
            replace H := Option.bind_eq_some_iff.mp H
            obtain ⟨t270, A190, H⟩ := H
            replace H : (some t270) = some r := H
            have A19 := Aside0.mk A190
            clear A190
            obtain rfl := Option.some.inj H
            go_enter Try.func3, Try.ntmps3
            try go_wp2_with (first | ((with_reducible refine gate_dst (N := 5) rfl ?_); refine box_event ?hg (N := 5) ?hd (cs := #[.int .i64 a2_0, .int .i64 a2_1, .int .i64 a2_2]) (t := 23) ?hr ?_; (case hd => rfl); (case hg => rfl); (case hr => first | (go_simp; done) | (go_simp; rfl)); intro gb257 hg w20 hbox hb; have n0_ := Aside0.mk (below_step (by repeat (first | (with_reducible first | exact HB.out | apply below_alloc | apply pw_below_drewN | apply below_drew1) | exact HB.out)) hb); have n1_ := Aside0.mk (hbox); have n2_ := Aside0.mk ((by rw [hg]; exact (below_size (by repeat (first | (with_reducible first | exact HB.out | apply below_alloc | apply pw_below_drewN | apply below_drew1) | exact HB.out))) : w.heap.size ≤ gb257)); have n3_ := Aside0.mk ((by rw [hg]; exact (below_size (by repeat (first | (with_reducible first | exact HB.out | apply below_alloc | apply pw_below_drewN | apply below_drew1) | exact HB.out))) : w.heap.size ≤ gb257)); clear HB; have HB := n0_; have BK257 := n1_; have GW257 := n2_; have GE257 := n3_; clear n0_ n1_ n2_ n3_; clear hb hbox hg) | ((with_reducible refine gate_callee (f := 6) rfl ?_); refine goesL_ (some 9) rfl rfl Try.func6 (by kernel_rfl) rfl #[] rfl (by (try simp only [List.map_toArray, List.map_cons, List.map_nil]); first | done | rfl | (simp only [List.length_drop, List.length_take]; rfl)) ?_; (with_reducible refine (cadencylaw05_awake.calls  true _ A4.out).mono ?_); rintro e w21 ⟨rfl, hb⟩; refine ⟨_, rfl, ?_⟩; have n0_ := Aside0.mk (blk_below (g := gb257) (o := .cells #[.int .i64 a2_0, .int .i64 a2_1, .int .i64 a2_2] 23 (0, 0)) (by (with_reducible repeat (first | refine blk_drewN ?_ _ | refine blk_drew ?_ | refine blk_alloc ?_ _)); exact BK257.out) hb); have n1_ := Aside0.mk (below_step (by repeat (first | (with_reducible first | exact HB.out | apply below_alloc | apply pw_below_drewN | apply below_drew1 | refine below_set ?_ GE257.out) | exact HB.out)) hb); clear BK257; clear HB; have BK257 := n0_; have HB := n1_; clear n0_ n1_; (try clear hb); (try clear hb2); (try clear hk); (try clear hi); have hcz22_0 : w21.cell? ⟨gb257, 0, none⟩ = some (.int .i64 a2_0) := (blk_cell BK257.out 0).trans rfl; have hcz22_1 : w21.cell? ⟨gb257, 1, none⟩ = some (.int .i64 a2_1) := (blk_cell BK257.out 1).trans rfl; have hcz22_2 : w21.cell? ⟨gb257, 2, none⟩ = some (.int .i64 a2_2) := (blk_cell BK257.out 2).trans rfl; have hfz22_0 := blk_frozen BK257.out 0; have hfz22_1 := blk_frozen BK257.out 1; have hfz22_2 := blk_frozen BK257.out 2) | ((with_reducible refine gate_callee (f := 8) rfl ?_); refine goesL_ (some 13) rfl rfl Try.func8 (by kernel_rfl) rfl #[.slice A1 l1.length c1, .int .i64 6, .int .i64 a2_1] rfl (by (try simp only [List.map_toArray, List.map_cons, List.map_nil]); first | done | rfl | (simp only [List.length_drop, List.length_take]; rfl)) ?_; (with_reducible refine (cadencyref04_Set.calls k _ _ l1 6 a2_1 t259 _ ?side1 ?side2 A5.out).mono ?_); (case side1 => repeat (first | exact (Kd.C_below HR1.out HB.out) | (with_reducible refine Kd.C_alloc ?_ _) | (with_reducible refine Kd.C_drewN ?_ _) | (with_reducible refine Kd.C_drew ?_))); (case side2 => exact HC1.out); rintro e w23 ⟨v260, rfl, ho0, hb⟩; refine ⟨_, rfl, ?_⟩; have n0_ := Aside0.mk (Kd.R_lower ho0 (below_size (by repeat (first | (with_reducible first | exact HB.out | apply below_alloc | apply pw_below_drewN | apply below_drew1 | refine below_set ?_ GE257.out) | exact HB.out)))); have n1_ := Aside0.mk (blk_below (g := gb257) (o := .cells #[.int .i64 a2_0, .int .i64 a2_1, .int .i64 a2_2] 23 (0, 0)) (by (with_reducible repeat (first | refine blk_drewN ?_ _ | refine blk_drew ?_ | refine blk_alloc ?_ _)); exact BK257.out) hb); have n2_ := Aside0.mk (below_step (by repeat (first | (with_reducible first | exact HB.out | apply below_alloc | apply pw_below_drewN | apply below_drew1 | refine below_set ?_ GE257.out) | exact HB.out)) hb); clear BK257; clear HB; have HO261 := n0_; have BK257 := n1_; have HB := n2_; clear n0_ n1_ n2_; (try clear hb); (try clear hb2); (try clear hk); (try clear hi); (try clear ho0); obtain ⟨Ao24, co24, eo24⟩ := Kd.R_slice HO261.out; subst eo24) | ((with_reducible refine gate_callee (f := 7) rfl ?_); refine goesL_ (some 14) rfl rfl Try.func7 (by kernel_rfl) rfl #[.slice Ao24 t259.length co24] rfl (by (try simp only [List.map_toArray, List.map_cons, List.map_nil]); first | done | rfl | (simp only [List.length_drop, List.length_take]; rfl)) ?_; (with_reducible refine (cadencyref05_Print.calls k _ _ t259 t262 _ ?side1 ?side2 A6.out).mono ?_); (case side1 => repeat (first | exact (Kd.R_reads' HO261.out).2.2 | (with_reducible refine Kd.C_alloc ?_ _) | (with_reducible refine Kd.C_drewN ?_ _) | (with_reducible refine Kd.C_drew ?_))); (case side2 => exact (Kd.R_reads' HO261.out).2.1); rintro e w25 ⟨rfl, hb⟩; refine ⟨_, rfl, ?_⟩; have n0_ := Aside0.mk (Kd.R_below (by (with_reducible repeat (first | apply Kd.R_alloc | apply Kd.R_drewN | apply Kd.R_drew)); exact HO261.out) hb); have n1_ := Aside0.mk (blk_below (g := gb257) (o := .cells #[.int .i64 a2_0, .int .i64 a2_1, .int .i64 a2_2] 23 (0, 0)) (by (with_reducible repeat (first | refine blk_drewN ?_ _ | refine blk_drew ?_ | refine blk_alloc ?_ _)); exact BK257.out) hb); have n2_ := Aside0.mk (below_step (by repeat (first | (with_reducible first | exact HB.out | apply below_alloc | apply pw_below_drewN | apply below_drew1 | refine below_set ?_ GE257.out) | exact HB.out)) hb); clear HO261; clear BK257; clear HB; have HO261 := n0_; have BK257 := n1_; have HB := n2_; clear n0_ n1_ n2_; (try clear hb); (try clear hb2); (try clear hk); (try clear hi)))
            have n0_ := Aside0.mk (Kd.R_drew HO261.out)
            have n1_ := Aside0.mk (blk_drew BK257.out)
            have n2_ := Aside0.mk (below_drew1 HB.out)
            clear HO261
            clear BK257
            clear HB
            have HO261 := n0_
            have BK257 := n1_
            have HB := n2_
            clear n0_ n1_ n2_
            refine start_ (n := 26) (S := fun w' => w'.cell? ⟨gb257, 0, none⟩ = some (.int .i64 a2_0) ∧ w'.cell? ⟨gb257, 1, none⟩ = some (.int .i64 a2_1) ∧ w'.cell? ⟨gb257, 2, none⟩ = some (.int .i64 a2_2)) (ds := []) #[false, false, false, false, false, false, false, false, false, false, false, false, false, false, false, false, false, false, false, false, false, false, false, false, false, false] (by kernel_rfl) rfl rfl ⟨(blk_cell BK257.out 0).trans rfl, (blk_cell BK257.out 1).trans rfl, (blk_cell BK257.out 2).trans rfl⟩ (fun hHeld => ?_); refine with_tabW cadencylaw05_TextParses.tab3 cadencylaw05_TextParses.bits3 (fun HT_ HW_ => ?_)
            generalize w25.drew = w26 at HO261 BK257 HB hHeld ⊢
            refine pure_ (i := 0) (N := some 15) (v := ?_) (a' := ?_) #[true, false, false, false, false, false, false, false, false, false, false, false, false, false, false, false, false, false, false, false, false, false, false, false, false, false] rfl rfl (any_of HT_.out (by kernel_rfl)) (fun _ _ _ h => h) (Or.inl ⟨by rfl, ?_⟩) ?_ ?_
            rotate_left
            · intro w'
              go_simp
              with_reducible rfl
            rotate_left
            · simp only [Act.put, List.setIfInBounds_toArray, List.set_cons_zero, List.set_cons_succ, i64_w, i32_w]
              rfl
            refine pure_ (i := 1) (N := some 16) (v := ?_) (a' := ?_) #[true, true, false, false, false, false, false, false, false, false, false, false, false, false, false, false, false, false, false, false, false, false, false, false, false, false] rfl rfl (any_of HT_.out (by kernel_rfl)) (fun _ _ _ h => h) (Or.inl ⟨by rfl, ?_⟩) ?_ ?_
            rotate_left
            · intro w'
              go_simp
              with_reducible rfl
            rotate_left
            · simp only [Act.put, List.setIfInBounds_toArray, List.set_cons_zero, List.set_cons_succ, i64_w, i32_w]
              rfl
            refine pure_ (i := 2) (N := some 17) (v := ?_) (a' := ?_) #[true, true, true, false, false, false, false, false, false, false, false, false, false, false, false, false, false, false, false, false, false, false, false, false, false, false] rfl rfl (any_of HT_.out (by kernel_rfl)) (fun _ _ _ h => h) (Or.inl ⟨by rfl, ?_⟩) ?_ ?_
            rotate_left
            · intro w'
              go_simp
              with_reducible rfl
            rotate_left
            · simp only [Act.put, List.setIfInBounds_toArray, List.set_cons_zero, List.set_cons_succ, i64_w, i32_w]
              rfl
            refine one_ (i := 3) (N := some 18) #[true, true, true, true, false, false, false, false, false, false, false, false, false, false, false, false, false, false, false, false, false, false, false, false, false, false] rfl rfl (one_of HT_.out (by kernel_rfl)) (by decide) (fun K hK => ?_)
            refine goes_ Try.func10 (by kernel_rfl) rfl #[.string a0] (by rfl) rfl rfl (by (try simp only [List.map_toArray, List.map_cons, List.map_nil]); first | done | rfl | (simp only [List.length_drop, List.length_take]; rfl)) ?_
            with_reducible refine (cadencylaw05_short.calls a0 t263 _ A8.out).mono ?_
            rintro e w' ⟨rfl, ⟨nd, rfl⟩⟩
            refine ⟨_, rfl, ?_⟩
            refine hK.out _ _ ⟨(blk_cell BK257.out 0).trans rfl, (blk_cell BK257.out 1).trans rfl, (blk_cell BK257.out 2).trans rfl⟩ (fun hHeld => ?_)
            clear hK K
            refine norm_ (a' := ?_) ?_ ?_
            rotate_left
            · show Act.put _ (some 18) _ = _
              simp only [Act.put, List.setIfInBounds_toArray, List.set_cons_zero, List.set_cons_succ, i64_w, i32_w]
              rfl
            refine one_ (i := 4) (N := some 19) #[true, true, true, true, true, false, false, false, false, false, false, false, false, false, false, false, false, false, false, false, false, false, false, false, false, false] rfl rfl (one_of HT_.out (by kernel_rfl)) (by decide) (fun K hK => ?_)
            refine goes_ Try.func9 (by kernel_rfl) rfl #[.string t263] (by rfl) rfl rfl (by (try simp only [List.map_toArray, List.map_cons, List.map_nil]); first | done | rfl | (simp only [List.length_drop, List.length_take]; rfl)) ?_
            with_reducible refine (cadencylaw05_parses.calls k t263 true _ ⟨rfl⟩ A9.out).mono ?_
            rintro e w27 ⟨rfl, hb⟩
            refine ⟨_, rfl, ?_⟩
            have n0_ := Aside0.mk (Kd.R_below (by (with_reducible repeat (first | apply Kd.R_alloc | apply Kd.R_drewN | apply Kd.R_drew)); exact HO261.out) hb)
            have n1_ := Aside0.mk (blk_below (g := gb257) (o := .cells #[.int .i64 a2_0, .int .i64 a2_1, .int .i64 a2_2] 23 (0, 0)) (by (with_reducible repeat (first | refine blk_drewN ?_ _ | refine blk_drew ?_ | refine blk_alloc ?_ _)); exact BK257.out) hb)
            have n2_ := Aside0.mk (below_step (by repeat (first | (with_reducible first | exact HB.out | apply below_alloc | apply pw_below_drewN | apply below_drew1 | refine below_set ?_ GE257.out) | exact HB.out)) hb)
            clear HO261
            clear BK257
            clear HB
            have HO261 := n0_
            have BK257 := n1_
            have HB := n2_
            clear n0_ n1_ n2_
            (try clear hb)
            (try clear hb2)
            (try clear hk)
            (try clear hi)
            refine hK.out _ _ ⟨(blk_cell BK257.out 0).trans rfl, (blk_cell BK257.out 1).trans rfl, (blk_cell BK257.out 2).trans rfl⟩ (fun hHeld => ?_)
            clear hK K
            refine norm_ (a' := ?_) ?_ ?_
            rotate_left
            · show Act.put _ (some 19) _ = _
              simp only [Act.put, List.setIfInBounds_toArray, List.set_cons_zero, List.set_cons_succ, i64_w, i32_w]
              rfl
            refine pure_ (i := 5) (N := some 20) (v := ?_) (a' := ?_) #[true, true, true, true, true, true, false, false, false, false, false, false, false, false, false, false, false, false, false, false, false, false, false, false, false, false] rfl rfl (any_of HT_.out (by kernel_rfl)) (fun _ _ _ h => h) (Or.inl ⟨by rfl, ?_⟩) ?_ ?_
            rotate_left
            · intro w'
              go_simp
              with_reducible rfl
            rotate_left
            · simp only [Act.put, List.setIfInBounds_toArray, List.set_cons_zero, List.set_cons_succ, i64_w, i32_w]
              rfl
            refine pure_ (i := 6) (N := some 21) (v := ?_) (a' := ?_) #[true, true, true, true, true, true, true, false, false, false, false, false, false, false, false, false, false, false, false, false, false, false, false, false, false, false] rfl rfl (any_of HT_.out (by kernel_rfl)) (fun _ _ _ h => h) (Or.inl ⟨by rfl, ?_⟩) ?_ ?_
            rotate_left
            · intro w'
              go_simp
              with_reducible rfl
            rotate_left
            · simp only [Act.put, List.setIfInBounds_toArray, List.set_cons_zero, List.set_cons_succ, i64_w, i32_w]
              rfl
            refine pure_ (i := 7) (N := some 22) (v := ?_) (a' := ?_) #[true, true, true, true, true, true, true, true, false, false, false, false, false, false, false, false, false, false, false, false, false, false, false, false, false, false] rfl rfl (any_of HT_.out (by kernel_rfl)) (fun _ _ _ h => h) (Or.inl ⟨by rfl, ?_⟩) ?_ ?_
            rotate_left
            · intro w'
              go_simp
              with_reducible rfl
            rotate_left
            · simp only [Act.put, List.setIfInBounds_toArray, List.set_cons_zero, List.set_cons_succ, i64_w, i32_w]
              rfl
            refine one_ (i := 8) (N := some 23) #[true, true, true, true, true, true, true, true, true, false, false, false, false, false, false, false, false, false, false, false, false, false, false, false, false, false] rfl rfl (one_of HT_.out (by kernel_rfl)) (by decide) (fun K hK => ?_)
            refine goes_ Try.func9 (by kernel_rfl) rfl #[.string t262] (by rfl) rfl rfl (by (try simp only [List.map_toArray, List.map_cons, List.map_nil]); first | done | rfl | (simp only [List.length_drop, List.length_take]; rfl)) ?_
            with_reducible refine (cadencylaw05_parses.calls k t262 true _ ⟨rfl⟩ A11.out).mono ?_
            rintro e w28 ⟨rfl, hb⟩
            refine ⟨_, rfl, ?_⟩
            have n0_ := Aside0.mk (Kd.R_below (by (with_reducible repeat (first | apply Kd.R_alloc | apply Kd.R_drewN | apply Kd.R_drew)); exact HO261.out) hb)
            have n1_ := Aside0.mk (blk_below (g := gb257) (o := .cells #[.int .i64 a2_0, .int .i64 a2_1, .int .i64 a2_2] 23 (0, 0)) (by (with_reducible repeat (first | refine blk_drewN ?_ _ | refine blk_drew ?_ | refine blk_alloc ?_ _)); exact BK257.out) hb)
            have n2_ := Aside0.mk (below_step (by repeat (first | (with_reducible first | exact HB.out | apply below_alloc | apply pw_below_drewN | apply below_drew1 | refine below_set ?_ GE257.out) | exact HB.out)) hb)
            clear HO261
            clear BK257
            clear HB
            have HO261 := n0_
            have BK257 := n1_
            have HB := n2_
            clear n0_ n1_ n2_
            (try clear hb)
            (try clear hb2)
            (try clear hk)
            (try clear hi)
            refine hK.out _ _ ⟨(blk_cell BK257.out 0).trans rfl, (blk_cell BK257.out 1).trans rfl, (blk_cell BK257.out 2).trans rfl⟩ (fun hHeld => ?_)
            clear hK K
            refine norm_ (a' := ?_) ?_ ?_
            rotate_left
            · show Act.put _ (some 23) _ = _
              simp only [Act.put, List.setIfInBounds_toArray, List.set_cons_zero, List.set_cons_succ, i64_w, i32_w]
              rfl
            refine pure_ (i := 9) (N := some 24) (v := ?_) (a' := ?_) #[true, true, true, true, true, true, true, true, true, true, false, false, false, false, false, false, false, false, false, false, false, false, false, false, false, false] rfl rfl (any_of HT_.out (by kernel_rfl)) (fun _ _ _ h => h) (Or.inl ⟨by rfl, ?_⟩) ?_ ?_
            rotate_left
            · intro w'
              go_simp
              with_reducible rfl
            rotate_left
            · simp only [Act.put, List.setIfInBounds_toArray, List.set_cons_zero, List.set_cons_succ, i64_w, i32_w]
              rfl
            refine pure_ (i := 10) (N := some 25) (v := ?_) (a' := ?_) #[true, true, true, true, true, true, true, true, true, true, true, false, false, false, false, false, false, false, false, false, false, false, false, false, false, false] rfl rfl (any_of HT_.out (by kernel_rfl)) (fun _ _ _ h => h) (Or.inl ⟨by rfl, ?_⟩) ?_ ?_
            rotate_left
            · intro w'
              go_simp
              with_reducible rfl
            rotate_left
            · simp only [Act.put, List.setIfInBounds_toArray, List.set_cons_zero, List.set_cons_succ, i64_w, i32_w]
              rfl
            refine pure_ (i := 11) (N := some 26) (v := ?_) (a' := ?_) #[true, true, true, true, true, true, true, true, true, true, true, true, false, false, false, false, false, false, false, false, false, false, false, false, false, false] rfl rfl (any_of HT_.out (by kernel_rfl)) (fun _ _ _ h => h) (Or.inl ⟨by rfl, ?_⟩) ?_ ?_
            rotate_left
            · intro w'
              go_simp
              with_reducible rfl
            rotate_left
            · simp only [Act.put, List.setIfInBounds_toArray, List.set_cons_zero, List.set_cons_succ, i64_w, i32_w]
              rfl
            refine take_ (i := 12) (N := some 27) (v := ?_) (a' := ?_) #[true, true, true, true, true, true, true, true, true, true, true, true, true, false, false, false, false, false, false, false, false, false, false, false, false, false] rfl rfl (take_ofW HT_.out HW_.out (by kernel_rfl)) (fun _ _ _ h => h) (Or.inl ⟨by rfl, ?_⟩) hHeld ?_ ?_
            rotate_left
            · rintro w' ⟨s0, s1, s2⟩
              go_simp
              with_reducible rfl
            rotate_left
            · simp only [Act.put, List.setIfInBounds_toArray, List.set_cons_zero, List.set_cons_succ, i64_w, i32_w]
              rfl
            refine one_ (i := 13) (N := some 28) #[true, true, true, true, true, true, true, true, true, true, true, true, true, true, false, false, false, false, false, false, false, false, false, false, false, false] rfl rfl (one_of HT_.out (by kernel_rfl)) (by decide) (fun K hK => ?_)
            refine goes_ Try.func11 (by kernel_rfl) rfl #[.string t262, .agg #[.int .i64 a2_0, .int .i64 a2_1, .int .i64 a2_2]] (by rfl) rfl rfl (by (try simp only [List.map_toArray, List.map_cons, List.map_nil]); first | done | rfl | (simp only [List.length_drop, List.length_take]; rfl)) ?_
            with_reducible refine (cadencylaw05_spoilt.calls t262 a2_0 a2_1 a2_2 t266 _ A13.out).mono ?_
            rintro e w29 ⟨rfl, hb⟩
            refine ⟨_, rfl, ?_⟩
            have n0_ := Aside0.mk (Kd.R_below (by (with_reducible repeat (first | apply Kd.R_alloc | apply Kd.R_drewN | apply Kd.R_drew)); exact HO261.out) hb)
            have n1_ := Aside0.mk (blk_below (g := gb257) (o := .cells #[.int .i64 a2_0, .int .i64 a2_1, .int .i64 a2_2] 23 (0, 0)) (by (with_reducible repeat (first | refine blk_drewN ?_ _ | refine blk_drew ?_ | refine blk_alloc ?_ _)); exact BK257.out) hb)
            have n2_ := Aside0.mk (below_step (by repeat (first | (with_reducible first | exact HB.out | apply below_alloc | apply pw_below_drewN | apply below_drew1 | refine below_set ?_ GE257.out) | exact HB.out)) hb)
            clear HO261
            clear BK257
            clear HB
            have HO261 := n0_
            have BK257 := n1_
            have HB := n2_
            clear n0_ n1_ n2_
            (try clear hb)
            (try clear hb2)
            (try clear hk)
            (try clear hi)
            refine hK.out _ _ ⟨(blk_cell BK257.out 0).trans rfl, (blk_cell BK257.out 1).trans rfl, (blk_cell BK257.out 2).trans rfl⟩ (fun hHeld => ?_)
            clear hK K
            refine norm_ (a' := ?_) ?_ ?_
            rotate_left
            · show Act.put _ (some 28) _ = _
              simp only [Act.put, List.setIfInBounds_toArray, List.set_cons_zero, List.set_cons_succ, i64_w, i32_w]
              rfl
            refine one_ (i := 14) (N := some 29) #[true, true, true, true, true, true, true, true, true, true, true, true, true, true, true, false, false, false, false, false, false, false, false, false, false, false] rfl rfl (one_of HT_.out (by kernel_rfl)) (by decide) (fun K hK => ?_)
            refine goes_ Try.func9 (by kernel_rfl) rfl #[.string t266] (by rfl) rfl rfl (by (try simp only [List.map_toArray, List.map_cons, List.map_nil]); first | done | rfl | (simp only [List.length_drop, List.length_take]; rfl)) ?_
            with_reducible refine (cadencylaw05_parses.calls k t266 true _ ⟨rfl⟩ A14.out).mono ?_
            rintro e w30 ⟨rfl, hb⟩
            refine ⟨_, rfl, ?_⟩
            have n0_ := Aside0.mk (Kd.R_below (by (with_reducible repeat (first | apply Kd.R_alloc | apply Kd.R_drewN | apply Kd.R_drew)); exact HO261.out) hb)
            have n1_ := Aside0.mk (blk_below (g := gb257) (o := .cells #[.int .i64 a2_0, .int .i64 a2_1, .int .i64 a2_2] 23 (0, 0)) (by (with_reducible repeat (first | refine blk_drewN ?_ _ | refine blk_drew ?_ | refine blk_alloc ?_ _)); exact BK257.out) hb)
            have n2_ := Aside0.mk (below_step (by repeat (first | (with_reducible first | exact HB.out | apply below_alloc | apply pw_below_drewN | apply below_drew1 | refine below_set ?_ GE257.out) | exact HB.out)) hb)
            clear HO261
            clear BK257
            clear HB
            have HO261 := n0_
            have BK257 := n1_
            have HB := n2_
            clear n0_ n1_ n2_
            (try clear hb)
            (try clear hb2)
            (try clear hk)
            (try clear hi)
            refine hK.out _ _ ⟨(blk_cell BK257.out 0).trans rfl, (blk_cell BK257.out 1).trans rfl, (blk_cell BK257.out 2).trans rfl⟩ (fun hHeld => ?_)
            clear hK K
            refine norm_ (a' := ?_) ?_ ?_
            rotate_left
            · show Act.put _ (some 29) _ = _
              simp only [Act.put, List.setIfInBounds_toArray, List.set_cons_zero, List.set_cons_succ, i64_w, i32_w]
              rfl
            refine pure_ (i := 15) (N := some 30) (v := ?_) (a' := ?_) #[true, true, true, true, true, true, true, true, true, true, true, true, true, true, true, true, false, false, false, false, false, false, false, false, false, false] rfl rfl (any_of HT_.out (by kernel_rfl)) (fun _ _ _ h => h) (Or.inl ⟨by rfl, ?_⟩) ?_ ?_
            rotate_left
            · intro w'
              go_simp
              with_reducible rfl
            rotate_left
            · simp only [Act.put, List.setIfInBounds_toArray, List.set_cons_zero, List.set_cons_succ, i64_w, i32_w]
              rfl
            refine pure_ (i := 16) (N := some 31) (v := ?_) (a' := ?_) #[true, true, true, true, true, true, true, true, true, true, true, true, true, true, true, true, true, false, false, false, false, false, false, false, false, false] rfl rfl (any_of HT_.out (by kernel_rfl)) (fun _ _ _ h => h) (Or.inl ⟨by rfl, ?_⟩) ?_ ?_
            rotate_left
            · intro w'
              go_simp
              with_reducible rfl
            rotate_left
            · simp only [Act.put, List.setIfInBounds_toArray, List.set_cons_zero, List.set_cons_succ, i64_w, i32_w]
              rfl
            refine pure_ (i := 17) (N := some 32) (v := ?_) (a' := ?_) #[true, true, true, true, true, true, true, true, true, true, true, true, true, true, true, true, true, true, false, false, false, false, false, false, false, false] rfl rfl (any_of HT_.out (by kernel_rfl)) (fun _ _ _ h => h) (Or.inl ⟨by rfl, ?_⟩) ?_ ?_
            rotate_left
            · intro w'
              go_simp
              with_reducible rfl
            rotate_left
            · simp only [Act.put, List.setIfInBounds_toArray, List.set_cons_zero, List.set_cons_succ, i64_w, i32_w]
              rfl
            refine pure_ (i := 18) (N := some 33) (v := ?_) (a' := ?_) #[true, true, true, true, true, true, true, true, true, true, true, true, true, true, true, true, true, true, true, false, false, false, false, false, false, false] rfl rfl (any_of HT_.out (by kernel_rfl)) (fun _ _ _ h => h) (Or.inl ⟨by rfl, ?_⟩) ?_ ?_
            rotate_left
            · intro w'
              go_simp
              with_reducible rfl
            rotate_left
            · simp only [Act.put, List.setIfInBounds_toArray, List.set_cons_zero, List.set_cons_succ, i64_w, i32_w]
              rfl
            refine take_ (i := 21) (N := some 36) (v := ?_) (a' := ?_) #[true, true, true, true, true, true, true, true, true, true, true, true, true, true, true, true, true, true, true, false, false, true, false, false, false, false] rfl rfl (take_ofW HT_.out HW_.out (by kernel_rfl)) (fun _ _ _ h => h) (Or.inl ⟨by rfl, ?_⟩) hHeld ?_ ?_
            rotate_left
            · rintro w' ⟨s0, s1, s2⟩
              go_simp
              with_reducible rfl
            rotate_left
            · simp only [Act.put, List.setIfInBounds_toArray, List.set_cons_zero, List.set_cons_succ, i64_w, i32_w]
              rfl
            refine one_ (i := 19) (N := some 34) #[true, true, true, true, true, true, true, true, true, true, true, true, true, true, true, true, true, true, true, true, false, true, false, false, false, false] rfl rfl (one_of HT_.out (by kernel_rfl)) (by decide) (fun K hK => ?_)
            refine goes_ Try.func10 (by kernel_rfl) rfl #[.string a0] (by rfl) rfl rfl (by (try simp only [List.map_toArray, List.map_cons, List.map_nil]); first | done | rfl | (simp only [List.length_drop, List.length_take]; rfl)) ?_
            with_reducible refine (cadencylaw05_short.calls a0 t268 _ A16.out).mono ?_
            rintro e w' ⟨rfl, ⟨nd, rfl⟩⟩
            refine ⟨_, rfl, ?_⟩
            refine hK.out _ _ ⟨(blk_cell BK257.out 0).trans rfl, (blk_cell BK257.out 1).trans rfl, (blk_cell BK257.out 2).trans rfl⟩ (fun hHeld => ?_)
            clear hK K
            refine norm_ (a' := ?_) ?_ ?_
            rotate_left
            · show Act.put _ (some 34) _ = _
              simp only [Act.put, List.setIfInBounds_toArray, List.set_cons_zero, List.set_cons_succ, i64_w, i32_w]
              rfl
            refine pure_ (i := 20) (N := some 35) (v := ?_) (a' := ?_) #[true, true, true, true, true, true, true, true, true, true, true, true, true, true, true, true, true, true, true, true, true, true, false, false, false, false] rfl rfl (any_of HT_.out (by kernel_rfl)) (fun _ _ _ h => h) (Or.inl ⟨by rfl, ?_⟩) ?_ ?_
            rotate_left
            · intro w'
              go_simp
              with_reducible rfl
            rotate_left
            · simp only [Act.put, List.setIfInBounds_toArray, List.set_cons_zero, List.set_cons_succ, i64_w, i32_w]
              rfl
            refine one_ (i := 22) (N := some 37) #[true, true, true, true, true, true, true, true, true, true, true, true, true, true, true, true, true, true, true, true, true, true, true, false, false, false] rfl rfl (one_of HT_.out (by kernel_rfl)) (by decide) (fun K hK => ?_)
            refine goes_ Try.func11 (by kernel_rfl) rfl #[.string (t262 ++ t268), .agg #[.int .i64 a2_0, .int .i64 a2_1, .int .i64 a2_2]] (by rfl) rfl rfl (by (try simp only [List.map_toArray, List.map_cons, List.map_nil]); first | done | rfl | (simp only [List.length_drop, List.length_take]; rfl)) ?_
            with_reducible refine (cadencylaw05_spoilt.calls (t262 ++ t268) a2_0 a2_1 a2_2 t269 _ A18.out).mono ?_
            rintro e w31 ⟨rfl, hb⟩
            refine ⟨_, rfl, ?_⟩
            have n0_ := Aside0.mk (Kd.R_below (by (with_reducible repeat (first | apply Kd.R_alloc | apply Kd.R_drewN | apply Kd.R_drew)); exact HO261.out) hb)
            have n1_ := Aside0.mk (blk_below (g := gb257) (o := .cells #[.int .i64 a2_0, .int .i64 a2_1, .int .i64 a2_2] 23 (0, 0)) (by (with_reducible repeat (first | refine blk_drewN ?_ _ | refine blk_drew ?_ | refine blk_alloc ?_ _)); exact BK257.out) hb)
            have n2_ := Aside0.mk (below_step (by repeat (first | (with_reducible first | exact HB.out | apply below_alloc | apply pw_below_drewN | apply below_drew1 | refine below_set ?_ GE257.out) | exact HB.out)) hb)
            clear HO261
            clear BK257
            clear HB
            have HO261 := n0_
            have BK257 := n1_
            have HB := n2_
            clear n0_ n1_ n2_
            (try clear hb)
            (try clear hb2)
            (try clear hk)
            (try clear hi)
            refine hK.out _ _ ⟨(blk_cell BK257.out 0).trans rfl, (blk_cell BK257.out 1).trans rfl, (blk_cell BK257.out 2).trans rfl⟩ (fun hHeld => ?_)
            clear hK K
            refine norm_ (a' := ?_) ?_ ?_
            rotate_left
            · show Act.put _ (some 37) _ = _
              simp only [Act.put, List.setIfInBounds_toArray, List.set_cons_zero, List.set_cons_succ, i64_w, i32_w]
              rfl
            refine one_ (i := 23) (N := some 38) #[true, true, true, true, true, true, true, true, true, true, true, true, true, true, true, true, true, true, true, true, true, true, true, true, false, false] rfl rfl (one_of HT_.out (by kernel_rfl)) (by decide) (fun K hK => ?_)
            refine goes_ Try.func9 (by kernel_rfl) rfl #[.string t269] (by rfl) rfl rfl (by (try simp only [List.map_toArray, List.map_cons, List.map_nil]); first | done | rfl | (simp only [List.length_drop, List.length_take]; rfl)) ?_
            with_reducible refine (cadencylaw05_parses.calls k t269 t270 _ hr A19.out).mono ?_
            rintro e w32 ⟨rfl, hb⟩
            refine ⟨_, rfl, ?_⟩
            have n0_ := Aside0.mk (Kd.R_below (by (with_reducible repeat (first | apply Kd.R_alloc | apply Kd.R_drewN | apply Kd.R_drew)); exact HO261.out) hb)
            have n1_ := Aside0.mk (blk_below (g := gb257) (o := .cells #[.int .i64 a2_0, .int .i64 a2_1, .int .i64 a2_2] 23 (0, 0)) (by (with_reducible repeat (first | refine blk_drewN ?_ _ | refine blk_drew ?_ | refine blk_alloc ?_ _)); exact BK257.out) hb)
            have n2_ := Aside0.mk (below_step (by repeat (first | (with_reducible first | exact HB.out | apply below_alloc | apply pw_below_drewN | apply below_drew1 | refine below_set ?_ GE257.out) | exact HB.out)) hb)
            clear HO261
            clear BK257
            clear HB
            have HO261 := n0_
            have BK257 := n1_
            have HB := n2_
            clear n0_ n1_ n2_
            (try clear hb)
            (try clear hb2)
            (try clear hk)
            (try clear hi)
            refine hK.out _ _ ⟨(blk_cell BK257.out 0).trans rfl, (blk_cell BK257.out 1).trans rfl, (blk_cell BK257.out 2).trans rfl⟩ (fun hHeld => ?_)
            clear hK K
            refine norm_ (a' := ?_) ?_ ?_
            rotate_left
            · show Act.put _ (some 38) _ = _
              simp only [Act.put, List.setIfInBounds_toArray, List.set_cons_zero, List.set_cons_succ, i64_w, i32_w]
              rfl
            refine pure_ (i := 24) (N := some 39) (v := ?_) (a' := ?_) #[true, true, true, true, true, true, true, true, true, true, true, true, true, true, true, true, true, true, true, true, true, true, true, true, true, false] rfl rfl (any_of HT_.out (by kernel_rfl)) (fun _ _ _ h => h) (Or.inl ⟨by rfl, ?_⟩) ?_ ?_
            rotate_left
            · intro w'
              go_simp
              with_reducible rfl
            rotate_left
            · simp only [Act.put, List.setIfInBounds_toArray, List.set_cons_zero, List.set_cons_succ, i64_w, i32_w]
              rfl
            refine pure_ (i := 25) (N := some 6) (v := ?_) (a' := ?_) #[true, true, true, true, true, true, true, true, true, true, true, true, true, true, true, true, true, true, true, true, true, true, true, true, true, true] rfl rfl (any_of HT_.out (by kernel_rfl)) (fun _ _ _ h => h) (Or.inl ⟨by rfl, ?_⟩) ?_ ?_
            rotate_left
            · intro w'
              go_simp
              with_reducible rfl
            rotate_left
            · simp only [Act.put, List.setIfInBounds_toArray, List.set_cons_zero, List.set_cons_succ, i64_w, i32_w]
              rfl
            refine done_ (done_of HT_.out (by kernel_rfl)) ?_
            try go_wp2
            go_ret
            exact ⟨by first | rfl | (simp [errW_none, errW_some] <;> rfl) | (simp [*, errW_none, errW_some] <;> rfl), by repeat (first | (with_reducible first | exact HB.out | apply below_alloc | apply pw_below_drewN | apply below_drew1 | refine below_set ?_ GE257.out) | exact HB.out)⟩
          · rw [if_neg c17] at H
            exact absurd H (by simp)
        · replace c15 := Bool.eq_false_iff.mpr c15
          subst c15
          have H1 : (some false) = some r := by rw [if_neg (show ¬ (false = true) by decide)] at H; exact H
          clear H
          have H := H1
          clear H1
          obtain rfl := Option.some.inj H
          exact absurd hr.out (by decide)
      · replace c12 := Bool.eq_false_iff.mpr c12
        subst c12
        have H1 : (some false) = some r := by rw [if_neg (show ¬ (false = true) by decide)] at H; exact H
        clear H
        have H := H1
        clear H1
        obtain rfl := Option.some.inj H
        exact absurd hr.out (by decide)
    · replace c10 := Bool.eq_false_iff.mpr c10
      subst c10
      have H1 : (some false) = some r := by rw [if_neg (show ¬ (false = true) by decide)] at H; exact H
      clear H
      have H := H1
      clear H1
      obtain rfl := Option.some.inj H
      exact absurd hr.out (by decide)
  · replace c7 := Bool.eq_false_iff.mpr c7
    subst c7
    have H1 : (some false) = some r := by rw [if_neg (show ¬ (false = true) by decide)] at H; exact H
    clear H
    have H := H1
    clear H1
    obtain rfl := Option.some.inj H
    exact absurd hr.out (by decide)
end Go.Proofs.Ytefdcjmfbjlinaa.A
