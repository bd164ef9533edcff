-- written by a program (wip/dev/print2.sh): functions of the program as plain Lean, with their contracts
import Derived.Test.YtehlabphhcdooaaS2x0
import Derived.Test.YtehlabphhcdooaaS2x1
import Derived.Test.YtehlabphhcdooaaGiven2
namespace Go.Proofs.Ytehlabphhcdooaa.S2
open Go.RowKit Go.Proofs.YtehlabphhcdooaaW.PrintWords Go.Proofs.YtehlabphhcdooaaW.PrintLast Go.Proofs.YtehlabphhcdooaaW.PrintMore
attribute [local go_sem] max2_int min2_int max_two min_two max_three min_three max_four min_four   -- for this text's walks alone
set_option linter.unusedVariables false
set_option linter.unusedSimpArgs false

/-! ### cadencylaw03_ScanWords: function 8 -/
def cadencylaw03_ScanWords.j0 : Nat → ByteArray → Bool → ByteArray → Bool → Option (Bool)
  | 0, _, _, _, _ => none
  | k + 1, x0, x5, x6, x7 => (scan_Lex.f x0).bind fun bt128 => ((cadencylaw03_each.f x6).bind fun bt133 => (if x5 = true then ((scan_Word.f x6).bind fun t137 => (if (t137 == x7) = true then (if bt128.2.2 = 0 then (if (bt128.1.length : Int) = 1 then (if 0 < (bt128.1.length : Int) then (if ((rd_T28 bt128.1 0).f2).toList = x0.toList then (if bt133.2 = true then (if (bt133.1.length : Int) ≥ 1 then (if 0 < (bt133.1.length : Int) then (if ((((rd_T28 bt133.1 0).f2).toList == x6.toList) == x7) = true then (if x7 = true then (some true) else (some (((rd_T28 bt133.1 0).f2).toList == x0.toList))) else (some false)) else (none)) else (some false)) else (some false)) else (some false)) else (none)) else (some false)) else (some false)) else (some false))) else (some false)))
def cadencylaw03_ScanWords.f (k : Nat) (a0 : ByteArray) (a1 : Int) : Option (Bool) := (cadencylaw03_awake.f).bind fun t120 => ((cadencylaw03_short.f a0).bind fun t121 => ((some (([a1] : List Int) : List Int)).bind fun y122 => (if t121.size + (strOfNums y122).size ≤ 9223372036854775807 then ((scan_Word.f t121).bind fun t125 => (if t125 = true then (if a1 ≥ 97 then (if a1 ≤ 122 then (cadencylaw03_ScanWords.j0 k t121 t120 (t121 ++ (strOfNums y122)) true) else (if a1 ≥ 65 then (if a1 ≤ 90 then (cadencylaw03_ScanWords.j0 k t121 t120 (t121 ++ (strOfNums y122)) true) else (if a1 ≥ 48 then (if a1 ≤ 57 then (cadencylaw03_ScanWords.j0 k t121 t120 (t121 ++ (strOfNums y122)) true) else (if a1 = 95 then (cadencylaw03_ScanWords.j0 k t121 t120 (t121 ++ (strOfNums y122)) true) else (if a1 = 46 then (cadencylaw03_ScanWords.j0 k t121 t120 (t121 ++ (strOfNums y122)) true) else (cadencylaw03_ScanWords.j0 k t121 t120 (t121 ++ (strOfNums y122)) (a1 == 45))))) else (if a1 = 95 then (cadencylaw03_ScanWords.j0 k t121 t120 (t121 ++ (strOfNums y122)) true) else (if a1 = 46 then (cadencylaw03_ScanWords.j0 k t121 t120 (t121 ++ (strOfNums y122)) true) else (cadencylaw03_ScanWords.j0 k t121 t120 (t121 ++ (strOfNums y122)) (a1 == 45)))))) else (if a1 ≥ 48 then (if a1 ≤ 57 then (cadencylaw03_ScanWords.j0 k t121 t120 (t121 ++ (strOfNums y122)) true) else (if a1 = 95 then (cadencylaw03_ScanWords.j0 k t121 t120 (t121 ++ (strOfNums y122)) true) else (if a1 = 46 then (cadencylaw03_ScanWords.j0 k t121 t120 (t121 ++ (strOfNums y122)) true) else (cadencylaw03_ScanWords.j0 k t121 t120 (t121 ++ (strOfNums y122)) (a1 == 45))))) else (if a1 = 95 then (cadencylaw03_ScanWords.j0 k t121 t120 (t121 ++ (strOfNums y122)) true) else (if a1 = 46 then (cadencylaw03_ScanWords.j0 k t121 t120 (t121 ++ (strOfNums y122)) true) else (cadencylaw03_ScanWords.j0 k t121 t120 (t121 ++ (strOfNums y122)) (a1 == 45))))))) else (if a1 ≥ 65 then (if a1 ≤ 90 then (cadencylaw03_ScanWords.j0 k t121 t120 (t121 ++ (strOfNums y122)) true) else (if a1 ≥ 48 then (if a1 ≤ 57 then (cadencylaw03_ScanWords.j0 k t121 t120 (t121 ++ (strOfNums y122)) true) else (if a1 = 95 then (cadencylaw03_ScanWords.j0 k t121 t120 (t121 ++ (strOfNums y122)) true) else (if a1 = 46 then (cadencylaw03_ScanWords.j0 k t121 t120 (t121 ++ (strOfNums y122)) true) else (cadencylaw03_ScanWords.j0 k t121 t120 (t121 ++ (strOfNums y122)) (a1 == 45))))) else (if a1 = 95 then (cadencylaw03_ScanWords.j0 k t121 t120 (t121 ++ (strOfNums y122)) true) else (if a1 = 46 then (cadencylaw03_ScanWords.j0 k t121 t120 (t121 ++ (strOfNums y122)) true) else (cadencylaw03_ScanWords.j0 k t121 t120 (t121 ++ (strOfNums y122)) (a1 == 45)))))) else (if a1 ≥ 48 then (if a1 ≤ 57 then (cadencylaw03_ScanWords.j0 k t121 t120 (t121 ++ (strOfNums y122)) true) else (if a1 = 95 then (cadencylaw03_ScanWords.j0 k t121 t120 (t121 ++ (strOfNums y122)) true) else (if a1 = 46 then (cadencylaw03_ScanWords.j0 k t121 t120 (t121 ++ (strOfNums y122)) true) else (cadencylaw03_ScanWords.j0 k t121 t120 (t121 ++ (strOfNums y122)) (a1 == 45))))) else (if a1 = 95 then (cadencylaw03_ScanWords.j0 k t121 t120 (t121 ++ (strOfNums y122)) true) else (if a1 = 46 then (cadencylaw03_ScanWords.j0 k t121 t120 (t121 ++ (strOfNums y122)) true) else (cadencylaw03_ScanWords.j0 k t121 t120 (t121 ++ (strOfNums y122)) (a1 == 45))))))) else (if t120 = true then ((scan_Word.f (t121 ++ (strOfNums y122))).bind fun t126 => ((cadencyref03_Word.f (t121 ++ (strOfNums y122))).bind fun t127 => (some (t126 == t127)))) else (some false)))) else (none))))
theorem cadencylaw03_ScanWords.mono_l : ∀ k, (∀ y0 y1 y2 y3, LeO (cadencylaw03_ScanWords.j0 k y0 y1 y2 y3) (cadencylaw03_ScanWords.j0 (k + 1) y0 y1 y2 y3))
  | 0 => fun _ _ _ _ r h => by simp [cadencylaw03_ScanWords.j0] at h
  | k + 1 => by
    have ih0 := cadencylaw03_ScanWords.mono_l k
    · intro y0 y1 y2 y3
      unfold cadencylaw03_ScanWords.j0
      repeat' first
      | (with_reducible exact ih0 _ _ _ _)
      | (with_reducible exact LeO.refl _)
      | (with_reducible exact LeO.none _)
      | (with_reducible refine LeO.ite ?_ ?_)
      | (with_reducible refine LeO.bind ?_ (fun _ => ?_))
      | exact ih0 _ _ _ _
      | exact LeO.none _
      | refine LeO.ite ?_ ?_
      | refine LeO.bind ?_ (fun _ => ?_)
theorem cadencylaw03_ScanWords.mono : ∀ a0 a1 k, LeO (cadencylaw03_ScanWords.f k a0 a1) (cadencylaw03_ScanWords.f (k + 1) a0 a1) := by
  intro a0 a1 k
  have ih0 := cadencylaw03_ScanWords.mono_l k
  unfold cadencylaw03_ScanWords.f
  repeat' first
      | (with_reducible exact ih0 _ _ _ _)
      | (with_reducible exact LeO.refl _)
      | (with_reducible exact LeO.none _)
      | (with_reducible refine LeO.ite ?_ ?_)
      | (with_reducible refine LeO.bind ?_ (fun _ => ?_))
      | exact ih0 _ _ _ _
      | exact LeO.none _
      | refine LeO.ite ?_ ?_
      | refine LeO.bind ?_ (fun _ => ?_)
set_option maxHeartbeats 8000000 in
set_option maxRecDepth 100000 in
theorem cadencylaw03_ScanWords.calls (k : Nat) (a0 : ByteArray) (a1 : Int) (r : Bool) (w : World) (h : cadencylaw03_ScanWords.f k a0 a1 = some r) :
    Calls Try.prog 8 #[.string a0, .int .u8 a1] w fun e w' => e = .returned (.bool r) ∧ Below w.heap.size w w' := by
  have HB := Aside0.mk (Below.refl w.heap.size w)
  have H : ((cadencylaw03_awake.f).bind fun t120 => ((cadencylaw03_short.f a0).bind fun t121 => ((some (([a1] : List Int) : List Int)).bind fun y122 => (if t121.size + (strOfNums y122).size ≤ 9223372036854775807 then ((scan_Word.f t121).bind fun t125 => (if t125 = true then (if a1 ≥ 97 then (if a1 ≤ 122 then (cadencylaw03_ScanWords.j0 k t121 t120 (t121 ++ (strOfNums y122)) true) else (if a1 ≥ 65 then (if a1 ≤ 90 then (cadencylaw03_ScanWords.j0 k t121 t120 (t121 ++ (strOfNums y122)) true) else (if a1 ≥ 48 then (if a1 ≤ 57 then (cadencylaw03_ScanWords.j0 k t121 t120 (t121 ++ (strOfNums y122)) true) else (if a1 = 95 then (cadencylaw03_ScanWords.j0 k t121 t120 (t121 ++ (strOfNums y122)) true) else (if a1 = 46 then (cadencylaw03_ScanWords.j0 k t121 t120 (t121 ++ (strOfNums y122)) true) else (cadencylaw03_ScanWords.j0 k t121 t120 (t121 ++ (strOfNums y122)) (a1 == 45))))) else (if a1 = 95 then (cadencylaw03_ScanWords.j0 k t121 t120 (t121 ++ (strOfNums y122)) true) else (if a1 = 46 then (cadencylaw03_ScanWords.j0 k t121 t120 (t121 ++ (strOfNums y122)) true) else (cadencylaw03_ScanWords.j0 k t121 t120 (t121 ++ (strOfNums y122)) (a1 == 45)))))) else (if a1 ≥ 48 then (if a1 ≤ 57 then (cadencylaw03_ScanWords.j0 k t121 t120 (t121 ++ (strOfNums y122)) true) else (if a1 = 95 then (cadencylaw03_ScanWords.j0 k t121 t120 (t121 ++ (strOfNums y122)) true) else (if a1 = 46 then (cadencylaw03_ScanWords.j0 k t121 t120 (t121 ++ (strOfNums y122)) true) else (cadencylaw03_ScanWords.j0 k t121 t120 (t121 ++ (strOfNums y122)) (a1 == 45))))) else (if a1 = 95 then (cadencylaw03_ScanWords.j0 k t121 t120 (t121 ++ (strOfNums y122)) true) else (if a1 = 46 then (cadencylaw03_ScanWords.j0 k t121 t120 (t121 ++ (strOfNums y122)) true) else (cadencylaw03_ScanWords.j0 k t121 t120 (t121 ++ (strOfNums y122)) (a1 == 45))))))) else (if a1 ≥ 65 then (if a1 ≤ 90 then (cadencylaw03_ScanWords.j0 k t121 t120 (t121 ++ (strOfNums y122)) true) else (if a1 ≥ 48 then (if a1 ≤ 57 then (cadencylaw03_ScanWords.j0 k t121 t120 (t121 ++ (strOfNums y122)) true) else (if a1 = 95 then (cadencylaw03_ScanWords.j0 k t121 t120 (t121 ++ (strOfNums y122)) true) else (if a1 = 46 then (cadencylaw03_ScanWords.j0 k t121 t120 (t121 ++ (strOfNums y122)) true) else (cadencylaw03_ScanWords.j0 k t121 t120 (t121 ++ (strOfNums y122)) (a1 == 45))))) else (if a1 = 95 then (cadencylaw03_ScanWords.j0 k t121 t120 (t121 ++ (strOfNums y122)) true) else (if a1 = 46 then (cadencylaw03_ScanWords.j0 k t121 t120 (t121 ++ (strOfNums y122)) true) else (cadencylaw03_ScanWords.j0 k t121 t120 (t121 ++ (strOfNums y122)) (a1 == 45)))))) else (if a1 ≥ 48 then (if a1 ≤ 57 then (cadencylaw03_ScanWords.j0 k t121 t120 (t121 ++ (strOfNums y122)) true) else (if a1 = 95 then (cadencylaw03_ScanWords.j0 k t121 t120 (t121 ++ (strOfNums y122)) true) else (if a1 = 46 then (cadencylaw03_ScanWords.j0 k t121 t120 (t121 ++ (strOfNums y122)) true) else (cadencylaw03_ScanWords.j0 k t121 t120 (t121 ++ (strOfNums y122)) (a1 == 45))))) else (if a1 = 95 then (cadencylaw03_ScanWords.j0 k t121 t120 (t121 ++ (strOfNums y122)) true) else (if a1 = 46 then (cadencylaw03_ScanWords.j0 k t121 t120 (t121 ++ (strOfNums y122)) true) else (cadencylaw03_ScanWords.j0 k t121 t120 (t121 ++ (strOfNums y122)) (a1 == 45))))))) else (if t120 = true then ((scan_Word.f (t121 ++ (strOfNums y122))).bind fun t126 => ((cadencyref03_Word.f (t121 ++ (strOfNums y122))).bind fun t127 => (some (t126 == t127)))) else (some false)))) else (none))))) = some r := h
  clear h
  replace H := Option.bind_eq_some_iff.mp H
  obtain ⟨t120, A30, H⟩ := H
  replace H : ((cadencylaw03_short.f a0).bind fun t121 => ((some (([a1] : List Int) : List Int)).bind fun y122 => (if t121.size + (strOfNums y122).size ≤ 9223372036854775807 then ((scan_Word.f t121).bind fun t125 => (if t125 = true then (if a1 ≥ 97 then (if a1 ≤ 122 then (cadencylaw03_ScanWords.j0 k t121 t120 (t121 ++ (strOfNums y122)) true) else (if a1 ≥ 65 then (if a1 ≤ 90 then (cadencylaw03_ScanWords.j0 k t121 t120 (t121 ++ (strOfNums y122)) true) else (if a1 ≥ 48 then (if a1 ≤ 57 then (cadencylaw03_ScanWords.j0 k t121 t120 (t121 ++ (strOfNums y122)) true) else (if a1 = 95 then (cadencylaw03_ScanWords.j0 k t121 t120 (t121 ++ (strOfNums y122)) true) else (if a1 = 46 then (cadencylaw03_ScanWords.j0 k t121 t120 (t121 ++ (strOfNums y122)) true) else (cadencylaw03_ScanWords.j0 k t121 t120 (t121 ++ (strOfNums y122)) (a1 == 45))))) else (if a1 = 95 then (cadencylaw03_ScanWords.j0 k t121 t120 (t121 ++ (strOfNums y122)) true) else (if a1 = 46 then (cadencylaw03_ScanWords.j0 k t121 t120 (t121 ++ (strOfNums y122)) true) else (cadencylaw03_ScanWords.j0 k t121 t120 (t121 ++ (strOfNums y122)) (a1 == 45)))))) else (if a1 ≥ 48 then (if a1 ≤ 57 then (cadencylaw03_ScanWords.j0 k t121 t120 (t121 ++ (strOfNums y122)) true) else (if a1 = 95 then (cadencylaw03_ScanWords.j0 k t121 t120 (t121 ++ (strOfNums y122)) true) else (if a1 = 46 then (cadencylaw03_ScanWords.j0 k t121 t120 (t121 ++ (strOfNums y122)) true) else (cadencylaw03_ScanWords.j0 k t121 t120 (t121 ++ (strOfNums y122)) (a1 == 45))))) else (if a1 = 95 then (cadencylaw03_ScanWords.j0 k t121 t120 (t121 ++ (strOfNums y122)) true) else (if a1 = 46 then (cadencylaw03_ScanWords.j0 k t121 t120 (t121 ++ (strOfNums y122)) true) else (cadencylaw03_ScanWords.j0 k t121 t120 (t121 ++ (strOfNums y122)) (a1 == 45))))))) else (if a1 ≥ 65 then (if a1 ≤ 90 then (cadencylaw03_ScanWords.j0 k t121 t120 (t121 ++ (strOfNums y122)) true) else (if a1 ≥ 48 then (if a1 ≤ 57 then (cadencylaw03_ScanWords.j0 k t121 t120 (t121 ++ (strOfNums y122)) true) else (if a1 = 95 then (cadencylaw03_ScanWords.j0 k t121 t120 (t121 ++ (strOfNums y122)) true) else (if a1 = 46 then (cadencylaw03_ScanWords.j0 k t121 t120 (t121 ++ (strOfNums y122)) true) else (cadencylaw03_ScanWords.j0 k t121 t120 (t121 ++ (strOfNums y122)) (a1 == 45))))) else (if a1 = 95 then (cadencylaw03_ScanWords.j0 k t121 t120 (t121 ++ (strOfNums y122)) true) else (if a1 = 46 then (cadencylaw03_ScanWords.j0 k t121 t120 (t121 ++ (strOfNums y122)) true) else (cadencylaw03_ScanWords.j0 k t121 t120 (t121 ++ (strOfNums y122)) (a1 == 45)))))) else (if a1 ≥ 48 then (if a1 ≤ 57 then (cadencylaw03_ScanWords.j0 k t121 t120 (t121 ++ (strOfNums y122)) true) else (if a1 = 95 then (cadencylaw03_ScanWords.j0 k t121 t120 (t121 ++ (strOfNums y122)) true) else (if a1 = 46 then (cadencylaw03_ScanWords.j0 k t121 t120 (t121 ++ (strOfNums y122)) true) else (cadencylaw03_ScanWords.j0 k t121 t120 (t121 ++ (strOfNums y122)) (a1 == 45))))) else (if a1 = 95 then (cadencylaw03_ScanWords.j0 k t121 t120 (t121 ++ (strOfNums y122)) true) else (if a1 = 46 then (cadencylaw03_ScanWords.j0 k t121 t120 (t121 ++ (strOfNums y122)) true) else (cadencylaw03_ScanWords.j0 k t121 t120 (t121 ++ (strOfNums y122)) (a1 == 45))))))) else (if t120 = true then ((scan_Word.f (t121 ++ (strOfNums y122))).bind fun t126 => ((cadencyref03_Word.f (t121 ++ (strOfNums y122))).bind fun t127 => (some (t126 == t127)))) else (some false)))) else (none)))) = some r := H
  have A3 := Aside0.mk A30
  clear A30
  replace H := Option.bind_eq_some_iff.mp H
  obtain ⟨t121, A40, H⟩ := H
  replace H : ((some (([a1] : List Int) : List Int)).bind fun y122 => (if t121.size + (strOfNums y122).size ≤ 9223372036854775807 then ((scan_Word.f t121).bind fun t125 => (if t125 = true then (if a1 ≥ 97 then (if a1 ≤ 122 then (cadencylaw03_ScanWords.j0 k t121 t120 (t121 ++ (strOfNums y122)) true) else (if a1 ≥ 65 then (if a1 ≤ 90 then (cadencylaw03_ScanWords.j0 k t121 t120 (t121 ++ (strOfNums y122)) true) else (if a1 ≥ 48 then (if a1 ≤ 57 then (cadencylaw03_ScanWords.j0 k t121 t120 (t121 ++ (strOfNums y122)) true) else (if a1 = 95 then (cadencylaw03_ScanWords.j0 k t121 t120 (t121 ++ (strOfNums y122)) true) else (if a1 = 46 then (cadencylaw03_ScanWords.j0 k t121 t120 (t121 ++ (strOfNums y122)) true) else (cadencylaw03_ScanWords.j0 k t121 t120 (t121 ++ (strOfNums y122)) (a1 == 45))))) else (if a1 = 95 then (cadencylaw03_ScanWords.j0 k t121 t120 (t121 ++ (strOfNums y122)) true) else (if a1 = 46 then (cadencylaw03_ScanWords.j0 k t121 t120 (t121 ++ (strOfNums y122)) true) else (cadencylaw03_ScanWords.j0 k t121 t120 (t121 ++ (strOfNums y122)) (a1 == 45)))))) else (if a1 ≥ 48 then (if a1 ≤ 57 then (cadencylaw03_ScanWords.j0 k t121 t120 (t121 ++ (strOfNums y122)) true) else (if a1 = 95 then (cadencylaw03_ScanWords.j0 k t121 t120 (t121 ++ (strOfNums y122)) true) else (if a1 = 46 then (cadencylaw03_ScanWords.j0 k t121 t120 (t121 ++ (strOfNums y122)) true) else (cadencylaw03_ScanWords.j0 k t121 t120 (t121 ++ (strOfNums y122)) (a1 == 45))))) else (if a1 = 95 then (cadencylaw03_ScanWords.j0 k t121 t120 (t121 ++ (strOfNums y122)) true) else (if a1 = 46 then (cadencylaw03_ScanWords.j0 k t121 t120 (t121 ++ (strOfNums y122)) true) else (cadencylaw03_ScanWords.j0 k t121 t120 (t121 ++ (strOfNums y122)) (a1 == 45))))))) else (if a1 ≥ 65 then (if a1 ≤ 90 then (cadencylaw03_ScanWords.j0 k t121 t120 (t121 ++ (strOfNums y122)) true) else (if a1 ≥ 48 then (if a1 ≤ 57 then (cadencylaw03_ScanWords.j0 k t121 t120 (t121 ++ (strOfNums y122)) true) else (if a1 = 95 then (cadencylaw03_ScanWords.j0 k t121 t120 (t121 ++ (strOfNums y122)) true) else (if a1 = 46 then (cadencylaw03_ScanWords.j0 k t121 t120 (t121 ++ (strOfNums y122)) true) else (cadencylaw03_ScanWords.j0 k t121 t120 (t121 ++ (strOfNums y122)) (a1 == 45))))) else (if a1 = 95 then (cadencylaw03_ScanWords.j0 k t121 t120 (t121 ++ (strOfNums y122)) true) else (if a1 = 46 then (cadencylaw03_ScanWords.j0 k t121 t120 (t121 ++ (strOfNums y122)) true) else (cadencylaw03_ScanWords.j0 k t121 t120 (t121 ++ (strOfNums y122)) (a1 == 45)))))) else (if a1 ≥ 48 then (if a1 ≤ 57 then (cadencylaw03_ScanWords.j0 k t121 t120 (t121 ++ (strOfNums y122)) true) else (if a1 = 95 then (cadencylaw03_ScanWords.j0 k t121 t120 (t121 ++ (strOfNums y122)) true) else (if a1 = 46 then (cadencylaw03_ScanWords.j0 k t121 t120 (t121 ++ (strOfNums y122)) true) else (cadencylaw03_ScanWords.j0 k t121 t120 (t121 ++ (strOfNums y122)) (a1 == 45))))) else (if a1 = 95 then (cadencylaw03_ScanWords.j0 k t121 t120 (t121 ++ (strOfNums y122)) true) else (if a1 = 46 then (cadencylaw03_ScanWords.j0 k t121 t120 (t121 ++ (strOfNums y122)) true) else (cadencylaw03_ScanWords.j0 k t121 t120 (t121 ++ (strOfNums y122)) (a1 == 45))))))) else (if t120 = true then ((scan_Word.f (t121 ++ (strOfNums y122))).bind fun t126 => ((cadencyref03_Word.f (t121 ++ (strOfNums y122))).bind fun t127 => (some (t126 == t127)))) else (some false)))) else (none))) = some r := H
  have A4 := Aside0.mk A40
  clear A40
  obtain ⟨y122, hy122⟩ : ∃ y_ : List Int, y_ = (([a1] : List Int)) := ⟨_, rfl⟩
  replace H : (if t121.size + (strOfNums y122).size ≤ 9223372036854775807 then ((scan_Word.f t121).bind fun t125 => (if t125 = true then (if a1 ≥ 97 then (if a1 ≤ 122 then (cadencylaw03_ScanWords.j0 k t121 t120 (t121 ++ (strOfNums y122)) true) else (if a1 ≥ 65 then (if a1 ≤ 90 then (cadencylaw03_ScanWords.j0 k t121 t120 (t121 ++ (strOfNums y122)) true) else (if a1 ≥ 48 then (if a1 ≤ 57 then (cadencylaw03_ScanWords.j0 k t121 t120 (t121 ++ (strOfNums y122)) true) else (if a1 = 95 then (cadencylaw03_ScanWords.j0 k t121 t120 (t121 ++ (strOfNums y122)) true) else (if a1 = 46 then (cadencylaw03_ScanWords.j0 k t121 t120 (t121 ++ (strOfNums y122)) true) else (cadencylaw03_ScanWords.j0 k t121 t120 (t121 ++ (strOfNums y122)) (a1 == 45))))) else (if a1 = 95 then (cadencylaw03_ScanWords.j0 k t121 t120 (t121 ++ (strOfNums y122)) true) else (if a1 = 46 then (cadencylaw03_ScanWords.j0 k t121 t120 (t121 ++ (strOfNums y122)) true) else (cadencylaw03_ScanWords.j0 k t121 t120 (t121 ++ (strOfNums y122)) (a1 == 45)))))) else (if a1 ≥ 48 then (if a1 ≤ 57 then (cadencylaw03_ScanWords.j0 k t121 t120 (t121 ++ (strOfNums y122)) true) else (if a1 = 95 then (cadencylaw03_ScanWords.j0 k t121 t120 (t121 ++ (strOfNums y122)) true) else (if a1 = 46 then (cadencylaw03_ScanWords.j0 k t121 t120 (t121 ++ (strOfNums y122)) true) else (cadencylaw03_ScanWords.j0 k t121 t120 (t121 ++ (strOfNums y122)) (a1 == 45))))) else (if a1 = 95 then (cadencylaw03_ScanWords.j0 k t121 t120 (t121 ++ (strOfNums y122)) true) else (if a1 = 46 then (cadencylaw03_ScanWords.j0 k t121 t120 (t121 ++ (strOfNums y122)) true) else (cadencylaw03_ScanWords.j0 k t121 t120 (t121 ++ (strOfNums y122)) (a1 == 45))))))) else (if a1 ≥ 65 then (if a1 ≤ 90 then (cadencylaw03_ScanWords.j0 k t121 t120 (t121 ++ (strOfNums y122)) true) else (if a1 ≥ 48 then (if a1 ≤ 57 then (cadencylaw03_ScanWords.j0 k t121 t120 (t121 ++ (strOfNums y122)) true) else (if a1 = 95 then (cadencylaw03_ScanWords.j0 k t121 t120 (t121 ++ (strOfNums y122)) true) else (if a1 = 46 then (cadencylaw03_ScanWords.j0 k t121 t120 (t121 ++ (strOfNums y122)) true) else (cadencylaw03_ScanWords.j0 k t121 t120 (t121 ++ (strOfNums y122)) (a1 == 45))))) else (if a1 = 95 then (cadencylaw03_ScanWords.j0 k t121 t120 (t121 ++ (strOfNums y122)) true) else (if a1 = 46 then (cadencylaw03_ScanWords.j0 k t121 t120 (t121 ++ (strOfNums y122)) true) else (cadencylaw03_ScanWords.j0 k t121 t120 (t121 ++ (strOfNums y122)) (a1 == 45)))))) else (if a1 ≥ 48 then (if a1 ≤ 57 then (cadencylaw03_ScanWords.j0 k t121 t120 (t121 ++ (strOfNums y122)) true) else (if a1 = 95 then (cadencylaw03_ScanWords.j0 k t121 t120 (t121 ++ (strOfNums y122)) true) else (if a1 = 46 then (cadencylaw03_ScanWords.j0 k t121 t120 (t121 ++ (strOfNums y122)) true) else (cadencylaw03_ScanWords.j0 k t121 t120 (t121 ++ (strOfNums y122)) (a1 == 45))))) else (if a1 = 95 then (cadencylaw03_ScanWords.j0 k t121 t120 (t121 ++ (strOfNums y122)) true) else (if a1 = 46 then (cadencylaw03_ScanWords.j0 k t121 t120 (t121 ++ (strOfNums y122)) true) else (cadencylaw03_ScanWords.j0 k t121 t120 (t121 ++ (strOfNums y122)) (a1 == 45))))))) else (if t120 = true then ((scan_Word.f (t121 ++ (strOfNums y122))).bind fun t126 => ((cadencyref03_Word.f (t121 ++ (strOfNums y122))).bind fun t127 => (some (t126 == t127)))) else (some false)))) else (none)) = some r := by first | (rw [hy122]; with_reducible exact H) | (have H2_ := (Option.bind_some _ _).symm.trans H; rw [hy122]; with_reducible exact H2_) | (have H2_ := (Option.bind_some _ _).symm.trans H; with_reducible exact H2_) | with_reducible exact H | (rw [hy122]; exact H) | exact H
  have Ny122 := Aside0.mk hy122
  clear hy122
  by_cases c5 : t121.size + (strOfNums y122).size ≤ 9223372036854775807
  · rw [if_pos c5] at H
    have c5b0 := eq_true c5
    have c5b1 : decide (t121.size + (strOfNums y122).size ≤ 9223372036854775807) = true := decide_eq_true c5
    try have c5b2 : (9223372036854775807 < t121.size + (strOfNums y122).size) = False := eq_false (Nat.not_lt.2 c5)
    replace H := Option.bind_eq_some_iff.mp H
    obtain ⟨t125, A60, H⟩ := H
    replace H : (if t125 = true then (if a1 ≥ 97 then (if a1 ≤ 122 then (cadencylaw03_ScanWords.j0 k t121 t120 (t121 ++ (strOfNums y122)) true) else (if a1 ≥ 65 then (if a1 ≤ 90 then (cadencylaw03_ScanWords.j0 k t121 t120 (t121 ++ (strOfNums y122)) true) else (if a1 ≥ 48 then (if a1 ≤ 57 then (cadencylaw03_ScanWords.j0 k t121 t120 (t121 ++ (strOfNums y122)) true) else (if a1 = 95 then (cadencylaw03_ScanWords.j0 k t121 t120 (t121 ++ (strOfNums y122)) true) else (if a1 = 46 then (cadencylaw03_ScanWords.j0 k t121 t120 (t121 ++ (strOfNums y122)) true) else (cadencylaw03_ScanWords.j0 k t121 t120 (t121 ++ (strOfNums y122)) (a1 == 45))))) else (if a1 = 95 then (cadencylaw03_ScanWords.j0 k t121 t120 (t121 ++ (strOfNums y122)) true) else (if a1 = 46 then (cadencylaw03_ScanWords.j0 k t121 t120 (t121 ++ (strOfNums y122)) true) else (cadencylaw03_ScanWords.j0 k t121 t120 (t121 ++ (strOfNums y122)) (a1 == 45)))))) else (if a1 ≥ 48 then (if a1 ≤ 57 then (cadencylaw03_ScanWords.j0 k t121 t120 (t121 ++ (strOfNums y122)) true) else (if a1 = 95 then (cadencylaw03_ScanWords.j0 k t121 t120 (t121 ++ (strOfNums y122)) true) else (if a1 = 46 then (cadencylaw03_ScanWords.j0 k t121 t120 (t121 ++ (strOfNums y122)) true) else (cadencylaw03_ScanWords.j0 k t121 t120 (t121 ++ (strOfNums y122)) (a1 == 45))))) else (if a1 = 95 then (cadencylaw03_ScanWords.j0 k t121 t120 (t121 ++ (strOfNums y122)) true) else (if a1 = 46 then (cadencylaw03_ScanWords.j0 k t121 t120 (t121 ++ (strOfNums y122)) true) else (cadencylaw03_ScanWords.j0 k t121 t120 (t121 ++ (strOfNums y122)) (a1 == 45))))))) else (if a1 ≥ 65 then (if a1 ≤ 90 then (cadencylaw03_ScanWords.j0 k t121 t120 (t121 ++ (strOfNums y122)) true) else (if a1 ≥ 48 then (if a1 ≤ 57 then (cadencylaw03_ScanWords.j0 k t121 t120 (t121 ++ (strOfNums y122)) true) else (if a1 = 95 then (cadencylaw03_ScanWords.j0 k t121 t120 (t121 ++ (strOfNums y122)) true) else (if a1 = 46 then (cadencylaw03_ScanWords.j0 k t121 t120 (t121 ++ (strOfNums y122)) true) else (cadencylaw03_ScanWords.j0 k t121 t120 (t121 ++ (strOfNums y122)) (a1 == 45))))) else (if a1 = 95 then (cadencylaw03_ScanWords.j0 k t121 t120 (t121 ++ (strOfNums y122)) true) else (if a1 = 46 then (cadencylaw03_ScanWords.j0 k t121 t120 (t121 ++ (strOfNums y122)) true) else (cadencylaw03_ScanWords.j0 k t121 t120 (t121 ++ (strOfNums y122)) (a1 == 45)))))) else (if a1 ≥ 48 then (if a1 ≤ 57 then (cadencylaw03_ScanWords.j0 k t121 t120 (t121 ++ (strOfNums y122)) true) else (if a1 = 95 then (cadencylaw03_ScanWords.j0 k t121 t120 (t121 ++ (strOfNums y122)) true) else (if a1 = 46 then (cadencylaw03_ScanWords.j0 k t121 t120 (t121 ++ (strOfNums y122)) true) else (cadencylaw03_ScanWords.j0 k t121 t120 (t121 ++ (strOfNums y122)) (a1 == 45))))) else (if a1 = 95 then (cadencylaw03_ScanWords.j0 k t121 t120 (t121 ++ (strOfNums y122)) true) else (if a1 = 46 then (cadencylaw03_ScanWords.j0 k t121 t120 (t121 ++ (strOfNums y122)) true) else (cadencylaw03_ScanWords.j0 k t121 t120 (t121 ++ (strOfNums y122)) (a1 == 45))))))) else (if t120 = true then ((scan_Word.f (t121 ++ (strOfNums y122))).bind fun t126 => ((cadencyref03_Word.f (t121 ++ (strOfNums y122))).bind fun t127 => (some (t126 == t127)))) else (some false))) = some r := H
    have A6 := Aside0.mk A60
    clear A60
    by_cases c7 : t125 = true
    · subst c7
      have H1 : (if a1 ≥ 97 then (if a1 ≤ 122 then (cadencylaw03_ScanWords.j0 k t121 t120 (t121 ++ (strOfNums y122)) true) else (if a1 ≥ 65 then (if a1 ≤ 90 then (cadencylaw03_ScanWords.j0 k t121 t120 (t121 ++ (strOfNums y122)) true) else (if a1 ≥ 48 then (if a1 ≤ 57 then (cadencylaw03_ScanWords.j0 k t121 t120 (t121 ++ (strOfNums y122)) true) else (if a1 = 95 then (cadencylaw03_ScanWords.j0 k t121 t120 (t121 ++ (strOfNums y122)) true) else (if a1 = 46 then (cadencylaw03_ScanWords.j0 k t121 t120 (t121 ++ (strOfNums y122)) true) else (cadencylaw03_ScanWords.j0 k t121 t120 (t121 ++ (strOfNums y122)) (a1 == 45))))) else (if a1 = 95 then (cadencylaw03_ScanWords.j0 k t121 t120 (t121 ++ (strOfNums y122)) true) else (if a1 = 46 then (cadencylaw03_ScanWords.j0 k t121 t120 (t121 ++ (strOfNums y122)) true) else (cadencylaw03_ScanWords.j0 k t121 t120 (t121 ++ (strOfNums y122)) (a1 == 45)))))) else (if a1 ≥ 48 then (if a1 ≤ 57 then (cadencylaw03_ScanWords.j0 k t121 t120 (t121 ++ (strOfNums y122)) true) else (if a1 = 95 then (cadencylaw03_ScanWords.j0 k t121 t120 (t121 ++ (strOfNums y122)) true) else (if a1 = 46 then (cadencylaw03_ScanWords.j0 k t121 t120 (t121 ++ (strOfNums y122)) true) else (cadencylaw03_ScanWords.j0 k t121 t120 (t121 ++ (strOfNums y122)) (a1 == 45))))) else (if a1 = 95 then (cadencylaw03_ScanWords.j0 k t121 t120 (t121 ++ (strOfNums y122)) true) else (if a1 = 46 then (cadencylaw03_ScanWords.j0 k t121 t120 (t121 ++ (strOfNums y122)) true) else (cadencylaw03_ScanWords.j0 k t121 t120 (t121 ++ (strOfNums y122)) (a1 == 45))))))) else (if a1 ≥ 65 then (if a1 ≤ 90 then (cadencylaw03_ScanWords.j0 k t121 t120 (t121 ++ (strOfNums y122)) true) else (if a1 ≥ 48 then (if a1 ≤ 57 then (cadencylaw03_ScanWords.j0 k t121 t120 (t121 ++ (strOfNums y122)) true) else (if a1 = 95 then (cadencylaw03_ScanWords.j0 k t121 t120 (t121 ++ (strOfNums y122)) true) else (if a1 = 46 then (cadencylaw03_ScanWords.j0 k t121 t120 (t121 ++ (strOfNums y122)) true) else (cadencylaw03_ScanWords.j0 k t121 t120 (t121 ++ (strOfNums y122)) (a1 == 45))))) else (if a1 = 95 then (cadencylaw03_ScanWords.j0 k t121 t120 (t121 ++ (strOfNums y122)) true) else (if a1 = 46 then (cadencylaw03_ScanWords.j0 k t121 t120 (t121 ++ (strOfNums y122)) true) else (cadencylaw03_ScanWords.j0 k t121 t120 (t121 ++ (strOfNums y122)) (a1 == 45)))))) else (if a1 ≥ 48 then (if a1 ≤ 57 then (cadencylaw03_ScanWords.j0 k t121 t120 (t121 ++ (strOfNums y122)) true) else (if a1 = 95 then (cadencylaw03_ScanWords.j0 k t121 t120 (t121 ++ (strOfNums y122)) true) else (if a1 = 46 then (cadencylaw03_ScanWords.j0 k t121 t120 (t121 ++ (strOfNums y122)) true) else (cadencylaw03_ScanWords.j0 k t121 t120 (t121 ++ (strOfNums y122)) (a1 == 45))))) else (if a1 = 95 then (cadencylaw03_ScanWords.j0 k t121 t120 (t121 ++ (strOfNums y122)) true) else (if a1 = 46 then (cadencylaw03_ScanWords.j0 k t121 t120 (t121 ++ (strOfNums y122)) true) else (cadencylaw03_ScanWords.j0 k t121 t120 (t121 ++ (strOfNums y122)) (a1 == 45))))))) = some r := by rw [if_pos rfl] at H; exact H
      clear H
      have H := H1
      clear H1
      have HC8 := Aside0.mk H
      clear H
      go_enter Try.func8, Try.ntmps8
      go_upto_region 6 with (first | ((with_reducible refine gate_callee (f := 9) rfl ?_); refine goesL_ (some 13) rfl rfl Try.func9 (by kernel_rfl) rfl #[] rfl (by (try simp only [List.map_toArray, List.map_cons, List.map_nil]); first | done | rfl | (simp only [List.length_drop, List.length_take]; rfl)) ?_; (with_reducible refine (cadencylaw03_awake.calls  t120 _ A3.out).mono ?_); rintro e w9 ⟨rfl, hb⟩; refine ⟨_, rfl, ?_⟩; have n0_ := Aside0.mk (below_step (by repeat (first | (with_reducible first | exact HB.out | apply below_alloc | apply pw_below_drewN | apply below_drew1) | exact HB.out)) hb); clear HB; have HB := n0_; clear n0_; (try clear hb); (try clear hb2); (try clear hk); (try clear hi)) | ((with_reducible refine gate_callee (f := 11) rfl ?_); refine goesL_ (some 15) rfl rfl Try.func11 (by kernel_rfl) rfl #[.string a0] rfl (by (try simp only [List.map_toArray, List.map_cons, List.map_nil]); first | done | rfl | (simp only [List.length_drop, List.length_take]; rfl)) ?_; (with_reducible refine (cadencylaw03_short.calls a0 t121 _ A4.out).mono ?_); rintro e w' ⟨rfl, ⟨nd, rfl⟩⟩; refine ⟨_, rfl, ?_⟩) | ((with_reducible refine gate_dst (N := 18) rfl ?_); (try (refine gate_guard (by rfl) ?_; dsimp only)); refine Kd.R_lit (Kd.int .u8) _ 5 ?hg (N := 18) ?hd (xs := ([a1] : List Int)) (inner := [.int .u8 a1]) (ok := fun _ => True) (okp := fun _ => True) ?hr ?hp (fun _ hk => hk) trivial (Below.refl _ _) (Nat.le_refl _) (by simp) ?_; (case hd => rfl); (case hg => rfl); (case hr => first | (go_simp; done) | (go_simp; rfl)); (case hp => exact (Reps.one (show Kd.M (Kd.int .u8) _ _ _ a1 [.int .u8 a1] from rfl) (Reps.none _ _))); intro v123 w10 ho11 hb hg_ hnew_; clear hg_ hnew_; (first | rw [← Ny122.out] at ho11 | (simp only [Int.reduceToNat] at ho11; rw [← Ny122.out] at ho11)); have n0_ := Aside0.mk (Kd.R_lower ho11 (below_size (by repeat (first | (with_reducible first | exact HB.out | apply below_alloc | apply pw_below_drewN | apply below_drew1) | exact HB.out)))); have n1_ := Aside0.mk (below_step (by repeat (first | (with_reducible first | exact HB.out | apply below_alloc | apply pw_below_drewN | apply below_drew1) | exact HB.out)) hb); clear HB; have HO124 := n0_; have HB := n1_; clear n0_ n1_; clear hb ho11; have hcv12 := own_string (P := Try.prog) Try.underlying31 Try.underlying5 Try.underlying9 (Kd.own_of_R HO124.out)) | ((with_reducible refine gate_callee (f := 17) rfl ?_); refine goesL_ (some 22) rfl rfl Try.func17 (by kernel_rfl) rfl #[.string t121] rfl (by (try simp only [List.map_toArray, List.map_cons, List.map_nil]); first | done | rfl | (simp only [List.length_drop, List.length_take]; rfl)) ?_; (with_reducible refine (scan_Word.calls t121 true _ A6.out).mono ?_); rintro e w13 ⟨rfl, hb⟩; refine ⟨_, rfl, ?_⟩; have n0_ := Aside0.mk (Kd.R_below (by (with_reducible repeat (first | apply Kd.R_alloc | apply Kd.R_drewN | apply Kd.R_drew)); exact HO124.out) hb); have n1_ := Aside0.mk (below_step (by repeat (first | (with_reducible first | exact HB.out | apply below_alloc | apply pw_below_drewN | apply below_drew1) | exact HB.out)) hb); clear HO124; clear HB; have HO124 := n0_; have HB := n1_; clear n0_ n1_; (try clear hb); (try clear hb2); (try clear hk); (try clear hi)))
      (try simp only [Act.put, List.setIfInBounds_toArray, List.set_cons_zero, List.set_cons_succ])
      go_cut [7] (fun v7 wc => ∃ (kq : Nat) (x7_7 : Bool), v7 = .bool x7_7 ∧ Aside0 (cadencylaw03_ScanWords.j0 kq t121 t120 (t121 ++ (strOfNums y122)) x7_7 = some r) ∧ Aside0 (kq ≤ k) ∧ Aside0 (Below w.heap.size w wc))
      case first =>
        have H := HC8.out
        clear HC8
        by_cases c14 : a1 ≥ 97
        · rw [if_pos c14] at H
          have c14b0 : decide (97 ≤ a1) = true := decide_eq_true c14
          clear c14
          (first | rw [c14b0] | (simp only [i64_w, i32_w]; rw [c14b0]) | skip)
          by_cases c15 : a1 ≤ 122
          · rw [if_pos c15] at H
            have c15b0 : decide (a1 ≤ 122) = true := decide_eq_true c15
            clear c15
            have H' := Aside0.mk H
            clear H
            go_wp2
            go_meet
            case rel => exact ⟨_, (true), (by first | rfl | (simp; done) | (simp [*]; done)), H', ⟨by first | omega | exact Nat.le_refl _⟩, ⟨by repeat (first | (with_reducible first | exact HB.out | apply below_alloc | apply pw_below_drewN | apply below_drew1) | exact HB.out)⟩⟩
          · rw [if_neg c15] at H
            have c15b0 : decide (a1 ≤ 122) = false := decide_eq_false c15
            clear c15
            by_cases c16 : a1 ≥ 65
            · rw [if_pos c16] at H
              have c16b0 : decide (65 ≤ a1) = true := decide_eq_true c16
              clear c16
              by_cases c17 : a1 ≤ 90
              · rw [if_pos c17] at H
                have c17b0 : decide (a1 ≤ 90) = true := decide_eq_true c17
                clear c17
                have H' := Aside0.mk H
                clear H
                go_wp2
                go_meet
                case rel => exact ⟨_, (true), (by first | rfl | (simp; done) | (simp [*]; done)), H', ⟨by first | omega | exact Nat.le_refl _⟩, ⟨by repeat (first | (with_reducible first | exact HB.out | apply below_alloc | apply pw_below_drewN | apply below_drew1) | exact HB.out)⟩⟩
              · rw [if_neg c17] at H
                have c17b0 : decide (a1 ≤ 90) = false := decide_eq_false c17
                clear c17
                by_cases c18 : a1 ≥ 48
                · rw [if_pos c18] at H
                  have c18b0 : decide (48 ≤ a1) = true := decide_eq_true c18
                  clear c18
                  by_cases c19 : a1 ≤ 57
                  · rw [if_pos c19] at H
                    have c19b0 : decide (a1 ≤ 57) = true := decide_eq_true c19
                    clear c19
                    have H' := Aside0.mk H
                    clear H
                    go_wp2
                    go_meet
                    case rel => exact ⟨_, (true), (by first | rfl | (simp; done) | (simp [*]; done)), H', ⟨by first | omega | exact Nat.le_refl _⟩, ⟨by repeat (first | (with_reducible first | exact HB.out | apply below_alloc | apply pw_below_drewN | apply below_drew1) | exact HB.out)⟩⟩
                  · rw [if_neg c19] at H
                    have c19b0 : decide (a1 ≤ 57) = false := decide_eq_false c19
                    clear c19
                    by_cases c20 : a1 = 95
                    · rw [if_pos c20] at H
                      have c20b0 : (a1 == 95) = true := beq_iff_eq.mpr c20
                      have c20b1 : (a1 != 95) = false := bne_eq_false_iff_eq.mpr c20
                      clear c20
                      have H' := Aside0.mk H
                      clear H
                      go_wp2
                      go_meet
                      case rel => exact ⟨_, (true), (by first | rfl | (simp; done) | (simp [*]; done)), H', ⟨by first | omega | exact Nat.le_refl _⟩, ⟨by repeat (first | (with_reducible first | exact HB.out | apply below_alloc | apply pw_below_drewN | apply below_drew1) | exact HB.out)⟩⟩
                    · rw [if_neg c20] at H
                      have c20b0 : (a1 == 95) = false := beq_eq_false_iff_ne.mpr c20
                      have c20b1 : (a1 != 95) = true := bne_iff_ne.mpr c20
                      by_cases c21 : a1 = 46
                      · rw [if_pos c21] at H
                        have c21b0 : (a1 == 46) = true := beq_iff_eq.mpr c21
                        have c21b1 : (a1 != 46) = false := bne_eq_false_iff_eq.mpr c21
                        clear c21
                        have H' := Aside0.mk H
                        clear H
                        go_wp2
                        go_meet
                        case rel => exact ⟨_, (true), (by first | rfl | (simp; done) | (simp [*]; done)), H', ⟨by first | omega | exact Nat.le_refl _⟩, ⟨by repeat (first | (with_reducible first | exact HB.out | apply below_alloc | apply pw_below_drewN | apply below_drew1) | exact HB.out)⟩⟩
                      · rw [if_neg c21] at H
                        have c21b0 : (a1 == 46) = false := beq_eq_false_iff_ne.mpr c21
                        have c21b1 : (a1 != 46) = true := bne_iff_ne.mpr c21
                        have H' := Aside0.mk H
                        clear H
                        go_wp2
                        go_meet
                        case rel => exact ⟨_, ((a1 == 45)), (by first | rfl | (simp; done) | (simp [*]; done)), H', ⟨by first | omega | exact Nat.le_refl _⟩, ⟨by repeat (first | (with_reducible first | exact HB.out | apply below_alloc | apply pw_below_drewN | apply below_drew1) | exact HB.out)⟩⟩
                · rw [if_neg c18] at H
                  have c18b0 : decide (48 ≤ a1) = false := decide_eq_false c18
                  clear c18
                  by_cases c22 : a1 = 95
                  · rw [if_pos c22] at H
                    have c22b0 : (a1 == 95) = true := beq_iff_eq.mpr c22
                    have c22b1 : (a1 != 95) = false := bne_eq_false_iff_eq.mpr c22
                    clear c22
                    have H' := Aside0.mk H
                    clear H
                    go_wp2
                    go_meet
                    case rel => exact ⟨_, (true), (by first | rfl | (simp; done) | (simp [*]; done)), H', ⟨by first | omega | exact Nat.le_refl _⟩, ⟨by repeat (first | (with_reducible first | exact HB.out | apply below_alloc | apply pw_below_drewN | apply below_drew1) | exact HB.out)⟩⟩
                  · rw [if_neg c22] at H
                    have c22b0 : (a1 == 95) = false := beq_eq_false_iff_ne.mpr c22
                    have c22b1 : (a1 != 95) = true := bne_iff_ne.mpr c22
                    by_cases c23 : a1 = 46
                    · rw [if_pos c23] at H
                      have c23b0 : (a1 == 46) = true := beq_iff_eq.mpr c23
                      have c23b1 : (a1 != 46) = false := bne_eq_false_iff_eq.mpr c23
                      clear c23
                      have H' := Aside0.mk H
                      clear H
                      go_wp2
                      go_meet
                      case rel => exact ⟨_, (true), (by first | rfl | (simp; done) | (simp [*]; done)), H', ⟨by first | omega | exact Nat.le_refl _⟩, ⟨by repeat (first | (with_reducible first | exact HB.out | apply below_alloc | apply pw_below_drewN | apply below_drew1) | exact HB.out)⟩⟩
                    · rw [if_neg c23] at H
                      have c23b0 : (a1 == 46) = false := beq_eq_false_iff_ne.mpr c23
                      have c23b1 : (a1 != 46) = true := bne_iff_ne.mpr c23
                      have H' := Aside0.mk H
                      clear H
                      go_wp2
                      go_meet
                      case rel => exact ⟨_, ((a1 == 45)), (by first | rfl | (simp; done) | (simp [*]; done)), H', ⟨by first | omega | exact Nat.le_refl _⟩, ⟨by repeat (first | (with_reducible first | exact HB.out | apply below_alloc | apply pw_below_drewN | apply below_drew1) | exact HB.out)⟩⟩
            · rw [if_neg c16] at H
              have c16b0 : decide (65 ≤ a1) = false := decide_eq_false c16
              clear c16
              by_cases c24 : a1 ≥ 48
              · rw [if_pos c24] at H
                have c24b0 : decide (48 ≤ a1) = true := decide_eq_true c24
                clear c24
                by_cases c25 : a1 ≤ 57
                · rw [if_pos c25] at H
                  have c25b0 : decide (a1 ≤ 57) = true := decide_eq_true c25
                  clear c25
                  have H' := Aside0.mk H
                  clear H
                  go_wp2
                  go_meet
                  case rel => exact ⟨_, (true), (by first | rfl | (simp; done) | (simp [*]; done)), H', ⟨by first | omega | exact Nat.le_refl _⟩, ⟨by repeat (first | (with_reducible first | exact HB.out | apply below_alloc | apply pw_below_drewN | apply below_drew1) | exact HB.out)⟩⟩
                · rw [if_neg c25] at H
                  have c25b0 : decide (a1 ≤ 57) = false := decide_eq_false c25
                  clear c25
                  by_cases c26 : a1 = 95
                  · rw [if_pos c26] at H
                    have c26b0 : (a1 == 95) = true := beq_iff_eq.mpr c26
                    have c26b1 : (a1 != 95) = false := bne_eq_false_iff_eq.mpr c26
                    clear c26
                    have H' := Aside0.mk H
                    clear H
                    go_wp2
                    go_meet
                    case rel => exact ⟨_, (true), (by first | rfl | (simp; done) | (simp [*]; done)), H', ⟨by first | omega | exact Nat.le_refl _⟩, ⟨by repeat (first | (with_reducible first | exact HB.out | apply below_alloc | apply pw_below_drewN | apply below_drew1) | exact HB.out)⟩⟩
                  · rw [if_neg c26] at H
                    have c26b0 : (a1 == 95) = false := beq_eq_false_iff_ne.mpr c26
                    have c26b1 : (a1 != 95) = true := bne_iff_ne.mpr c26
                    by_cases c27 : a1 = 46
                    · rw [if_pos c27] at H
                      have c27b0 : (a1 == 46) = true := beq_iff_eq.mpr c27
                      have c27b1 : (a1 != 46) = false := bne_eq_false_iff_eq.mpr c27
                      clear c27
                      have H' := Aside0.mk H
                      clear H
                      go_wp2
                      go_meet
                      case rel => exact ⟨_, (true), (by first | rfl | (simp; done) | (simp [*]; done)), H', ⟨by first | omega | exact Nat.le_refl _⟩, ⟨by repeat (first | (with_reducible first | exact HB.out | apply below_alloc | apply pw_below_drewN | apply below_drew1) | exact HB.out)⟩⟩
                    · rw [if_neg c27] at H
                      have c27b0 : (a1 == 46) = false := beq_eq_false_iff_ne.mpr c27
                      have c27b1 : (a1 != 46) = true := bne_iff_ne.mpr c27
                      have H' := Aside0.mk H
                      clear H
                      go_wp2
                      go_meet
                      case rel => exact ⟨_, ((a1 == 45)), (by first | rfl | (simp; done) | (simp [*]; done)), H', ⟨by first | omega | exact Nat.le_refl _⟩, ⟨by repeat (first | (with_reducible first | exact HB.out | apply below_alloc | apply pw_below_drewN | apply below_drew1) | exact HB.out)⟩⟩
              · rw [if_neg c24] at H
                have c24b0 : decide (48 ≤ a1) = false := decide_eq_false c24
                clear c24
                by_cases c28 : a1 = 95
                · rw [if_pos c28] at H
                  have c28b0 : (a1 == 95) = true := beq_iff_eq.mpr c28
                  have c28b1 : (a1 != 95) = false := bne_eq_false_iff_eq.mpr c28
                  clear c28
                  have H' := Aside0.mk H
                  clear H
                  go_wp2
                  go_meet
                  case rel => exact ⟨_, (true), (by first | rfl | (simp; done) | (simp [*]; done)), H', ⟨by first | omega | exact Nat.le_refl _⟩, ⟨by repeat (first | (with_reducible first | exact HB.out | apply below_alloc | apply pw_below_drewN | apply below_drew1) | exact HB.out)⟩⟩
                · rw [if_neg c28] at H
                  have c28b0 : (a1 == 95) = false := beq_eq_false_iff_ne.mpr c28
                  have c28b1 : (a1 != 95) = true := bne_iff_ne.mpr c28
                  by_cases c29 : a1 = 46
                  · rw [if_pos c29] at H
                    have c29b0 : (a1 == 46) = true := beq_iff_eq.mpr c29
                    have c29b1 : (a1 != 46) = false := bne_eq_false_iff_eq.mpr c29
                    clear c29
                    have H' := Aside0.mk H
                    clear H
                    go_wp2
                    go_meet
                    case rel => exact ⟨_, (true), (by first | rfl | (simp; done) | (simp [*]; done)), H', ⟨by first | omega | exact Nat.le_refl _⟩, ⟨by repeat (first | (with_reducible first | exact HB.out | apply below_alloc | apply pw_below_drewN | apply below_drew1) | exact HB.out)⟩⟩
                  · rw [if_neg c29] at H
                    have c29b0 : (a1 == 46) = false := beq_eq_false_iff_ne.mpr c29
                    have c29b1 : (a1 != 46) = true := bne_iff_ne.mpr c29
                    have H' := Aside0.mk H
                    clear H
                    go_wp2
                    go_meet
                    case rel => exact ⟨_, ((a1 == 45)), (by first | rfl | (simp; done) | (simp [*]; done)), H', ⟨by first | omega | exact Nat.le_refl _⟩, ⟨by repeat (first | (with_reducible first | exact HB.out | apply below_alloc | apply pw_below_drewN | apply below_drew1) | exact HB.out)⟩⟩
        · rw [if_neg c14] at H
          have c14b0 : decide (97 ≤ a1) = false := decide_eq_false c14
          clear c14
          (first | rw [c14b0] | (simp only [i64_w, i32_w]; rw [c14b0]) | skip)
          by_cases c30 : a1 ≥ 65
          · rw [if_pos c30] at H
            have c30b0 : decide (65 ≤ a1) = true := decide_eq_true c30
            clear c30
            by_cases c31 : a1 ≤ 90
            · rw [if_pos c31] at H
              have c31b0 : decide (a1 ≤ 90) = true := decide_eq_true c31
              clear c31
              have H' := Aside0.mk H
              clear H
              go_wp2
              go_meet
              case rel => exact ⟨_, (true), (by first | rfl | (simp; done) | (simp [*]; done)), H', ⟨by first | omega | exact Nat.le_refl _⟩, ⟨by repeat (first | (with_reducible first | exact HB.out | apply below_alloc | apply pw_below_drewN | apply below_drew1) | exact HB.out)⟩⟩
            · rw [if_neg c31] at H
              have c31b0 : decide (a1 ≤ 90) = false := decide_eq_false c31
              clear c31
              by_cases c32 : a1 ≥ 48
              · rw [if_pos c32] at H
                have c32b0 : decide (48 ≤ a1) = true := decide_eq_true c32
                clear c32
                by_cases c33 : a1 ≤ 57
                · rw [if_pos c33] at H
                  have c33b0 : decide (a1 ≤ 57) = true := decide_eq_true c33
                  clear c33
                  have H' := Aside0.mk H
                  clear H
                  go_wp2
                  go_meet
                  case rel => exact ⟨_, (true), (by first | rfl | (simp; done) | (simp [*]; done)), H', ⟨by first | omega | exact Nat.le_refl _⟩, ⟨by repeat (first | (with_reducible first | exact HB.out | apply below_alloc | apply pw_below_drewN | apply below_drew1) | exact HB.out)⟩⟩
                · rw [if_neg c33] at H
                  have c33b0 : decide (a1 ≤ 57) = false := decide_eq_false c33
                  clear c33
                  by_cases c34 : a1 = 95
                  · rw [if_pos c34] at H
                    have c34b0 : (a1 == 95) = true := beq_iff_eq.mpr c34
                    have c34b1 : (a1 != 95) = false := bne_eq_false_iff_eq.mpr c34
                    clear c34
                    have H' := Aside0.mk H
                    clear H
                    go_wp2
                    go_meet
                    case rel => exact ⟨_, (true), (by first | rfl | (simp; done) | (simp [*]; done)), H', ⟨by first | omega | exact Nat.le_refl _⟩, ⟨by repeat (first | (with_reducible first | exact HB.out | apply below_alloc | apply pw_below_drewN | apply below_drew1) | exact HB.out)⟩⟩
                  · rw [if_neg c34] at H
                    have c34b0 : (a1 == 95) = false := beq_eq_false_iff_ne.mpr c34
                    have c34b1 : (a1 != 95) = true := bne_iff_ne.mpr c34
                    by_cases c35 : a1 = 46
                    · rw [if_pos c35] at H
                      have c35b0 : (a1 == 46) = true := beq_iff_eq.mpr c35
                      have c35b1 : (a1 != 46) = false := bne_eq_false_iff_eq.mpr c35
                      clear c35
                      have H' := Aside0.mk H
                      clear H
                      go_wp2
                      go_meet
                      case rel => exact ⟨_, (true), (by first | rfl | (simp; done) | (simp [*]; done)), H', ⟨by first | omega | exact Nat.le_refl _⟩, ⟨by repeat (first | (with_reducible first | exact HB.out | apply below_alloc | apply pw_below_drewN | apply below_drew1) | exact HB.out)⟩⟩
                    · rw [if_neg c35] at H
                      have c35b0 : (a1 == 46) = false := beq_eq_false_iff_ne.mpr c35
                      have c35b1 : (a1 != 46) = true := bne_iff_ne.mpr c35
                      have H' := Aside0.mk H
                      clear H
                      go_wp2
                      go_meet
                      case rel => exact ⟨_, ((a1 == 45)), (by first | rfl | (simp; done) | (simp [*]; done)), H', ⟨by first | omega | exact Nat.le_refl _⟩, ⟨by repeat (first | (with_reducible first | exact HB.out | apply below_alloc | apply pw_below_drewN | apply below_drew1) | exact HB.out)⟩⟩
              · rw [if_neg c32] at H
                have c32b0 : decide (48 ≤ a1) = false := decide_eq_false c32
                clear c32
                by_cases c36 : a1 = 95
                · rw [if_pos c36] at H
                  have c36b0 : (a1 == 95) = true := beq_iff_eq.mpr c36
                  have c36b1 : (a1 != 95) = false := bne_eq_false_iff_eq.mpr c36
                  clear c36
                  have H' := Aside0.mk H
                  clear H
                  go_wp2
                  go_meet
                  case rel => exact ⟨_, (true), (by first | rfl | (simp; done) | (simp [*]; done)), H', ⟨by first | omega | exact Nat.le_refl _⟩, ⟨by repeat (first | (with_reducible first | exact HB.out | apply below_alloc | apply pw_below_drewN | apply below_drew1) | exact HB.out)⟩⟩
                · rw [if_neg c36] at H
                  have c36b0 : (a1 == 95) = false := beq_eq_false_iff_ne.mpr c36
                  have c36b1 : (a1 != 95) = true := bne_iff_ne.mpr c36
                  by_cases c37 : a1 = 46
                  · rw [if_pos c37] at H
                    have c37b0 : (a1 == 46) = true := beq_iff_eq.mpr c37
                    have c37b1 : (a1 != 46) = false := bne_eq_false_iff_eq.mpr c37
                    clear c37
                    have H' := Aside0.mk H
                    clear H
                    go_wp2
                    go_meet
                    case rel => exact ⟨_, (true), (by first | rfl | (simp; done) | (simp [*]; done)), H', ⟨by first | omega | exact Nat.le_refl _⟩, ⟨by repeat (first | (with_reducible first | exact HB.out | apply below_alloc | apply pw_below_drewN | apply below_drew1) | exact HB.out)⟩⟩
                  · rw [if_neg c37] at H
                    have c37b0 : (a1 == 46) = false := beq_eq_false_iff_ne.mpr c37
                    have c37b1 : (a1 != 46) = true := bne_iff_ne.mpr c37
                    have H' := Aside0.mk H
                    clear H
                    go_wp2
                    go_meet
                    case rel => exact ⟨_, ((a1 == 45)), (by first | rfl | (simp; done) | (simp [*]; done)), H', ⟨by first | omega | exact Nat.le_refl _⟩, ⟨by repeat (first | (with_reducible first | exact HB.out | apply below_alloc | apply pw_below_drewN | apply below_drew1) | exact HB.out)⟩⟩
          · rw [if_neg c30] at H
            have c30b0 : decide (65 ≤ a1) = false := decide_eq_false c30
            clear c30
            by_cases c38 : a1 ≥ 48
            · rw [if_pos c38] at H
              have c38b0 : decide (48 ≤ a1) = true := decide_eq_true c38
              clear c38
              by_cases c39 : a1 ≤ 57
              · rw [if_pos c39] at H
                have c39b0 : decide (a1 ≤ 57) = true := decide_eq_true c39
                clear c39
                have H' := Aside0.mk H
                clear H
                go_wp2
                go_meet
                case rel => exact ⟨_, (true), (by first | rfl | (simp; done) | (simp [*]; done)), H', ⟨by first | omega | exact Nat.le_refl _⟩, ⟨by repeat (first | (with_reducible first | exact HB.out | apply below_alloc | apply pw_below_drewN | apply below_drew1) | exact HB.out)⟩⟩
              · rw [if_neg c39] at H
                have c39b0 : decide (a1 ≤ 57) = false := decide_eq_false c39
                clear c39
                by_cases c40 : a1 = 95
                · rw [if_pos c40] at H
                  have c40b0 : (a1 == 95) = true := beq_iff_eq.mpr c40
                  have c40b1 : (a1 != 95) = false := bne_eq_false_iff_eq.mpr c40
                  clear c40
                  have H' := Aside0.mk H
                  clear H
                  go_wp2
                  go_meet
                  case rel => exact ⟨_, (true), (by first | rfl | (simp; done) | (simp [*]; done)), H', ⟨by first | omega | exact Nat.le_refl _⟩, ⟨by repeat (first | (with_reducible first | exact HB.out | apply below_alloc | apply pw_below_drewN | apply below_drew1) | exact HB.out)⟩⟩
                · rw [if_neg c40] at H
                  have c40b0 : (a1 == 95) = false := beq_eq_false_iff_ne.mpr c40
                  have c40b1 : (a1 != 95) = true := bne_iff_ne.mpr c40
                  by_cases c41 : a1 = 46
                  · rw [if_pos c41] at H
                    have c41b0 : (a1 == 46) = true := beq_iff_eq.mpr c41
                    have c41b1 : (a1 != 46) = false := bne_eq_false_iff_eq.mpr c41
                    clear c41
                    have H' := Aside0.mk H
                    clear H
                    go_wp2
                    go_meet
                    case rel => exact ⟨_, (true), (by first | rfl | (simp; done) | (simp [*]; done)), H', ⟨by first | omega | exact Nat.le_refl _⟩, ⟨by repeat (first | (with_reducible first | exact HB.out | apply below_alloc | apply pw_below_drewN | apply below_drew1) | exact HB.out)⟩⟩
                  · rw [if_neg c41] at H
                    have c41b0 : (a1 == 46) = false := beq_eq_false_iff_ne.mpr c41
                    have c41b1 : (a1 != 46) = true := bne_iff_ne.mpr c41
                    have H' := Aside0.mk H
                    clear H
                    go_wp2
                    go_meet
                    case rel => exact ⟨_, ((a1 == 45)), (by first | rfl | (simp; done) | (simp [*]; done)), H', ⟨by first | omega | exact Nat.le_refl _⟩, ⟨by repeat (first | (with_reducible first | exact HB.out | apply below_alloc | apply pw_below_drewN | apply below_drew1) | exact HB.out)⟩⟩
            · rw [if_neg c38] at H
              have c38b0 : decide (48 ≤ a1) = false := decide_eq_false c38
              clear c38
              by_cases c42 : a1 = 95
              · rw [if_pos c42] at H
                have c42b0 : (a1 == 95) = true := beq_iff_eq.mpr c42
                have c42b1 : (a1 != 95) = false := bne_eq_false_iff_eq.mpr c42
                clear c42
                have H' := Aside0.mk H
                clear H
                go_wp2
                go_meet
                case rel => exact ⟨_, (true), (by first | rfl | (simp; done) | (simp [*]; done)), H', ⟨by first | omega | exact Nat.le_refl _⟩, ⟨by repeat (first | (with_reducible first | exact HB.out | apply below_alloc | apply pw_below_drewN | apply below_drew1) | exact HB.out)⟩⟩
              · rw [if_neg c42] at H
                have c42b0 : (a1 == 95) = false := beq_eq_false_iff_ne.mpr c42
                have c42b1 : (a1 != 95) = true := bne_iff_ne.mpr c42
                by_cases c43 : a1 = 46
                · rw [if_pos c43] at H
                  have c43b0 : (a1 == 46) = true := beq_iff_eq.mpr c43
                  have c43b1 : (a1 != 46) = false := bne_eq_false_iff_eq.mpr c43
                  clear c43
                  have H' := Aside0.mk H
                  clear H
                  go_wp2
                  go_meet
                  case rel => exact ⟨_, (true), (by first | rfl | (simp; done) | (simp [*]; done)), H', ⟨by first | omega | exact Nat.le_refl _⟩, ⟨by repeat (first | (with_reducible first | exact HB.out | apply below_alloc | apply pw_below_drewN | apply below_drew1) | exact HB.out)⟩⟩
                · rw [if_neg c43] at H
                  have c43b0 : (a1 == 46) = false := beq_eq_false_iff_ne.mpr c43
                  have c43b1 : (a1 != 46) = true := bne_iff_ne.mpr c43
                  have H' := Aside0.mk H
                  clear H
                  go_wp2
                  go_meet
                  case rel => exact ⟨_, ((a1 == 45)), (by first | rfl | (simp; done) | (simp [*]; done)), H', ⟨by first | omega | exact Nat.le_refl _⟩, ⟨by repeat (first | (with_reducible first | exact HB.out | apply below_alloc | apply pw_below_drewN | apply below_drew1) | exact HB.out)⟩⟩
      case rest =>
        clear HC8
        try clear c1
        try clear hcv1
        try clear c2
        try clear p2
        try clear c3
        try clear c4
        try clear c5
        try clear c5b0
        try clear c5b1
        try clear c5b2
        try clear c7
        try clear c8
        try clear c9
        try clear c11
        try clear hcv12
        try clear c14
        try clear c14b0
        try clear c15
        try clear c15b0
        try clear c16
        try clear c16b0
        try clear c17
        try clear c17b0
        try clear c18
        try clear c18b0
        try clear c19
        try clear c19b0
        try clear c20
        try clear c20b0
        try clear c20b1
        try clear c21
        try clear c21b0
        try clear c21b1
        try clear c22
        try clear c22b0
        try clear c22b1
        try clear c23
        try clear c23b0
        try clear c23b1
        try clear c24
        try clear c24b0
        try clear c25
        try clear c25b0
        try clear c26
        try clear c26b0
        try clear c26b1
        try clear c27
        try clear c27b0
        try clear c27b1
        try clear c28
        try clear c28b0
        try clear c28b1
        try clear c29
        try clear c29b0
        try clear c29b1
        try clear c30
        try clear c30b0
        try clear c31
        try clear c31b0
        try clear c32
        try clear c32b0
        try clear c33
        try clear c33b0
        try clear c34
        try clear c34b0
        try clear c34b1
        try clear c35
        try clear c35b0
        try clear c35b1
        try clear c36
        try clear c36b0
        try clear c36b1
        try clear c37
        try clear c37b0
        try clear c37b1
        try clear c38
        try clear c38b0
        try clear c39
        try clear c39b0
        try clear c40
        try clear c40b0
        try clear c40b1
        try clear c41
        try clear c41b0
        try clear c41b1
        try clear c42
        try clear c42b0
        try clear c42b1
        try clear c43
        try clear c43b0
        try clear c43b1
        obtain ⟨kq, x7_7, rfl, HA, HJ7, HB⟩ := hcut
        cases kq with
        | zero => exact absurd HA.out (by simp [cadencylaw03_ScanWords.j0])
        | succ kj7 =>
          have H := HA.out
          clear HA
          simp only [cadencylaw03_ScanWords.j0] at H
          replace H := Option.bind_eq_some_iff.mp H
          obtain ⟨⟨t128, t129, t130⟩, A440, H⟩ := H
          replace H : ((cadencylaw03_each.f (t121 ++ (strOfNums y122))).bind fun bt133 => (if t120 = true then ((scan_Word.f (t121 ++ (strOfNums y122))).bind fun t137 => (if (t137 == x7_7) = true then (if t130 = 0 then (if (t128.length : Int) = 1 then (if 0 < (t128.length : Int) then (if ((rd_T28 t128 0).f2).toList = t121.toList then (if bt133.2 = true then (if (bt133.1.length : Int) ≥ 1 then (if 0 < (bt133.1.length : Int) then (if ((((rd_T28 bt133.1 0).f2).toList == (t121 ++ (strOfNums y122)).toList) == x7_7) = true then (if x7_7 = true then (some true) else (some (((rd_T28 bt133.1 0).f2).toList == t121.toList))) else (some false)) else (none)) else (some false)) else (some false)) else (some false)) else (none)) else (some false)) else (some false)) else (some false))) else (some false))) = some r := H
          have A44 := Aside0.mk A440
          clear A440
          replace H := Option.bind_eq_some_iff.mp H
          obtain ⟨⟨t133, t134⟩, A450, H⟩ := H
          replace H : (if t120 = true then ((scan_Word.f (t121 ++ (strOfNums y122))).bind fun t137 => (if (t137 == x7_7) = true then (if t130 = 0 then (if (t128.length : Int) = 1 then (if 0 < (t128.length : Int) then (if ((rd_T28 t128 0).f2).toList = t121.toList then (if t134 = true then (if (t133.length : Int) ≥ 1 then (if 0 < (t133.length : Int) then (if ((((rd_T28 t133 0).f2).toList == (t121 ++ (strOfNums y122)).toList) == x7_7) = true then (if x7_7 = true then (some true) else (some (((rd_T28 t133 0).f2).toList == t121.toList))) else (some false)) else (none)) else (some false)) else (some false)) else (some false)) else (none)) else (some false)) else (some false)) else (some false))) else (some false)) = some r := H
          have A45 := Aside0.mk A450
          clear A450
          by_cases c46 : t120 = true
          · subst c46
            have H1 : ((scan_Word.f (t121 ++ (strOfNums y122))).bind fun t137 => (if (t137 == x7_7) = true then (if t130 = 0 then (if (t128.length : Int) = 1 then (if 0 < (t128.length : Int) then (if ((rd_T28 t128 0).f2).toList = t121.toList then (if t134 = true then (if (t133.length : Int) ≥ 1 then (if 0 < (t133.length : Int) then (if ((((rd_T28 t133 0).f2).toList == (t121 ++ (strOfNums y122)).toList) == x7_7) = true then (if x7_7 = true then (some true) else (some (((rd_T28 t133 0).f2).toList == t121.toList))) else (some false)) else (none)) else (some false)) else (some false)) else (some false)) else (none)) else (some false)) else (some false)) else (some false))) = some r := by rw [if_pos rfl] at H; exact H
            clear H
            have H := H1
            clear H1
            replace H := Option.bind_eq_some_iff.mp H
            obtain ⟨t137, A470, H⟩ := H
            replace H : (if (t137 == x7_7) = true then (if t130 = 0 then (if (t128.length : Int) = 1 then (if 0 < (t128.length : Int) then (if ((rd_T28 t128 0).f2).toList = t121.toList then (if t134 = true then (if (t133.length : Int) ≥ 1 then (if 0 < (t133.length : Int) then (if ((((rd_T28 t133 0).f2).toList == (t121 ++ (strOfNums y122)).toList) == x7_7) = true then (if x7_7 = true then (some true) else (some (((rd_T28 t133 0).f2).toList == t121.toList))) else (some false)) else (none)) else (some false)) else (some false)) else (some false)) else (none)) else (some false)) else (some false)) else (some false)) = some r := H
            have A47 := Aside0.mk A470
            clear A470
            by_cases c48 : (t137 == x7_7) = true
            · rw [if_pos c48] at H
              have c48b0 : (t137 == x7_7) = true := c48
              (try (have c48b1 : decide (t137 = x7_7) = true := by simpa using c48))
              (try (have c48b2 : (t137 == x7_7) = true := by simpa using c48))
              clear c48
              by_cases c49 : t130 = 0
              · rw [if_pos c49] at H
                have c49b0 : (t130 == 0) = true := beq_iff_eq.mpr c49
                have c49b1 : (t130 != 0) = false := bne_eq_false_iff_eq.mpr c49
                clear c49
                by_cases c50 : (t128.length : Int) = 1
                · rw [if_pos c50] at H
                  have c50b0 : ((t128.length : Int) == 1) = true := beq_iff_eq.mpr c50
                  have c50b1 : ((t128.length : Int) != 1) = false := bne_eq_false_iff_eq.mpr c50
                  clear c50
                  by_cases c51 : 0 < (t128.length : Int)
                  · rw [if_pos c51] at H
                    have c51b0 : decide (0 < (t128.length : Int)) = true := decide_eq_true c51
                    have c51b1 : decide (0 < t128.length) = true := decide_eq_true (by omega)
                    clear c51
                    by_cases c52 : ((rd_T28 t128 0).f2).toList = t121.toList
                    · rw [if_pos c52] at H
                      have c52b0 : (((rd_T28 t128 0).f2).toList == t121.toList) = true := beq_iff_eq.mpr c52
                      have c52b1 : (((rd_T28 t128 0).f2).toList != t121.toList) = false := bne_eq_false_iff_eq.mpr c52
                      clear c52
                      by_cases c53 : t134 = true
                      · subst c53
                        have H1 : (if (t133.length : Int) ≥ 1 then (if 0 < (t133.length : Int) then (if ((((rd_T28 t133 0).f2).toList == (t121 ++ (strOfNums y122)).toList) == x7_7) = true then (if x7_7 = true then (some true) else (some (((rd_T28 t133 0).f2).toList == t121.toList))) else (some false)) else (none)) else (some false)) = some r := by rw [if_pos rfl] at H; exact H
                        clear H
                        have H := H1
                        clear H1
                        by_cases c54 : (t133.length : Int) ≥ 1
                        · rw [if_pos c54] at H
                          have c54b0 : decide (1 ≤ (t133.length : Int)) = true := decide_eq_true c54
                          have c54b1 : decide (1 ≤ t133.length) = true := decide_eq_true (by omega)
                          clear c54
                          by_cases c55 : 0 < (t133.length : Int)
                          · rw [if_pos c55] at H
                            have c55b0 : decide (0 < (t133.length : Int)) = true := decide_eq_true c55
                            have c55b1 : decide (0 < t133.length) = true := decide_eq_true (by omega)
                            clear c55
                            by_cases c56 : ((((rd_T28 t133 0).f2).toList == (t121 ++ (strOfNums y122)).toList) == x7_7) = true
                            · rw [if_pos c56] at H
                              have c56b0 : ((((rd_T28 t133 0).f2).toList == (t121 ++ (strOfNums y122)).toList) == x7_7) = true := c56
                              (try (have c56b1 : decide ((((rd_T28 t133 0).f2).toList == (t121 ++ (strOfNums y122)).toList) = x7_7) = true := by simpa using c56))
                              (try (have c56b2 : ((((rd_T28 t133 0).f2).toList == (t121 ++ (strOfNums y122)).toList) == x7_7) = true := by simpa using c56))
                              clear c56
                              by_cases c57 : x7_7 = true
                              · subst c57
                                have H1 : (some true) = some r := by rw [if_pos rfl] at H; exact H
                                clear H
                                have H := H1
                                clear H1
                                obtain rfl := Option.some.inj H
                                go_wp2_with (first | ((with_reducible refine gate_callee (f := 13) rfl ?_); refine goesL_ (some 68) rfl rfl Try.func13 (by kernel_rfl) rfl #[.string t121] rfl (by (try simp only [List.map_toArray, List.map_cons, List.map_nil]); first | done | rfl | (simp only [List.length_drop, List.length_take]; rfl)) ?_; (with_reducible refine (scan_Lex.calls t121 t128 t129 t130 _ A44.out).mono ?_); rintro e w58 ⟨v131, rfl, ho0, hb⟩; refine ⟨_, rfl, ?_⟩; have n0_ := Aside0.mk (Kd.R_lower ho0 (below_size (by repeat (first | (with_reducible first | exact HB.out | apply below_alloc | apply pw_below_drewN | apply below_drew1) | exact HB.out)))); have n1_ := Aside0.mk (below_step (by repeat (first | (with_reducible first | exact HB.out | apply below_alloc | apply pw_below_drewN | apply below_drew1) | exact HB.out)) hb); clear HB; have HO132 := n0_; have HB := n1_; clear n0_ n1_; (try clear hb); (try clear hb2); (try clear hk); (try clear hi); (try clear ho0)) | ((with_reducible refine gate_callee (f := 10) rfl ?_); refine goesL_ (some 74) rfl rfl Try.func10 (by kernel_rfl) rfl #[.string (t121 ++ (strOfNums y122))] rfl (by (try simp only [List.map_toArray, List.map_cons, List.map_nil]); first | done | rfl | (simp only [List.length_drop, List.length_take]; rfl)) ?_; (with_reducible refine (cadencylaw03_each.calls (t121 ++ (strOfNums y122)) t133 true _ A45.out).mono ?_); rintro e w59 ⟨v135, rfl, ho0, hb⟩; refine ⟨_, rfl, ?_⟩; have n0_ := Aside0.mk (Kd.R_elder' (by (with_reducible repeat (first | apply Kd.R_alloc | apply Kd.R_drewN | apply Kd.R_drew)); exact HO132.out) (Kd.R_base ho0) hb); have n1_ := Aside0.mk (Kd.R_lower (Kd.R_new' ho0 (Kd.R_lt (by (with_reducible repeat (first | apply Kd.R_alloc | apply Kd.R_drewN | apply Kd.R_drew)); exact HO132.out))) (below_size (by repeat (first | (with_reducible first | exact HB.out | apply below_alloc | apply pw_below_drewN | apply below_drew1) | exact HB.out)))); have n2_ := Aside0.mk (below_step (by repeat (first | (with_reducible first | exact HB.out | apply below_alloc | apply pw_below_drewN | apply below_drew1) | exact HB.out)) hb); clear HO132; clear HB; have HO132 := n0_; have HO136 := n1_; have HB := n2_; clear n0_ n1_ n2_; (try clear hb); (try clear hb2); (try clear hk); (try clear hi); (try clear ho0)) | (go_at_call 17; (with_reducible refine (scan_Word.calls (t121 ++ (strOfNums y122)) t137 _ A47.out).mono ?_); rintro e w60 ⟨rfl, hb⟩; have n0_ := Aside0.mk (Kd.R_below (by (with_reducible repeat (first | apply Kd.R_alloc | apply Kd.R_drewN | apply Kd.R_drew)); exact HO132.out) hb); have n1_ := Aside0.mk (Kd.R_below (by (with_reducible repeat (first | apply Kd.R_alloc | apply Kd.R_drewN | apply Kd.R_drew)); exact HO136.out) hb); have n2_ := Aside0.mk (below_step (by repeat (first | (with_reducible first | exact HB.out | apply below_alloc | apply pw_below_drewN | apply below_drew1) | exact HB.out)) hb); clear HO132; clear HO136; clear HB; have HO132 := n0_; have HO136 := n1_; have HB := n2_; clear n0_ n1_ n2_; (try clear hb); (try clear hb2); (try clear hk); (try clear hi); obtain ⟨Ao61, co61, eo61⟩ := Kd.R_slice HO132.out; subst eo61; have p138 : 0 ≤ (0 : Int) := (by omega); have q138 : 0 < (t128.length : Int) := of_decide_eq_true (by first | (with_reducible assumption) | assumption); obtain ⟨ad138, e138, hx138_0, hx138_1, hx138_2, hx138_3⟩ := at_T28 (Kd.R_reads' HO132.out).2.2 0 p138 q138; cases e138; have qi138 : (0 < t128.length) = True := eq_true (by omega); (try rw [show ((0 : Int)).toNat = 0 from rfl] at hx138_0); (try rw [show 0 * 4 = 0 from rfl] at hx138_0); (try rw [Addr.add_zero'] at hx138_0); (try rw [show ((0 : Int)).toNat = 0 from rfl] at hx138_1); (try rw [show 0 * 4 = 0 from rfl] at hx138_1); (try rw [Addr.add_zero'] at hx138_1); (try rw [show ((0 : Int)).toNat = 0 from rfl] at hx138_2); (try rw [show 0 * 4 = 0 from rfl] at hx138_2); (try rw [Addr.add_zero'] at hx138_2); (try rw [show ((0 : Int)).toNat = 0 from rfl] at hx138_3); (try rw [show 0 * 4 = 0 from rfl] at hx138_3); (try rw [Addr.add_zero'] at hx138_3); replace p138 := eq_true p138; replace q138 := eq_true q138; obtain ⟨Ao62, co62, eo62⟩ := Kd.R_slice HO136.out; subst eo62; have p139 : 0 ≤ (0 : Int) := (by omega); have q139 : 0 < (t133.length : Int) := of_decide_eq_true (by first | (with_reducible assumption) | assumption); obtain ⟨ad139, e139, hx139_0, hx139_1, hx139_2, hx139_3⟩ := at_T28 (Kd.R_reads' HO136.out).2.2 0 p139 q139; cases e139; have qi139 : (0 < t133.length) = True := eq_true (by omega); (try rw [show ((0 : Int)).toNat = 0 from rfl] at hx139_0); (try rw [show 0 * 4 = 0 from rfl] at hx139_0); (try rw [Addr.add_zero'] at hx139_0); (try rw [show ((0 : Int)).toNat = 0 from rfl] at hx139_1); (try rw [show 0 * 4 = 0 from rfl] at hx139_1); (try rw [Addr.add_zero'] at hx139_1); (try rw [show ((0 : Int)).toNat = 0 from rfl] at hx139_2); (try rw [show 0 * 4 = 0 from rfl] at hx139_2); (try rw [Addr.add_zero'] at hx139_2); (try rw [show ((0 : Int)).toNat = 0 from rfl] at hx139_3); (try rw [show 0 * 4 = 0 from rfl] at hx139_3); (try rw [Addr.add_zero'] at hx139_3); replace p139 := eq_true p139; replace q139 := eq_true q139))
                                go_ret
                                exact ⟨by first | rfl | (simp [errW_none, errW_some] <;> rfl) | (simp [*, errW_none, errW_some] <;> rfl), by repeat (first | (with_reducible first | exact HB.out | apply below_alloc | apply pw_below_drewN | apply below_drew1) | exact HB.out)⟩
                              · replace c57 := Bool.eq_false_iff.mpr c57
                                subst c57
                                have H1 : (some (((rd_T28 t133 0).f2).toList == t121.toList)) = some r := by rw [if_neg (show ¬ (false = true) by decide)] at H; exact H
                                clear H
                                have H := H1
                                clear H1
                                obtain rfl := Option.some.inj H
                                go_wp2_with (first | ((with_reducible refine gate_callee (f := 13) rfl ?_); refine goesL_ (some 68) rfl rfl Try.func13 (by kernel_rfl) rfl #[.string t121] rfl (by (try simp only [List.map_toArray, List.map_cons, List.map_nil]); first | done | rfl | (simp only [List.length_drop, List.length_take]; rfl)) ?_; (with_reducible refine (scan_Lex.calls t121 t128 t129 t130 _ A44.out).mono ?_); rintro e w63 ⟨v131, rfl, ho0, hb⟩; refine ⟨_, rfl, ?_⟩; have n0_ := Aside0.mk (Kd.R_lower ho0 (below_size (by repeat (first | (with_reducible first | exact HB.out | apply below_alloc | apply pw_below_drewN | apply below_drew1) | exact HB.out)))); have n1_ := Aside0.mk (below_step (by repeat (first | (with_reducible first | exact HB.out | apply below_alloc | apply pw_below_drewN | apply below_drew1) | exact HB.out)) hb); clear HB; have HO132 := n0_; have HB := n1_; clear n0_ n1_; (try clear hb); (try clear hb2); (try clear hk); (try clear hi); (try clear ho0)) | ((with_reducible refine gate_callee (f := 10) rfl ?_); refine goesL_ (some 74) rfl rfl Try.func10 (by kernel_rfl) rfl #[.string (t121 ++ (strOfNums y122))] rfl (by (try simp only [List.map_toArray, List.map_cons, List.map_nil]); first | done | rfl | (simp only [List.length_drop, List.length_take]; rfl)) ?_; (with_reducible refine (cadencylaw03_each.calls (t121 ++ (strOfNums y122)) t133 true _ A45.out).mono ?_); rintro e w64 ⟨v135, rfl, ho0, hb⟩; refine ⟨_, rfl, ?_⟩; have n0_ := Aside0.mk (Kd.R_elder' (by (with_reducible repeat (first | apply Kd.R_alloc | apply Kd.R_drewN | apply Kd.R_drew)); exact HO132.out) (Kd.R_base ho0) hb); have n1_ := Aside0.mk (Kd.R_lower (Kd.R_new' ho0 (Kd.R_lt (by (with_reducible repeat (first | apply Kd.R_alloc | apply Kd.R_drewN | apply Kd.R_drew)); exact HO132.out))) (below_size (by repeat (first | (with_reducible first | exact HB.out | apply below_alloc | apply pw_below_drewN | apply below_drew1) | exact HB.out)))); have n2_ := Aside0.mk (below_step (by repeat (first | (with_reducible first | exact HB.out | apply below_alloc | apply pw_below_drewN | apply below_drew1) | exact HB.out)) hb); clear HO132; clear HB; have HO132 := n0_; have HO136 := n1_; have HB := n2_; clear n0_ n1_ n2_; (try clear hb); (try clear hb2); (try clear hk); (try clear hi); (try clear ho0)) | (go_at_call 17; (with_reducible refine (scan_Word.calls (t121 ++ (strOfNums y122)) t137 _ A47.out).mono ?_); rintro e w65 ⟨rfl, hb⟩; have n0_ := Aside0.mk (Kd.R_below (by (with_reducible repeat (first | apply Kd.R_alloc | apply Kd.R_drewN | apply Kd.R_drew)); exact HO132.out) hb); have n1_ := Aside0.mk (Kd.R_below (by (with_reducible repeat (first | apply Kd.R_alloc | apply Kd.R_drewN | apply Kd.R_drew)); exact HO136.out) hb); have n2_ := Aside0.mk (below_step (by repeat (first | (with_reducible first | exact HB.out | apply below_alloc | apply pw_below_drewN | apply below_drew1) | exact HB.out)) hb); clear HO132; clear HO136; clear HB; have HO132 := n0_; have HO136 := n1_; have HB := n2_; clear n0_ n1_ n2_; (try clear hb); (try clear hb2); (try clear hk); (try clear hi); obtain ⟨Ao66, co66, eo66⟩ := Kd.R_slice HO132.out; subst eo66; have p138 : 0 ≤ (0 : Int) := (by omega); have q138 : 0 < (t128.length : Int) := of_decide_eq_true (by first | (with_reducible assumption) | assumption); obtain ⟨ad138, e138, hx138_0, hx138_1, hx138_2, hx138_3⟩ := at_T28 (Kd.R_reads' HO132.out).2.2 0 p138 q138; cases e138; have qi138 : (0 < t128.length) = True := eq_true (by omega); (try rw [show ((0 : Int)).toNat = 0 from rfl] at hx138_0); (try rw [show 0 * 4 = 0 from rfl] at hx138_0); (try rw [Addr.add_zero'] at hx138_0); (try rw [show ((0 : Int)).toNat = 0 from rfl] at hx138_1); (try rw [show 0 * 4 = 0 from rfl] at hx138_1); (try rw [Addr.add_zero'] at hx138_1); (try rw [show ((0 : Int)).toNat = 0 from rfl] at hx138_2); (try rw [show 0 * 4 = 0 from rfl] at hx138_2); (try rw [Addr.add_zero'] at hx138_2); (try rw [show ((0 : Int)).toNat = 0 from rfl] at hx138_3); (try rw [show 0 * 4 = 0 from rfl] at hx138_3); (try rw [Addr.add_zero'] at hx138_3); replace p138 := eq_true p138; replace q138 := eq_true q138; obtain ⟨Ao67, co67, eo67⟩ := Kd.R_slice HO136.out; subst eo67; have p139 : 0 ≤ (0 : Int) := (by omega); have q139 : 0 < (t133.length : Int) := of_decide_eq_true (by first | (with_reducible assumption) | assumption); obtain ⟨ad139, e139, hx139_0, hx139_1, hx139_2, hx139_3⟩ := at_T28 (Kd.R_reads' HO136.out).2.2 0 p139 q139; cases e139; have qi139 : (0 < t133.length) = True := eq_true (by omega); (try rw [show ((0 : Int)).toNat = 0 from rfl] at hx139_0); (try rw [show 0 * 4 = 0 from rfl] at hx139_0); (try rw [Addr.add_zero'] at hx139_0); (try rw [show ((0 : Int)).toNat = 0 from rfl] at hx139_1); (try rw [show 0 * 4 = 0 from rfl] at hx139_1); (try rw [Addr.add_zero'] at hx139_1); (try rw [show ((0 : Int)).toNat = 0 from rfl] at hx139_2); (try rw [show 0 * 4 = 0 from rfl] at hx139_2); (try rw [Addr.add_zero'] at hx139_2); (try rw [show ((0 : Int)).toNat = 0 from rfl] at hx139_3); (try rw [show 0 * 4 = 0 from rfl] at hx139_3); (try rw [Addr.add_zero'] at hx139_3); replace p139 := eq_true p139; replace q139 := eq_true q139; have p140 : 0 ≤ (0 : Int) := (by omega); have q140 : 0 < (t133.length : Int) := of_decide_eq_true (by first | (with_reducible assumption) | assumption); obtain ⟨ad140, e140, hx140_0, hx140_1, hx140_2, hx140_3⟩ := at_T28 (Kd.R_reads' HO136.out).2.2 0 p140 q140; obtain rfl : ad139 = ad140 := (by injection e140); have qi140 : (0 < t133.length) = True := eq_true (by omega); (try rw [show ((0 : Int)).toNat = 0 from rfl] at hx140_0); (try rw [show 0 * 4 = 0 from rfl] at hx140_0); (try rw [Addr.add_zero'] at hx140_0); (try rw [show ((0 : Int)).toNat = 0 from rfl] at hx140_1); (try rw [show 0 * 4 = 0 from rfl] at hx140_1); (try rw [Addr.add_zero'] at hx140_1); (try rw [show ((0 : Int)).toNat = 0 from rfl] at hx140_2); (try rw [show 0 * 4 = 0 from rfl] at hx140_2); (try rw [Addr.add_zero'] at hx140_2); (try rw [show ((0 : Int)).toNat = 0 from rfl] at hx140_3); (try rw [show 0 * 4 = 0 from rfl] at hx140_3); (try rw [Addr.add_zero'] at hx140_3); replace p140 := eq_true p140; replace q140 := eq_true q140))
                                go_ret
                                exact ⟨by first | rfl | (simp [errW_none, errW_some] <;> rfl) | (simp [*, errW_none, errW_some] <;> rfl), by repeat (first | (with_reducible first | exact HB.out | apply below_alloc | apply pw_below_drewN | apply below_drew1) | exact HB.out)⟩
                            · rw [if_neg c56] at H
                              have c56b0 : ((((rd_T28 t133 0).f2).toList == (t121 ++ (strOfNums y122)).toList) == x7_7) = false := by simpa using c56
                              (try (have c56b1 : decide ((((rd_T28 t133 0).f2).toList == (t121 ++ (strOfNums y122)).toList) = x7_7) = false := by simpa using c56))
                              (try (have c56b2 : ((((rd_T28 t133 0).f2).toList == (t121 ++ (strOfNums y122)).toList) == x7_7) = false := by simpa using c56))
                              (try (have c56b3 : ¬ ((((rd_T28 t133 0).f2).toList == (t121 ++ (strOfNums y122)).toList) = x7_7) := by simpa using c56))
                              clear c56
                              obtain rfl := Option.some.inj H
                              go_wp2_with (first | ((with_reducible refine gate_callee (f := 13) rfl ?_); refine goesL_ (some 68) rfl rfl Try.func13 (by kernel_rfl) rfl #[.string t121] rfl (by (try simp only [List.map_toArray, List.map_cons, List.map_nil]); first | done | rfl | (simp only [List.length_drop, List.length_take]; rfl)) ?_; (with_reducible refine (scan_Lex.calls t121 t128 t129 t130 _ A44.out).mono ?_); rintro e w68 ⟨v131, rfl, ho0, hb⟩; refine ⟨_, rfl, ?_⟩; have n0_ := Aside0.mk (Kd.R_lower ho0 (below_size (by repeat (first | (with_reducible first | exact HB.out | apply below_alloc | apply pw_below_drewN | apply below_drew1) | exact HB.out)))); have n1_ := Aside0.mk (below_step (by repeat (first | (with_reducible first | exact HB.out | apply below_alloc | apply pw_below_drewN | apply below_drew1) | exact HB.out)) hb); clear HB; have HO132 := n0_; have HB := n1_; clear n0_ n1_; (try clear hb); (try clear hb2); (try clear hk); (try clear hi); (try clear ho0)) | ((with_reducible refine gate_callee (f := 10) rfl ?_); refine goesL_ (some 74) rfl rfl Try.func10 (by kernel_rfl) rfl #[.string (t121 ++ (strOfNums y122))] rfl (by (try simp only [List.map_toArray, List.map_cons, List.map_nil]); first | done | rfl | (simp only [List.length_drop, List.length_take]; rfl)) ?_; (with_reducible refine (cadencylaw03_each.calls (t121 ++ (strOfNums y122)) t133 true _ A45.out).mono ?_); rintro e w69 ⟨v135, rfl, ho0, hb⟩; refine ⟨_, rfl, ?_⟩; have n0_ := Aside0.mk (Kd.R_elder' (by (with_reducible repeat (first | apply Kd.R_alloc | apply Kd.R_drewN | apply Kd.R_drew)); exact HO132.out) (Kd.R_base ho0) hb); have n1_ := Aside0.mk (Kd.R_lower (Kd.R_new' ho0 (Kd.R_lt (by (with_reducible repeat (first | apply Kd.R_alloc | apply Kd.R_drewN | apply Kd.R_drew)); exact HO132.out))) (below_size (by repeat (first | (with_reducible first | exact HB.out | apply below_alloc | apply pw_below_drewN | apply below_drew1) | exact HB.out)))); have n2_ := Aside0.mk (below_step (by repeat (first | (with_reducible first | exact HB.out | apply below_alloc | apply pw_below_drewN | apply below_drew1) | exact HB.out)) hb); clear HO132; clear HB; have HO132 := n0_; have HO136 := n1_; have HB := n2_; clear n0_ n1_ n2_; (try clear hb); (try clear hb2); (try clear hk); (try clear hi); (try clear ho0)) | (go_at_call 17; (with_reducible refine (scan_Word.calls (t121 ++ (strOfNums y122)) t137 _ A47.out).mono ?_); rintro e w70 ⟨rfl, hb⟩; have n0_ := Aside0.mk (Kd.R_below (by (with_reducible repeat (first | apply Kd.R_alloc | apply Kd.R_drewN | apply Kd.R_drew)); exact HO132.out) hb); have n1_ := Aside0.mk (Kd.R_below (by (with_reducible repeat (first | apply Kd.R_alloc | apply Kd.R_drewN | apply Kd.R_drew)); exact HO136.out) hb); have n2_ := Aside0.mk (below_step (by repeat (first | (with_reducible first | exact HB.out | apply below_alloc | apply pw_below_drewN | apply below_drew1) | exact HB.out)) hb); clear HO132; clear HO136; clear HB; have HO132 := n0_; have HO136 := n1_; have HB := n2_; clear n0_ n1_ n2_; (try clear hb); (try clear hb2); (try clear hk); (try clear hi); obtain ⟨Ao71, co71, eo71⟩ := Kd.R_slice HO132.out; subst eo71; have p138 : 0 ≤ (0 : Int) := (by omega); have q138 : 0 < (t128.length : Int) := of_decide_eq_true (by first | (with_reducible assumption) | assumption); obtain ⟨ad138, e138, hx138_0, hx138_1, hx138_2, hx138_3⟩ := at_T28 (Kd.R_reads' HO132.out).2.2 0 p138 q138; cases e138; have qi138 : (0 < t128.length) = True := eq_true (by omega); (try rw [show ((0 : Int)).toNat = 0 from rfl] at hx138_0); (try rw [show 0 * 4 = 0 from rfl] at hx138_0); (try rw [Addr.add_zero'] at hx138_0); (try rw [show ((0 : Int)).toNat = 0 from rfl] at hx138_1); (try rw [show 0 * 4 = 0 from rfl] at hx138_1); (try rw [Addr.add_zero'] at hx138_1); (try rw [show ((0 : Int)).toNat = 0 from rfl] at hx138_2); (try rw [show 0 * 4 = 0 from rfl] at hx138_2); (try rw [Addr.add_zero'] at hx138_2); (try rw [show ((0 : Int)).toNat = 0 from rfl] at hx138_3); (try rw [show 0 * 4 = 0 from rfl] at hx138_3); (try rw [Addr.add_zero'] at hx138_3); replace p138 := eq_true p138; replace q138 := eq_true q138; obtain ⟨Ao72, co72, eo72⟩ := Kd.R_slice HO136.out; subst eo72; have p139 : 0 ≤ (0 : Int) := (by omega); have q139 : 0 < (t133.length : Int) := of_decide_eq_true (by first | (with_reducible assumption) | assumption); obtain ⟨ad139, e139, hx139_0, hx139_1, hx139_2, hx139_3⟩ := at_T28 (Kd.R_reads' HO136.out).2.2 0 p139 q139; cases e139; have qi139 : (0 < t133.length) = True := eq_true (by omega); (try rw [show ((0 : Int)).toNat = 0 from rfl] at hx139_0); (try rw [show 0 * 4 = 0 from rfl] at hx139_0); (try rw [Addr.add_zero'] at hx139_0); (try rw [show ((0 : Int)).toNat = 0 from rfl] at hx139_1); (try rw [show 0 * 4 = 0 from rfl] at hx139_1); (try rw [Addr.add_zero'] at hx139_1); (try rw [show ((0 : Int)).toNat = 0 from rfl] at hx139_2); (try rw [show 0 * 4 = 0 from rfl] at hx139_2); (try rw [Addr.add_zero'] at hx139_2); (try rw [show ((0 : Int)).toNat = 0 from rfl] at hx139_3); (try rw [show 0 * 4 = 0 from rfl] at hx139_3); (try rw [Addr.add_zero'] at hx139_3); replace p139 := eq_true p139; replace q139 := eq_true q139))
                              go_ret
                              exact ⟨by first | rfl | (simp [errW_none, errW_some] <;> rfl) | (simp [*, errW_none, errW_some] <;> rfl), by repeat (first | (with_reducible first | exact HB.out | apply below_alloc | apply pw_below_drewN | apply below_drew1) | exact HB.out)⟩
                          · rw [if_neg c55] at H
                            exact absurd H (by simp)
                        · rw [if_neg c54] at H
                          have c54b0 : decide (1 ≤ (t133.length : Int)) = false := decide_eq_false c54
                          have c54b1 : decide (1 ≤ t133.length) = false := decide_eq_false (by omega)
                          clear c54
                          obtain rfl := Option.some.inj H
                          go_wp2_with (first | ((with_reducible refine gate_callee (f := 13) rfl ?_); refine goesL_ (some 68) rfl rfl Try.func13 (by kernel_rfl) rfl #[.string t121] rfl (by (try simp only [List.map_toArray, List.map_cons, List.map_nil]); first | done | rfl | (simp only [List.length_drop, List.length_take]; rfl)) ?_; (with_reducible refine (scan_Lex.calls t121 t128 t129 t130 _ A44.out).mono ?_); rintro e w73 ⟨v131, rfl, ho0, hb⟩; refine ⟨_, rfl, ?_⟩; have n0_ := Aside0.mk (Kd.R_lower ho0 (below_size (by repeat (first | (with_reducible first | exact HB.out | apply below_alloc | apply pw_below_drewN | apply below_drew1) | exact HB.out)))); have n1_ := Aside0.mk (below_step (by repeat (first | (with_reducible first | exact HB.out | apply below_alloc | apply pw_below_drewN | apply below_drew1) | exact HB.out)) hb); clear HB; have HO132 := n0_; have HB := n1_; clear n0_ n1_; (try clear hb); (try clear hb2); (try clear hk); (try clear hi); (try clear ho0)) | ((with_reducible refine gate_callee (f := 10) rfl ?_); refine goesL_ (some 74) rfl rfl Try.func10 (by kernel_rfl) rfl #[.string (t121 ++ (strOfNums y122))] rfl (by (try simp only [List.map_toArray, List.map_cons, List.map_nil]); first | done | rfl | (simp only [List.length_drop, List.length_take]; rfl)) ?_; (with_reducible refine (cadencylaw03_each.calls (t121 ++ (strOfNums y122)) t133 true _ A45.out).mono ?_); rintro e w74 ⟨v135, rfl, ho0, hb⟩; refine ⟨_, rfl, ?_⟩; have n0_ := Aside0.mk (Kd.R_elder' (by (with_reducible repeat (first | apply Kd.R_alloc | apply Kd.R_drewN | apply Kd.R_drew)); exact HO132.out) (Kd.R_base ho0) hb); have n1_ := Aside0.mk (Kd.R_lower (Kd.R_new' ho0 (Kd.R_lt (by (with_reducible repeat (first | apply Kd.R_alloc | apply Kd.R_drewN | apply Kd.R_drew)); exact HO132.out))) (below_size (by repeat (first | (with_reducible first | exact HB.out | apply below_alloc | apply pw_below_drewN | apply below_drew1) | exact HB.out)))); have n2_ := Aside0.mk (below_step (by repeat (first | (with_reducible first | exact HB.out | apply below_alloc | apply pw_below_drewN | apply below_drew1) | exact HB.out)) hb); clear HO132; clear HB; have HO132 := n0_; have HO136 := n1_; have HB := n2_; clear n0_ n1_ n2_; (try clear hb); (try clear hb2); (try clear hk); (try clear hi); (try clear ho0)) | (go_at_call 17; (with_reducible refine (scan_Word.calls (t121 ++ (strOfNums y122)) t137 _ A47.out).mono ?_); rintro e w75 ⟨rfl, hb⟩; have n0_ := Aside0.mk (Kd.R_below (by (with_reducible repeat (first | apply Kd.R_alloc | apply Kd.R_drewN | apply Kd.R_drew)); exact HO132.out) hb); have n1_ := Aside0.mk (Kd.R_below (by (with_reducible repeat (first | apply Kd.R_alloc | apply Kd.R_drewN | apply Kd.R_drew)); exact HO136.out) hb); have n2_ := Aside0.mk (below_step (by repeat (first | (with_reducible first | exact HB.out | apply below_alloc | apply pw_below_drewN | apply below_drew1) | exact HB.out)) hb); clear HO132; clear HO136; clear HB; have HO132 := n0_; have HO136 := n1_; have HB := n2_; clear n0_ n1_ n2_; (try clear hb); (try clear hb2); (try clear hk); (try clear hi); obtain ⟨Ao76, co76, eo76⟩ := Kd.R_slice HO132.out; subst eo76; have p138 : 0 ≤ (0 : Int) := (by omega); have q138 : 0 < (t128.length : Int) := of_decide_eq_true (by first | (with_reducible assumption) | assumption); obtain ⟨ad138, e138, hx138_0, hx138_1, hx138_2, hx138_3⟩ := at_T28 (Kd.R_reads' HO132.out).2.2 0 p138 q138; cases e138; have qi138 : (0 < t128.length) = True := eq_true (by omega); (try rw [show ((0 : Int)).toNat = 0 from rfl] at hx138_0); (try rw [show 0 * 4 = 0 from rfl] at hx138_0); (try rw [Addr.add_zero'] at hx138_0); (try rw [show ((0 : Int)).toNat = 0 from rfl] at hx138_1); (try rw [show 0 * 4 = 0 from rfl] at hx138_1); (try rw [Addr.add_zero'] at hx138_1); (try rw [show ((0 : Int)).toNat = 0 from rfl] at hx138_2); (try rw [show 0 * 4 = 0 from rfl] at hx138_2); (try rw [Addr.add_zero'] at hx138_2); (try rw [show ((0 : Int)).toNat = 0 from rfl] at hx138_3); (try rw [show 0 * 4 = 0 from rfl] at hx138_3); (try rw [Addr.add_zero'] at hx138_3); replace p138 := eq_true p138; replace q138 := eq_true q138; obtain ⟨Ao77, co77, eo77⟩ := Kd.R_slice HO136.out; subst eo77))
                          go_ret
                          exact ⟨by first | rfl | (simp [errW_none, errW_some] <;> rfl) | (simp [*, errW_none, errW_some] <;> rfl), by repeat (first | (with_reducible first | exact HB.out | apply below_alloc | apply pw_below_drewN | apply below_drew1) | exact HB.out)⟩
                      · replace c53 := Bool.eq_false_iff.mpr c53
                        subst c53
                        have H1 : (some false) = some r := by rw [if_neg (show ¬ (false = true) by decide)] at H; exact H
                        clear H
                        have H := H1
                        clear H1
                        obtain rfl := Option.some.inj H
                        go_wp2_with (first | ((with_reducible refine gate_callee (f := 13) rfl ?_); refine goesL_ (some 68) rfl rfl Try.func13 (by kernel_rfl) rfl #[.string t121] rfl (by (try simp only [List.map_toArray, List.map_cons, List.map_nil]); first | done | rfl | (simp only [List.length_drop, List.length_take]; rfl)) ?_; (with_reducible refine (scan_Lex.calls t121 t128 t129 t130 _ A44.out).mono ?_); rintro e w78 ⟨v131, rfl, ho0, hb⟩; refine ⟨_, rfl, ?_⟩; have n0_ := Aside0.mk (Kd.R_lower ho0 (below_size (by repeat (first | (with_reducible first | exact HB.out | apply below_alloc | apply pw_below_drewN | apply below_drew1) | exact HB.out)))); have n1_ := Aside0.mk (below_step (by repeat (first | (with_reducible first | exact HB.out | apply below_alloc | apply pw_below_drewN | apply below_drew1) | exact HB.out)) hb); clear HB; have HO132 := n0_; have HB := n1_; clear n0_ n1_; (try clear hb); (try clear hb2); (try clear hk); (try clear hi); (try clear ho0)) | ((with_reducible refine gate_callee (f := 10) rfl ?_); refine goesL_ (some 74) rfl rfl Try.func10 (by kernel_rfl) rfl #[.string (t121 ++ (strOfNums y122))] rfl (by (try simp only [List.map_toArray, List.map_cons, List.map_nil]); first | done | rfl | (simp only [List.length_drop, List.length_take]; rfl)) ?_; (with_reducible refine (cadencylaw03_each.calls (t121 ++ (strOfNums y122)) t133 false _ A45.out).mono ?_); rintro e w79 ⟨v135, rfl, ho0, hb⟩; refine ⟨_, rfl, ?_⟩; have n0_ := Aside0.mk (Kd.R_elder' (by (with_reducible repeat (first | apply Kd.R_alloc | apply Kd.R_drewN | apply Kd.R_drew)); exact HO132.out) (Kd.R_base ho0) hb); have n1_ := Aside0.mk (Kd.R_lower (Kd.R_new' ho0 (Kd.R_lt (by (with_reducible repeat (first | apply Kd.R_alloc | apply Kd.R_drewN | apply Kd.R_drew)); exact HO132.out))) (below_size (by repeat (first | (with_reducible first | exact HB.out | apply below_alloc | apply pw_below_drewN | apply below_drew1) | exact HB.out)))); have n2_ := Aside0.mk (below_step (by repeat (first | (with_reducible first | exact HB.out | apply below_alloc | apply pw_below_drewN | apply below_drew1) | exact HB.out)) hb); clear HO132; clear HB; have HO132 := n0_; have HO136 := n1_; have HB := n2_; clear n0_ n1_ n2_; (try clear hb); (try clear hb2); (try clear hk); (try clear hi); (try clear ho0)) | (go_at_call 17; (with_reducible refine (scan_Word.calls (t121 ++ (strOfNums y122)) t137 _ A47.out).mono ?_); rintro e w80 ⟨rfl, hb⟩; have n0_ := Aside0.mk (Kd.R_below (by (with_reducible repeat (first | apply Kd.R_alloc | apply Kd.R_drewN | apply Kd.R_drew)); exact HO132.out) hb); have n1_ := Aside0.mk (Kd.R_below (by (with_reducible repeat (first | apply Kd.R_alloc | apply Kd.R_drewN | apply Kd.R_drew)); exact HO136.out) hb); have n2_ := Aside0.mk (below_step (by repeat (first | (with_reducible first | exact HB.out | apply below_alloc | apply pw_below_drewN | apply below_drew1) | exact HB.out)) hb); clear HO132; clear HO136; clear HB; have HO132 := n0_; have HO136 := n1_; have HB := n2_; clear n0_ n1_ n2_; (try clear hb); (try clear hb2); (try clear hk); (try clear hi); obtain ⟨Ao81, co81, eo81⟩ := Kd.R_slice HO132.out; subst eo81; have p138 : 0 ≤ (0 : Int) := (by omega); have q138 : 0 < (t128.length : Int) := of_decide_eq_true (by first | (with_reducible assumption) | assumption); obtain ⟨ad138, e138, hx138_0, hx138_1, hx138_2, hx138_3⟩ := at_T28 (Kd.R_reads' HO132.out).2.2 0 p138 q138; cases e138; have qi138 : (0 < t128.length) = True := eq_true (by omega); (try rw [show ((0 : Int)).toNat = 0 from rfl] at hx138_0); (try rw [show 0 * 4 = 0 from rfl] at hx138_0); (try rw [Addr.add_zero'] at hx138_0); (try rw [show ((0 : Int)).toNat = 0 from rfl] at hx138_1); (try rw [show 0 * 4 = 0 from rfl] at hx138_1); (try rw [Addr.add_zero'] at hx138_1); (try rw [show ((0 : Int)).toNat = 0 from rfl] at hx138_2); (try rw [show 0 * 4 = 0 from rfl] at hx138_2); (try rw [Addr.add_zero'] at hx138_2); (try rw [show ((0 : Int)).toNat = 0 from rfl] at hx138_3); (try rw [show 0 * 4 = 0 from rfl] at hx138_3); (try rw [Addr.add_zero'] at hx138_3); replace p138 := eq_true p138; replace q138 := eq_true q138))
                        go_ret
                        exact ⟨by first | rfl | (simp [errW_none, errW_some] <;> rfl) | (simp [*, errW_none, errW_some] <;> rfl), by repeat (first | (with_reducible first | exact HB.out | apply below_alloc | apply pw_below_drewN | apply below_drew1) | exact HB.out)⟩
                    · rw [if_neg c52] at H
                      have c52b0 : (((rd_T28 t128 0).f2).toList == t121.toList) = false := beq_eq_false_iff_ne.mpr c52
                      have c52b1 : (((rd_T28 t128 0).f2).toList != t121.toList) = true := bne_iff_ne.mpr c52
                      obtain rfl := Option.some.inj H
                      go_wp2_with (first | ((with_reducible refine gate_callee (f := 13) rfl ?_); refine goesL_ (some 68) rfl rfl Try.func13 (by kernel_rfl) rfl #[.string t121] rfl (by (try simp only [List.map_toArray, List.map_cons, List.map_nil]); first | done | rfl | (simp only [List.length_drop, List.length_take]; rfl)) ?_; (with_reducible refine (scan_Lex.calls t121 t128 t129 t130 _ A44.out).mono ?_); rintro e w82 ⟨v131, rfl, ho0, hb⟩; refine ⟨_, rfl, ?_⟩; have n0_ := Aside0.mk (Kd.R_lower ho0 (below_size (by repeat (first | (with_reducible first | exact HB.out | apply below_alloc | apply pw_below_drewN | apply below_drew1) | exact HB.out)))); have n1_ := Aside0.mk (below_step (by repeat (first | (with_reducible first | exact HB.out | apply below_alloc | apply pw_below_drewN | apply below_drew1) | exact HB.out)) hb); clear HB; have HO132 := n0_; have HB := n1_; clear n0_ n1_; (try clear hb); (try clear hb2); (try clear hk); (try clear hi); (try clear ho0)) | ((with_reducible refine gate_callee (f := 10) rfl ?_); refine goesL_ (some 74) rfl rfl Try.func10 (by kernel_rfl) rfl #[.string (t121 ++ (strOfNums y122))] rfl (by (try simp only [List.map_toArray, List.map_cons, List.map_nil]); first | done | rfl | (simp only [List.length_drop, List.length_take]; rfl)) ?_; (with_reducible refine (cadencylaw03_each.calls (t121 ++ (strOfNums y122)) t133 t134 _ A45.out).mono ?_); rintro e w83 ⟨v135, rfl, ho0, hb⟩; refine ⟨_, rfl, ?_⟩; have n0_ := Aside0.mk (Kd.R_elder' (by (with_reducible repeat (first | apply Kd.R_alloc | apply Kd.R_drewN | apply Kd.R_drew)); exact HO132.out) (Kd.R_base ho0) hb); have n1_ := Aside0.mk (Kd.R_lower (Kd.R_new' ho0 (Kd.R_lt (by (with_reducible repeat (first | apply Kd.R_alloc | apply Kd.R_drewN | apply Kd.R_drew)); exact HO132.out))) (below_size (by repeat (first | (with_reducible first | exact HB.out | apply below_alloc | apply pw_below_drewN | apply below_drew1) | exact HB.out)))); have n2_ := Aside0.mk (below_step (by repeat (first | (with_reducible first | exact HB.out | apply below_alloc | apply pw_below_drewN | apply below_drew1) | exact HB.out)) hb); clear HO132; clear HB; have HO132 := n0_; have HO136 := n1_; have HB := n2_; clear n0_ n1_ n2_; (try clear hb); (try clear hb2); (try clear hk); (try clear hi); (try clear ho0)) | (go_at_call 17; (with_reducible refine (scan_Word.calls (t121 ++ (strOfNums y122)) t137 _ A47.out).mono ?_); rintro e w84 ⟨rfl, hb⟩; have n0_ := Aside0.mk (Kd.R_below (by (with_reducible repeat (first | apply Kd.R_alloc | apply Kd.R_drewN | apply Kd.R_drew)); exact HO132.out) hb); have n1_ := Aside0.mk (Kd.R_below (by (with_reducible repeat (first | apply Kd.R_alloc | apply Kd.R_drewN | apply Kd.R_drew)); exact HO136.out) hb); have n2_ := Aside0.mk (below_step (by repeat (first | (with_reducible first | exact HB.out | apply below_alloc | apply pw_below_drewN | apply below_drew1) | exact HB.out)) hb); clear HO132; clear HO136; clear HB; have HO132 := n0_; have HO136 := n1_; have HB := n2_; clear n0_ n1_ n2_; (try clear hb); (try clear hb2); (try clear hk); (try clear hi); obtain ⟨Ao85, co85, eo85⟩ := Kd.R_slice HO132.out; subst eo85; have p138 : 0 ≤ (0 : Int) := (by omega); have q138 : 0 < (t128.length : Int) := of_decide_eq_true (by first | (with_reducible assumption) | assumption); obtain ⟨ad138, e138, hx138_0, hx138_1, hx138_2, hx138_3⟩ := at_T28 (Kd.R_reads' HO132.out).2.2 0 p138 q138; cases e138; have qi138 : (0 < t128.length) = True := eq_true (by omega); (try rw [show ((0 : Int)).toNat = 0 from rfl] at hx138_0); (try rw [show 0 * 4 = 0 from rfl] at hx138_0); (try rw [Addr.add_zero'] at hx138_0); (try rw [show ((0 : Int)).toNat = 0 from rfl] at hx138_1); (try rw [show 0 * 4 = 0 from rfl] at hx138_1); (try rw [Addr.add_zero'] at hx138_1); (try rw [show ((0 : Int)).toNat = 0 from rfl] at hx138_2); (try rw [show 0 * 4 = 0 from rfl] at hx138_2); (try rw [Addr.add_zero'] at hx138_2); (try rw [show ((0 : Int)).toNat = 0 from rfl] at hx138_3); (try rw [show 0 * 4 = 0 from rfl] at hx138_3); (try rw [Addr.add_zero'] at hx138_3); replace p138 := eq_true p138; replace q138 := eq_true q138))
                      go_ret
                      exact ⟨by first | rfl | (simp [errW_none, errW_some] <;> rfl) | (simp [*, errW_none, errW_some] <;> rfl), by repeat (first | (with_reducible first | exact HB.out | apply below_alloc | apply pw_below_drewN | apply below_drew1) | exact HB.out)⟩
                  · rw [if_neg c51] at H
                    exact absurd H (by simp)
                · rw [if_neg c50] at H
                  have c50b0 : ((t128.length : Int) == 1) = false := beq_eq_false_iff_ne.mpr c50
                  have c50b1 : ((t128.length : Int) != 1) = true := bne_iff_ne.mpr c50
                  obtain rfl := Option.some.inj H
                  go_wp2_with (first | ((with_reducible refine gate_callee (f := 13) rfl ?_); refine goesL_ (some 68) rfl rfl Try.func13 (by kernel_rfl) rfl #[.string t121] rfl (by (try simp only [List.map_toArray, List.map_cons, List.map_nil]); first | done | rfl | (simp only [List.length_drop, List.length_take]; rfl)) ?_; (with_reducible refine (scan_Lex.calls t121 t128 t129 t130 _ A44.out).mono ?_); rintro e w86 ⟨v131, rfl, ho0, hb⟩; refine ⟨_, rfl, ?_⟩; have n0_ := Aside0.mk (Kd.R_lower ho0 (below_size (by repeat (first | (with_reducible first | exact HB.out | apply below_alloc | apply pw_below_drewN | apply below_drew1) | exact HB.out)))); have n1_ := Aside0.mk (below_step (by repeat (first | (with_reducible first | exact HB.out | apply below_alloc | apply pw_below_drewN | apply below_drew1) | exact HB.out)) hb); clear HB; have HO132 := n0_; have HB := n1_; clear n0_ n1_; (try clear hb); (try clear hb2); (try clear hk); (try clear hi); (try clear ho0)) | ((with_reducible refine gate_callee (f := 10) rfl ?_); refine goesL_ (some 74) rfl rfl Try.func10 (by kernel_rfl) rfl #[.string (t121 ++ (strOfNums y122))] rfl (by (try simp only [List.map_toArray, List.map_cons, List.map_nil]); first | done | rfl | (simp only [List.length_drop, List.length_take]; rfl)) ?_; (with_reducible refine (cadencylaw03_each.calls (t121 ++ (strOfNums y122)) t133 t134 _ A45.out).mono ?_); rintro e w87 ⟨v135, rfl, ho0, hb⟩; refine ⟨_, rfl, ?_⟩; have n0_ := Aside0.mk (Kd.R_elder' (by (with_reducible repeat (first | apply Kd.R_alloc | apply Kd.R_drewN | apply Kd.R_drew)); exact HO132.out) (Kd.R_base ho0) hb); have n1_ := Aside0.mk (Kd.R_lower (Kd.R_new' ho0 (Kd.R_lt (by (with_reducible repeat (first | apply Kd.R_alloc | apply Kd.R_drewN | apply Kd.R_drew)); exact HO132.out))) (below_size (by repeat (first | (with_reducible first | exact HB.out | apply below_alloc | apply pw_below_drewN | apply below_drew1) | exact HB.out)))); have n2_ := Aside0.mk (below_step (by repeat (first | (with_reducible first | exact HB.out | apply below_alloc | apply pw_below_drewN | apply below_drew1) | exact HB.out)) hb); clear HO132; clear HB; have HO132 := n0_; have HO136 := n1_; have HB := n2_; clear n0_ n1_ n2_; (try clear hb); (try clear hb2); (try clear hk); (try clear hi); (try clear ho0)) | (go_at_call 17; (with_reducible refine (scan_Word.calls (t121 ++ (strOfNums y122)) t137 _ A47.out).mono ?_); rintro e w88 ⟨rfl, hb⟩; have n0_ := Aside0.mk (Kd.R_below (by (with_reducible repeat (first | apply Kd.R_alloc | apply Kd.R_drewN | apply Kd.R_drew)); exact HO132.out) hb); have n1_ := Aside0.mk (Kd.R_below (by (with_reducible repeat (first | apply Kd.R_alloc | apply Kd.R_drewN | apply Kd.R_drew)); exact HO136.out) hb); have n2_ := Aside0.mk (below_step (by repeat (first | (with_reducible first | exact HB.out | apply below_alloc | apply pw_below_drewN | apply below_drew1) | exact HB.out)) hb); clear HO132; clear HO136; clear HB; have HO132 := n0_; have HO136 := n1_; have HB := n2_; clear n0_ n1_ n2_; (try clear hb); (try clear hb2); (try clear hk); (try clear hi); obtain ⟨Ao89, co89, eo89⟩ := Kd.R_slice HO132.out; subst eo89))
                  go_ret
                  exact ⟨by first | rfl | (simp [errW_none, errW_some] <;> rfl) | (simp [*, errW_none, errW_some] <;> rfl), by repeat (first | (with_reducible first | exact HB.out | apply below_alloc | apply pw_below_drewN | apply below_drew1) | exact HB.out)⟩
              · rw [if_neg c49] at H
                have c49b0 : (t130 == 0) = false := beq_eq_false_iff_ne.mpr c49
                have c49b1 : (t130 != 0) = true := bne_iff_ne.mpr c49
                obtain rfl := Option.some.inj H
                go_wp2_with (first | ((with_reducible refine gate_callee (f := 13) rfl ?_); refine goesL_ (some 68) rfl rfl Try.func13 (by kernel_rfl) rfl #[.string t121] rfl (by (try simp only [List.map_toArray, List.map_cons, List.map_nil]); first | done | rfl | (simp only [List.length_drop, List.length_take]; rfl)) ?_; (with_reducible refine (scan_Lex.calls t121 t128 t129 t130 _ A44.out).mono ?_); rintro e w90 ⟨v131, rfl, ho0, hb⟩; refine ⟨_, rfl, ?_⟩; have n0_ := Aside0.mk (Kd.R_lower ho0 (below_size (by repeat (first | (with_reducible first | exact HB.out | apply below_alloc | apply pw_below_drewN | apply below_drew1) | exact HB.out)))); have n1_ := Aside0.mk (below_step (by repeat (first | (with_reducible first | exact HB.out | apply below_alloc | apply pw_below_drewN | apply below_drew1) | exact HB.out)) hb); clear HB; have HO132 := n0_; have HB := n1_; clear n0_ n1_; (try clear hb); (try clear hb2); (try clear hk); (try clear hi); (try clear ho0)) | ((with_reducible refine gate_callee (f := 10) rfl ?_); refine goesL_ (some 74) rfl rfl Try.func10 (by kernel_rfl) rfl #[.string (t121 ++ (strOfNums y122))] rfl (by (try simp only [List.map_toArray, List.map_cons, List.map_nil]); first | done | rfl | (simp only [List.length_drop, List.length_take]; rfl)) ?_; (with_reducible refine (cadencylaw03_each.calls (t121 ++ (strOfNums y122)) t133 t134 _ A45.out).mono ?_); rintro e w91 ⟨v135, rfl, ho0, hb⟩; refine ⟨_, rfl, ?_⟩; have n0_ := Aside0.mk (Kd.R_elder' (by (with_reducible repeat (first | apply Kd.R_alloc | apply Kd.R_drewN | apply Kd.R_drew)); exact HO132.out) (Kd.R_base ho0) hb); have n1_ := Aside0.mk (Kd.R_lower (Kd.R_new' ho0 (Kd.R_lt (by (with_reducible repeat (first | apply Kd.R_alloc | apply Kd.R_drewN | apply Kd.R_drew)); exact HO132.out))) (below_size (by repeat (first | (with_reducible first | exact HB.out | apply below_alloc | apply pw_below_drewN | apply below_drew1) | exact HB.out)))); have n2_ := Aside0.mk (below_step (by repeat (first | (with_reducible first | exact HB.out | apply below_alloc | apply pw_below_drewN | apply below_drew1) | exact HB.out)) hb); clear HO132; clear HB; have HO132 := n0_; have HO136 := n1_; have HB := n2_; clear n0_ n1_ n2_; (try clear hb); (try clear hb2); (try clear hk); (try clear hi); (try clear ho0)) | (go_at_call 17; (with_reducible refine (scan_Word.calls (t121 ++ (strOfNums y122)) t137 _ A47.out).mono ?_); rintro e w92 ⟨rfl, hb⟩; have n0_ := Aside0.mk (Kd.R_below (by (with_reducible repeat (first | apply Kd.R_alloc | apply Kd.R_drewN | apply Kd.R_drew)); exact HO132.out) hb); have n1_ := Aside0.mk (Kd.R_below (by (with_reducible repeat (first | apply Kd.R_alloc | apply Kd.R_drewN | apply Kd.R_drew)); exact HO136.out) hb); have n2_ := Aside0.mk (below_step (by repeat (first | (with_reducible first | exact HB.out | apply below_alloc | apply pw_below_drewN | apply below_drew1) | exact HB.out)) hb); clear HO132; clear HO136; clear HB; have HO132 := n0_; have HO136 := n1_; have HB := n2_; clear n0_ n1_ n2_; (try clear hb); (try clear hb2); (try clear hk); (try clear hi)))
                go_ret
                exact ⟨by first | rfl | (simp [errW_none, errW_some] <;> rfl) | (simp [*, errW_none, errW_some] <;> rfl), by repeat (first | (with_reducible first | exact HB.out | apply below_alloc | apply pw_below_drewN | apply below_drew1) | exact HB.out)⟩
            · rw [if_neg c48] at H
              have c48b0 : (t137 == x7_7) = false := by simpa using c48
              (try (have c48b1 : decide (t137 = x7_7) = false := by simpa using c48))
              (try (have c48b2 : (t137 == x7_7) = false := by simpa using c48))
              (try (have c48b3 : ¬ (t137 = x7_7) := by simpa using c48))
              clear c48
              obtain rfl := Option.some.inj H
              go_wp2_with (first | ((with_reducible refine gate_callee (f := 13) rfl ?_); refine goesL_ (some 68) rfl rfl Try.func13 (by kernel_rfl) rfl #[.string t121] rfl (by (try simp only [List.map_toArray, List.map_cons, List.map_nil]); first | done | rfl | (simp only [List.length_drop, List.length_take]; rfl)) ?_; (with_reducible refine (scan_Lex.calls t121 t128 t129 t130 _ A44.out).mono ?_); rintro e w93 ⟨v131, rfl, ho0, hb⟩; refine ⟨_, rfl, ?_⟩; have n0_ := Aside0.mk (Kd.R_lower ho0 (below_size (by repeat (first | (with_reducible first | exact HB.out | apply below_alloc | apply pw_below_drewN | apply below_drew1) | exact HB.out)))); have n1_ := Aside0.mk (below_step (by repeat (first | (with_reducible first | exact HB.out | apply below_alloc | apply pw_below_drewN | apply below_drew1) | exact HB.out)) hb); clear HB; have HO132 := n0_; have HB := n1_; clear n0_ n1_; (try clear hb); (try clear hb2); (try clear hk); (try clear hi); (try clear ho0)) | ((with_reducible refine gate_callee (f := 10) rfl ?_); refine goesL_ (some 74) rfl rfl Try.func10 (by kernel_rfl) rfl #[.string (t121 ++ (strOfNums y122))] rfl (by (try simp only [List.map_toArray, List.map_cons, List.map_nil]); first | done | rfl | (simp only [List.length_drop, List.length_take]; rfl)) ?_; (with_reducible refine (cadencylaw03_each.calls (t121 ++ (strOfNums y122)) t133 t134 _ A45.out).mono ?_); rintro e w94 ⟨v135, rfl, ho0, hb⟩; refine ⟨_, rfl, ?_⟩; have n0_ := Aside0.mk (Kd.R_elder' (by (with_reducible repeat (first | apply Kd.R_alloc | apply Kd.R_drewN | apply Kd.R_drew)); exact HO132.out) (Kd.R_base ho0) hb); have n1_ := Aside0.mk (Kd.R_lower (Kd.R_new' ho0 (Kd.R_lt (by (with_reducible repeat (first | apply Kd.R_alloc | apply Kd.R_drewN | apply Kd.R_drew)); exact HO132.out))) (below_size (by repeat (first | (with_reducible first | exact HB.out | apply below_alloc | apply pw_below_drewN | apply below_drew1) | exact HB.out)))); have n2_ := Aside0.mk (below_step (by repeat (first | (with_reducible first | exact HB.out | apply below_alloc | apply pw_below_drewN | apply below_drew1) | exact HB.out)) hb); clear HO132; clear HB; have HO132 := n0_; have HO136 := n1_; have HB := n2_; clear n0_ n1_ n2_; (try clear hb); (try clear hb2); (try clear hk); (try clear hi); (try clear ho0)) | (go_at_call 17; (with_reducible refine (scan_Word.calls (t121 ++ (strOfNums y122)) t137 _ A47.out).mono ?_); rintro e w95 ⟨rfl, hb⟩; have n0_ := Aside0.mk (Kd.R_below (by (with_reducible repeat (first | apply Kd.R_alloc | apply Kd.R_drewN | apply Kd.R_drew)); exact HO132.out) hb); have n1_ := Aside0.mk (Kd.R_below (by (with_reducible repeat (first | apply Kd.R_alloc | apply Kd.R_drewN | apply Kd.R_drew)); exact HO136.out) hb); have n2_ := Aside0.mk (below_step (by repeat (first | (with_reducible first | exact HB.out | apply below_alloc | apply pw_below_drewN | apply below_drew1) | exact HB.out)) hb); clear HO132; clear HO136; clear HB; have HO132 := n0_; have HO136 := n1_; have HB := n2_; clear n0_ n1_ n2_; (try clear hb); (try clear hb2); (try clear hk); (try clear hi)))
              go_ret
              exact ⟨by first | rfl | (simp [errW_none, errW_some] <;> rfl) | (simp [*, errW_none, errW_some] <;> rfl), by repeat (first | (with_reducible first | exact HB.out | apply below_alloc | apply pw_below_drewN | apply below_drew1) | exact HB.out)⟩
          · replace c46 := Bool.eq_false_iff.mpr c46
            subst c46
            have H1 : (some false) = some r := by rw [if_neg (show ¬ (false = true) by decide)] at H; exact H
            clear H
            have H := H1
            clear H1
            obtain rfl := Option.some.inj H
            go_wp2_with (first | ((with_reducible refine gate_callee (f := 13) rfl ?_); refine goesL_ (some 68) rfl rfl Try.func13 (by kernel_rfl) rfl #[.string t121] rfl (by (try simp only [List.map_toArray, List.map_cons, List.map_nil]); first | done | rfl | (simp only [List.length_drop, List.length_take]; rfl)) ?_; (with_reducible refine (scan_Lex.calls t121 t128 t129 t130 _ A44.out).mono ?_); rintro e w96 ⟨v131, rfl, ho0, hb⟩; refine ⟨_, rfl, ?_⟩; have n0_ := Aside0.mk (Kd.R_lower ho0 (below_size (by repeat (first | (with_reducible first | exact HB.out | apply below_alloc | apply pw_below_drewN | apply below_drew1) | exact HB.out)))); have n1_ := Aside0.mk (below_step (by repeat (first | (with_reducible first | exact HB.out | apply below_alloc | apply pw_below_drewN | apply below_drew1) | exact HB.out)) hb); clear HB; have HO132 := n0_; have HB := n1_; clear n0_ n1_; (try clear hb); (try clear hb2); (try clear hk); (try clear hi); (try clear ho0)) | ((with_reducible refine gate_callee (f := 10) rfl ?_); refine goesL_ (some 74) rfl rfl Try.func10 (by kernel_rfl) rfl #[.string (t121 ++ (strOfNums y122))] rfl (by (try simp only [List.map_toArray, List.map_cons, List.map_nil]); first | done | rfl | (simp only [List.length_drop, List.length_take]; rfl)) ?_; (with_reducible refine (cadencylaw03_each.calls (t121 ++ (strOfNums y122)) t133 t134 _ A45.out).mono ?_); rintro e w97 ⟨v135, rfl, ho0, hb⟩; refine ⟨_, rfl, ?_⟩; have n0_ := Aside0.mk (Kd.R_elder' (by (with_reducible repeat (first | apply Kd.R_alloc | apply Kd.R_drewN | apply Kd.R_drew)); exact HO132.out) (Kd.R_base ho0) hb); have n1_ := Aside0.mk (Kd.R_lower (Kd.R_new' ho0 (Kd.R_lt (by (with_reducible repeat (first | apply Kd.R_alloc | apply Kd.R_drewN | apply Kd.R_drew)); exact HO132.out))) (below_size (by repeat (first | (with_reducible first | exact HB.out | apply below_alloc | apply pw_below_drewN | apply below_drew1) | exact HB.out)))); have n2_ := Aside0.mk (below_step (by repeat (first | (with_reducible first | exact HB.out | apply below_alloc | apply pw_below_drewN | apply below_drew1) | exact HB.out)) hb); clear HO132; clear HB; have HO132 := n0_; have HO136 := n1_; have HB := n2_; clear n0_ n1_ n2_; (try clear hb); (try clear hb2); (try clear hk); (try clear hi); (try clear ho0)))
            go_ret
            exact ⟨by first | rfl | (simp [errW_none, errW_some] <;> rfl) | (simp [*, errW_none, errW_some] <;> rfl), by repeat (first | (with_reducible first | exact HB.out | apply below_alloc | apply pw_below_drewN | apply below_drew1) | exact HB.out)⟩
    · replace c7 := Bool.eq_false_iff.mpr c7
      subst c7
      have H1 : (if t120 = true then ((scan_Word.f (t121 ++ (strOfNums y122))).bind fun t126 => ((cadencyref03_Word.f (t121 ++ (strOfNums y122))).bind fun t127 => (some (t126 == t127)))) else (some false)) = some r := by rw [if_neg (show ¬ (false = true) by decide)] at H; exact H
      clear H
      have H := H1
      clear H1
      by_cases c98 : t120 = true
      · subst c98
        have H1 : ((scan_Word.f (t121 ++ (strOfNums y122))).bind fun t126 => ((cadencyref03_Word.f (t121 ++ (strOfNums y122))).bind fun t127 => (some (t126 == t127)))) = some r := by rw [if_pos rfl] at H; exact H
        clear H
        have H := H1
        clear H1
        replace H := Option.bind_eq_some_iff.mp H
        obtain ⟨t126, A990, H⟩ := H
        replace H : ((cadencyref03_Word.f (t121 ++ (strOfNums y122))).bind fun t127 => (some (t126 == t127))) = some r := H
        have A99 := Aside0.mk A990
        clear A990
        replace H := Option.bind_eq_some_iff.mp H
        obtain ⟨t127, A1000, H⟩ := H
        replace H : (some (t126 == t127)) = some r := H
        have A100 := Aside0.mk A1000
        clear A1000
        obtain rfl := Option.some.inj H
        go_enter Try.func8, Try.ntmps8
        go_wp2_with (first | ((with_reducible refine gate_callee (f := 9) rfl ?_); refine goesL_ (some 13) rfl rfl Try.func9 (by kernel_rfl) rfl #[] rfl (by (try simp only [List.map_toArray, List.map_cons, List.map_nil]); first | done | rfl | (simp only [List.length_drop, List.length_take]; rfl)) ?_; (with_reducible refine (cadencylaw03_awake.calls  true _ A3.out).mono ?_); rintro e w101 ⟨rfl, hb⟩; refine ⟨_, rfl, ?_⟩; have n0_ := Aside0.mk (below_step (by repeat (first | (with_reducible first | exact HB.out | apply below_alloc | apply pw_below_drewN | apply below_drew1) | exact HB.out)) hb); clear HB; have HB := n0_; clear n0_; (try clear hb); (try clear hb2); (try clear hk); (try clear hi)) | ((with_reducible refine gate_callee (f := 11) rfl ?_); refine goesL_ (some 15) rfl rfl Try.func11 (by kernel_rfl) rfl #[.string a0] rfl (by (try simp only [List.map_toArray, List.map_cons, List.map_nil]); first | done | rfl | (simp only [List.length_drop, List.length_take]; rfl)) ?_; (with_reducible refine (cadencylaw03_short.calls a0 t121 _ A4.out).mono ?_); rintro e w' ⟨rfl, ⟨nd, rfl⟩⟩; refine ⟨_, rfl, ?_⟩) | ((with_reducible refine gate_dst (N := 18) rfl ?_); (try (refine gate_guard (by rfl) ?_; dsimp only)); refine Kd.R_lit (Kd.int .u8) _ 5 ?hg (N := 18) ?hd (xs := ([a1] : List Int)) (inner := [.int .u8 a1]) (ok := fun _ => True) (okp := fun _ => True) ?hr ?hp (fun _ hk => hk) trivial (Below.refl _ _) (Nat.le_refl _) (by simp) ?_; (case hd => rfl); (case hg => rfl); (case hr => first | (go_simp; done) | (go_simp; rfl)); (case hp => exact (Reps.one (show Kd.M (Kd.int .u8) _ _ _ a1 [.int .u8 a1] from rfl) (Reps.none _ _))); intro v123 w102 ho103 hb hg_ hnew_; clear hg_ hnew_; (first | rw [← Ny122.out] at ho103 | (simp only [Int.reduceToNat] at ho103; rw [← Ny122.out] at ho103)); have n0_ := Aside0.mk (Kd.R_lower ho103 (below_size (by repeat (first | (with_reducible first | exact HB.out | apply below_alloc | apply pw_below_drewN | apply below_drew1) | exact HB.out)))); have n1_ := Aside0.mk (below_step (by repeat (first | (with_reducible first | exact HB.out | apply below_alloc | apply pw_below_drewN | apply below_drew1) | exact HB.out)) hb); clear HB; have HO124 := n0_; have HB := n1_; clear n0_ n1_; clear hb ho103; have hcv104 := own_string (P := Try.prog) Try.underlying31 Try.underlying5 Try.underlying9 (Kd.own_of_R HO124.out)) | ((with_reducible refine gate_callee (f := 17) rfl ?_); refine goesL_ (some 22) rfl rfl Try.func17 (by kernel_rfl) rfl #[.string t121] rfl (by (try simp only [List.map_toArray, List.map_cons, List.map_nil]); first | done | rfl | (simp only [List.length_drop, List.length_take]; rfl)) ?_; (with_reducible refine (scan_Word.calls t121 false _ A6.out).mono ?_); rintro e w105 ⟨rfl, hb⟩; refine ⟨_, rfl, ?_⟩; have n0_ := Aside0.mk (Kd.R_below (by (with_reducible repeat (first | apply Kd.R_alloc | apply Kd.R_drewN | apply Kd.R_drew)); exact HO124.out) hb); have n1_ := Aside0.mk (below_step (by repeat (first | (with_reducible first | exact HB.out | apply below_alloc | apply pw_below_drewN | apply below_drew1) | exact HB.out)) hb); clear HO124; clear HB; have HO124 := n0_; have HB := n1_; clear n0_ n1_; (try clear hb); (try clear hb2); (try clear hk); (try clear hi)) | (go_at_call 17; (with_reducible refine (scan_Word.calls (t121 ++ (strOfNums y122)) t126 _ A99.out).mono ?_); rintro e w106 ⟨rfl, hb⟩; have n0_ := Aside0.mk (Kd.R_below (by (with_reducible repeat (first | apply Kd.R_alloc | apply Kd.R_drewN | apply Kd.R_drew)); exact HO124.out) hb); have n1_ := Aside0.mk (below_step (by repeat (first | (with_reducible first | exact HB.out | apply below_alloc | apply pw_below_drewN | apply below_drew1) | exact HB.out)) hb); clear HO124; clear HB; have HO124 := n0_; have HB := n1_; clear n0_ n1_; (try clear hb); (try clear hb2); (try clear hk); (try clear hi)) | (go_at_call 18; (with_reducible refine (cadencyref03_Word.calls (t121 ++ (strOfNums y122)) t127 _ A100.out).mono ?_); rintro e w107 ⟨rfl, hb⟩; have n0_ := Aside0.mk (Kd.R_below (by (with_reducible repeat (first | apply Kd.R_alloc | apply Kd.R_drewN | apply Kd.R_drew)); exact HO124.out) hb); have n1_ := Aside0.mk (below_step (by repeat (first | (with_reducible first | exact HB.out | apply below_alloc | apply pw_below_drewN | apply below_drew1) | exact HB.out)) hb); clear HO124; clear HB; have HO124 := n0_; have HB := n1_; clear n0_ n1_; (try clear hb); (try clear hb2); (try clear hk); (try clear hi)))
        go_ret
        exact ⟨by first | rfl | (simp [errW_none, errW_some] <;> rfl) | (simp [*, errW_none, errW_some] <;> rfl), by repeat (first | (with_reducible first | exact HB.out | apply below_alloc | apply pw_below_drewN | apply below_drew1) | exact HB.out)⟩
      · replace c98 := Bool.eq_false_iff.mpr c98
        subst c98
        have H1 : (some false) = some r := by rw [if_neg (show ¬ (false = true) by decide)] at H; exact H
        clear H
        have H := H1
        clear H1
        obtain rfl := Option.some.inj H
        go_enter Try.func8, Try.ntmps8
        go_wp2_with (first | ((with_reducible refine gate_callee (f := 9) rfl ?_); refine goesL_ (some 13) rfl rfl Try.func9 (by kernel_rfl) rfl #[] rfl (by (try simp only [List.map_toArray, List.map_cons, List.map_nil]); first | done | rfl | (simp only [List.length_drop, List.length_take]; rfl)) ?_; (with_reducible refine (cadencylaw03_awake.calls  false _ A3.out).mono ?_); rintro e w108 ⟨rfl, hb⟩; refine ⟨_, rfl, ?_⟩; have n0_ := Aside0.mk (below_step (by repeat (first | (with_reducible first | exact HB.out | apply below_alloc | apply pw_below_drewN | apply below_drew1) | exact HB.out)) hb); clear HB; have HB := n0_; clear n0_; (try clear hb); (try clear hb2); (try clear hk); (try clear hi)) | ((with_reducible refine gate_callee (f := 11) rfl ?_); refine goesL_ (some 15) rfl rfl Try.func11 (by kernel_rfl) rfl #[.string a0] rfl (by (try simp only [List.map_toArray, List.map_cons, List.map_nil]); first | done | rfl | (simp only [List.length_drop, List.length_take]; rfl)) ?_; (with_reducible refine (cadencylaw03_short.calls a0 t121 _ A4.out).mono ?_); rintro e w' ⟨rfl, ⟨nd, rfl⟩⟩; refine ⟨_, rfl, ?_⟩) | ((with_reducible refine gate_dst (N := 18) rfl ?_); (try (refine gate_guard (by rfl) ?_; dsimp only)); refine Kd.R_lit (Kd.int .u8) _ 5 ?hg (N := 18) ?hd (xs := ([a1] : List Int)) (inner := [.int .u8 a1]) (ok := fun _ => True) (okp := fun _ => True) ?hr ?hp (fun _ hk => hk) trivial (Below.refl _ _) (Nat.le_refl _) (by simp) ?_; (case hd => rfl); (case hg => rfl); (case hr => first | (go_simp; done) | (go_simp; rfl)); (case hp => exact (Reps.one (show Kd.M (Kd.int .u8) _ _ _ a1 [.int .u8 a1] from rfl) (Reps.none _ _))); intro v123 w109 ho110 hb hg_ hnew_; clear hg_ hnew_; (first | rw [← Ny122.out] at ho110 | (simp only [Int.reduceToNat] at ho110; rw [← Ny122.out] at ho110)); have n0_ := Aside0.mk (Kd.R_lower ho110 (below_size (by repeat (first | (with_reducible first | exact HB.out | apply below_alloc | apply pw_below_drewN | apply below_drew1) | exact HB.out)))); have n1_ := Aside0.mk (below_step (by repeat (first | (with_reducible first | exact HB.out | apply below_alloc | apply pw_below_drewN | apply below_drew1) | exact HB.out)) hb); clear HB; have HO124 := n0_; have HB := n1_; clear n0_ n1_; clear hb ho110; have hcv111 := own_string (P := Try.prog) Try.underlying31 Try.underlying5 Try.underlying9 (Kd.own_of_R HO124.out)) | ((with_reducible refine gate_callee (f := 17) rfl ?_); refine goesL_ (some 22) rfl rfl Try.func17 (by kernel_rfl) rfl #[.string t121] rfl (by (try simp only [List.map_toArray, List.map_cons, List.map_nil]); first | done | rfl | (simp only [List.length_drop, List.length_take]; rfl)) ?_; (with_reducible refine (scan_Word.calls t121 false _ A6.out).mono ?_); rintro e w112 ⟨rfl, hb⟩; refine ⟨_, rfl, ?_⟩; have n0_ := Aside0.mk (Kd.R_below (by (with_reducible repeat (first | apply Kd.R_alloc | apply Kd.R_drewN | apply Kd.R_drew)); exact HO124.out) hb); have n1_ := Aside0.mk (below_step (by repeat (first | (with_reducible first | exact HB.out | apply below_alloc | apply pw_below_drewN | apply below_drew1) | exact HB.out)) hb); clear HO124; clear HB; have HO124 := n0_; have HB := n1_; clear n0_ n1_; (try clear hb); (try clear hb2); (try clear hk); (try clear hi)))
        go_ret
        exact ⟨by first | rfl | (simp [errW_none, errW_some] <;> rfl) | (simp [*, errW_none, errW_some] <;> rfl), by repeat (first | (with_reducible first | exact HB.out | apply below_alloc | apply pw_below_drewN | apply below_drew1) | exact HB.out)⟩
  · rw [if_neg c5] at H
    exact absurd H (by simp)

/-- THE ONE PURE STATEMENT of cadencylaw03_ScanWords: yours. -/
def cadencylaw03_ScanWords.Pure : Prop := ∀ (a0 : ByteArray) (a1 : Int), a0.size ≤ 140737488351232 → (Lit.int .u8 a1).wf = true → ∃ k, cadencylaw03_ScanWords.f k a0 a1 = some true
theorem cadencylaw03_ScanWords.walk (P : cadencylaw03_ScanWords.Pure) (a0 : ByteArray) (a1 : Int) (w : World) (w0 : a0.size ≤ 140737488351232) (w1 : (Lit.int .u8 a1).wf = true) :
    Calls Try.prog 8 #[.string a0, .int .u8 a1] w fun e w' => e = .returned (.bool true) ∧ Below w.heap.size w w' := by
  obtain ⟨k, h⟩ := P a0 a1 w0 w1
  refine (cadencylaw03_ScanWords.calls k a0 a1 true w h).mono ?_
  rintro e w' ⟨rfl, hd⟩
  exact ⟨rfl, hd⟩

end Go.Proofs.Ytehlabphhcdooaa.S2
