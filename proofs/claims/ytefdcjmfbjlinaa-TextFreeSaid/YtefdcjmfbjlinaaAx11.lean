-- written by a program (wip/dev/print2.sh): functions of the program as plain Lean, with their contracts
import Derived.Test.YtefdcjmfbjlinaaAx0
import Derived.Test.YtefdcjmfbjlinaaAx1
import Derived.Test.YtefdcjmfbjlinaaAx2
import Derived.Test.YtefdcjmfbjlinaaAx5
import Derived.Test.YtefdcjmfbjlinaaAx9
import Derived.Test.YtefdcjmfbjlinaaGivT
namespace Go.Proofs.Ytefdcjmfbjlinaa.A
open Go.RowKit Go.Proofs.YtefdcjmfbjlinaaW.PrintWords Go.Proofs.YtefdcjmfbjlinaaW.PrintLast Go.Proofs.YtefdcjmfbjlinaaW.PrintMore
set_option linter.unusedVariables false
set_option linter.unusedSimpArgs false

attribute [local go_sem high] eqA33
/-! ### cadencylaw05_TextFree: function 4 -/
mutual
def cadencylaw05_TextFree.j0 : Nat → Int → Int → Bool → List ByteArray → ByteArray → ByteArray → Int → Int → Int → Int → Int → Int → Option (Bool)
  | 0, _, _, _, _, _, _, _, _, _, _, _, _ => none
  | k + 1, x1, x2, x7, x9, x10, x277000, x277001, x277002, x277003, x277004, x277005, x277006 => cadencylaw05_TextFree.l0 k x1 x2 x7 x9 x10 0 x277000 x277001 x277002 x277003 x277004 x277005 x277006
def cadencylaw05_TextFree.l0 : Nat → Int → Int → Bool → List ByteArray → ByteArray → Int → ByteArray → Int → Int → Int → Int → Int → Int → Option (Bool)
  | 0, _, _, _, _, _, _, _, _, _, _, _, _, _ => none
  | k + 1, x1, x2, x7, x9, x10, x11, x277000, x277001, x277002, x277003, x277004, x277005, x277006 => if x11 < 6 then ((cadencylaw05_rest.f x1 6).bind fun t286 => (if (Go.bits .and .i64 x2 8) = 8 then (if (Int.tmod (wrap64 (x11 + t286)) 6) = 2 then (if x277003 = x277002 then (cadencylaw05_TextFree.j2 k x1 x2 x7 x9 x10 x11 (Int.tmod (wrap64 (x11 + t286)) 6) true x277000 x277001 x277002 x277003 x277004 x277005 x277006) else (if (Int.tmod (wrap64 (x11 + t286)) 6) = 3 then (if x277004 = 0 then (cadencylaw05_TextFree.j2 k x1 x2 x7 x9 x10 x11 (Int.tmod (wrap64 (x11 + t286)) 6) true x277000 x277001 x277002 x277003 x277004 x277005 x277006) else (if (Int.tmod (wrap64 (x11 + t286)) 6) = 4 then (cadencylaw05_TextFree.j2 k x1 x2 x7 x9 x10 x11 (Int.tmod (wrap64 (x11 + t286)) 6) (x277005 == 1) x277000 x277001 x277002 x277003 x277004 x277005 x277006) else (cadencylaw05_TextFree.j2 k x1 x2 x7 x9 x10 x11 (Int.tmod (wrap64 (x11 + t286)) 6) false x277000 x277001 x277002 x277003 x277004 x277005 x277006))) else (if (Int.tmod (wrap64 (x11 + t286)) 6) = 4 then (cadencylaw05_TextFree.j2 k x1 x2 x7 x9 x10 x11 (Int.tmod (wrap64 (x11 + t286)) 6) (x277005 == 1) x277000 x277001 x277002 x277003 x277004 x277005 x277006) else (cadencylaw05_TextFree.j2 k x1 x2 x7 x9 x10 x11 (Int.tmod (wrap64 (x11 + t286)) 6) false x277000 x277001 x277002 x277003 x277004 x277005 x277006)))) else (if (Int.tmod (wrap64 (x11 + t286)) 6) = 3 then (if x277004 = 0 then (cadencylaw05_TextFree.j2 k x1 x2 x7 x9 x10 x11 (Int.tmod (wrap64 (x11 + t286)) 6) true x277000 x277001 x277002 x277003 x277004 x277005 x277006) else (if (Int.tmod (wrap64 (x11 + t286)) 6) = 4 then (cadencylaw05_TextFree.j2 k x1 x2 x7 x9 x10 x11 (Int.tmod (wrap64 (x11 + t286)) 6) (x277005 == 1) x277000 x277001 x277002 x277003 x277004 x277005 x277006) else (cadencylaw05_TextFree.j2 k x1 x2 x7 x9 x10 x11 (Int.tmod (wrap64 (x11 + t286)) 6) false x277000 x277001 x277002 x277003 x277004 x277005 x277006))) else (if (Int.tmod (wrap64 (x11 + t286)) 6) = 4 then (cadencylaw05_TextFree.j2 k x1 x2 x7 x9 x10 x11 (Int.tmod (wrap64 (x11 + t286)) 6) (x277005 == 1) x277000 x277001 x277002 x277003 x277004 x277005 x277006) else (cadencylaw05_TextFree.j2 k x1 x2 x7 x9 x10 x11 (Int.tmod (wrap64 (x11 + t286)) 6) false x277000 x277001 x277002 x277003 x277004 x277005 x277006)))) else (cadencylaw05_TextFree.j2 k x1 x2 x7 x9 x10 x11 (Int.tmod (wrap64 (x11 + t286)) 6) false x277000 x277001 x277002 x277003 x277004 x277005 x277006))) else (if (Go.bits .and .i64 x2 1) = 1 then (if x10.size + 5 ≤ 9223372036854775807 then ((text_Read.f (x10 ++ (⟨#[35, 32, 99, 61, 57]⟩ : ByteArray))).bind fun bt288 => (if x7 = true then (if bt288.2.2 = 0 then (if bt288.2.1 = ((x10 ++ (⟨#[35, 32, 99, 61, 57]⟩ : ByteArray)).size : Int) then (if (bt288.1.length : Int) = 1 then (if 0 < (bt288.1.length : Int) then (some ((((rd_T33 bt288.1 0).f0).toList) == x277000.toList && (((rd_T33 bt288.1 0).f1) == x277001 && (((rd_T33 bt288.1 0).f2) == x277002 && (((rd_T33 bt288.1 0).f3) == x277003 && (((rd_T33 bt288.1 0).f4) == x277004 && (((rd_T33 bt288.1 0).f5) == x277005 && (((rd_T33 bt288.1 0).f6) == x277006)))))))) else (none)) else (some false)) else (some false)) else (some false)) else (some false))) else (none)) else ((text_Read.f x10).bind fun bt294 => (if x7 = true then (if bt294.2.2 = 0 then (if bt294.2.1 = (x10.size : Int) then (if (bt294.1.length : Int) = 1 then (if 0 < (bt294.1.length : Int) then (some ((((rd_T33 bt294.1 0).f0).toList) == x277000.toList && (((rd_T33 bt294.1 0).f1) == x277001 && (((rd_T33 bt294.1 0).f2) == x277002 && (((rd_T33 bt294.1 0).f3) == x277003 && (((rd_T33 bt294.1 0).f4) == x277004 && (((rd_T33 bt294.1 0).f5) == x277005 && (((rd_T33 bt294.1 0).f6) == x277006)))))))) else (none)) else (some false)) else (some false)) else (some false)) else (some false))))
def cadencylaw05_TextFree.j2 : Nat → Int → Int → Bool → List ByteArray → ByteArray → Int → Int → Bool → ByteArray → Int → Int → Int → Int → Int → Int → Option (Bool)
  | 0, _, _, _, _, _, _, _, _, _, _, _, _, _, _, _ => none
  | k + 1, x1, x2, x7, x9, x10, x11, x12, x94, x277000, x277001, x277002, x277003, x277004, x277005, x277006 => if x94 = true then (cadencylaw05_TextFree.l0 k x1 x2 x7 x9 x10 (wrap64 (x11 + 1)) x277000 x277001 x277002 x277003 x277004 x277005 x277006) else (if x10.size + 1 ≤ 9223372036854775807 then (if 0 ≤ x12 then (if x12 < (x9.length : Int) then (if (x10 ++ (⟨#[32]⟩ : ByteArray)).size + (rdOf ByteArray.empty x9 x12).size ≤ 9223372036854775807 then (if (Go.bits .and .i64 x2 2) = 2 then (if ((x10 ++ (⟨#[32]⟩ : ByteArray)) ++ (rdOf ByteArray.empty x9 x12)).size + 2 ≤ 9223372036854775807 then (cadencylaw05_TextFree.l0 k x1 x2 x7 x9 (((x10 ++ (⟨#[32]⟩ : ByteArray)) ++ (rdOf ByteArray.empty x9 x12)) ++ (⟨#[9, 32]⟩ : ByteArray)) (wrap64 (x11 + 1)) x277000 x277001 x277002 x277003 x277004 x277005 x277006) else (none)) else (cadencylaw05_TextFree.l0 k x1 x2 x7 x9 ((x10 ++ (⟨#[32]⟩ : ByteArray)) ++ (rdOf ByteArray.empty x9 x12)) (wrap64 (x11 + 1)) x277000 x277001 x277002 x277003 x277004 x277005 x277006)) else (none)) else (none)) else (none)) else (none))
end
def cadencylaw05_TextFree.f (k : Nat) (l0 : List (S43)) (a1 : Int) (a2 : Int) : Option (Bool) := (cadencylaw05_awake.f).bind fun t271 => ((cadencyref04_Set.f k l0 1 0).bind fun t272 => (if 0 < (t272.length : Int) then ((cadencyref05_Digits.f k ((rd_T33 t272 0).f1)).bind fun t277 => (if 2 + t277.size ≤ 9223372036854775807 then ((cadencyref05_Digits.f k ((rd_T33 t272 0).f2)).bind fun t278 => (if 2 + t278.size ≤ 9223372036854775807 then ((cadencyref05_Digits.f k ((rd_T33 t272 0).f3)).bind fun t279 => (if 2 + t279.size ≤ 9223372036854775807 then ((cadencyref05_Digits.f k ((rd_T33 t272 0).f4)).bind fun t280 => (if 2 + t280.size ≤ 9223372036854775807 then ((cadencyref05_Digits.f k ((rd_T33 t272 0).f5)).bind fun t281 => (if 2 + t281.size ≤ 9223372036854775807 then ((cadencyref05_Digits.f k ((rd_T33 t272 0).f6)).bind fun t282 => (if 2 + t282.size ≤ 9223372036854775807 then ((some (([(⟨#[99, 61]⟩ : ByteArray) ++ t277, (⟨#[116, 61]⟩ : ByteArray) ++ t278, (⟨#[100, 61]⟩ : ByteArray) ++ t279, (⟨#[106, 61]⟩ : ByteArray) ++ t280, (⟨#[113, 61]⟩ : ByteArray) ++ t281, (⟨#[112, 61]⟩ : ByteArray) ++ t282] : List ByteArray) : List ByteArray)).bind fun y283 => (if 5 + ((rd_T33 t272 0).f0).size ≤ 9223372036854775807 then (if (Go.bits .and .i64 a2 4) = 4 then (if 9 + ((⟨#[116, 97, 115, 107, 32]⟩ : ByteArray) ++ ((rd_T33 t272 0).f0)).size ≤ 9223372036854775807 then (cadencylaw05_TextFree.j0 k a1 a2 t271 y283 ((⟨#[10, 32, 35, 32, 116, 97, 115, 107, 10]⟩ : ByteArray) ++ ((⟨#[116, 97, 115, 107, 32]⟩ : ByteArray) ++ ((rd_T33 t272 0).f0))) ((rd_T33 t272 0).f0) ((rd_T33 t272 0).f1) ((rd_T33 t272 0).f2) ((rd_T33 t272 0).f3) ((rd_T33 t272 0).f4) ((rd_T33 t272 0).f5) ((rd_T33 t272 0).f6)) else (none)) else (cadencylaw05_TextFree.j0 k a1 a2 t271 y283 ((⟨#[116, 97, 115, 107, 32]⟩ : ByteArray) ++ ((rd_T33 t272 0).f0)) ((rd_T33 t272 0).f0) ((rd_T33 t272 0).f1) ((rd_T33 t272 0).f2) ((rd_T33 t272 0).f3) ((rd_T33 t272 0).f4) ((rd_T33 t272 0).f5) ((rd_T33 t272 0).f6))) else (none))) else (none))) else (none))) else (none))) else (none))) else (none))) else (none))) else (none)))
def cadencylaw05_TextFree.T3 : Bool × List (List Nat × List Nat) := (true, [([], []), ([0], [0]), ([1], [1]), ([2], [2]), ([], []), ([4], [4]), ([5, 2], [5]), ([6], [6]), ([], []), ([8], [8]), ([9, 6], [9]), ([10], [10]), ([], []), ([12], [12]), ([13, 10], [13]), ([14], [14]), ([], []), ([16], [16]), ([17, 14], [17]), ([18], [18]), ([], []), ([20], [20]), ([21, 18], [21]), ([22], [22]), ([3, 7, 11, 15, 19, 23], [3, 7, 11, 15, 19, 23]), ([24, 22, 0, 1, 2, 3, 4, 5, 6, 7, 8, 9, 10, 11, 12, 13, 14, 15, 16, 17, 18, 19, 20, 21, 22, 23, 24], [24])])
def cadencylaw05_TextFree.B3 : List Nat := [0, 1, 3, 7, 0, 16, 55, 119, 0, 256, 887, 1911, 0, 4096, 14199, 30583, 0, 65536, 227191, 489335, 0, 1048576, 3635063, 7829367, 16777215, 33554431]
theorem cadencylaw05_TextFree.tab3 : rtab .any (opsOf Try.f4 3) = cadencylaw05_TextFree.T3 := by kernel_rfl
theorem cadencylaw05_TextFree.bits3 : waitsOk cadencylaw05_TextFree.T3.2 cadencylaw05_TextFree.B3 = true := by kernel_rfl
def cadencylaw05_TextFree.T18 : Bool × List (List Nat × List Nat) := (true, [([], []), ([0], [0]), ([1], [1]), ([2, 1], [1, 2]), ([1, 3], [1, 3]), ([4, 1], [4]), ([5], [5]), ([5], [5]), ([7, 5], [5, 7]), ([6, 8, 5], [5, 6, 8]), ([5, 9], [5, 9]), ([10, 5], [10]), ([11], [11]), ([12, 11], [11, 12]), ([13, 11], [11, 13]), ([11, 14], [11, 14]), ([15, 11], [15]), ([16], [16]), ([17, 16], [16, 17]), ([18, 16], [16, 18]), ([16], [16]), ([19, 20, 16], [16, 19, 20]), ([16, 21], [16, 21]), ([22, 16, 0, 1, 2, 3, 4, 5, 6, 7, 8, 9, 10, 11, 12, 13, 14, 15, 16, 17, 18, 19, 20, 21, 22], [22])])
def cadencylaw05_TextFree.B18 : List Nat := [0, 1, 3, 7, 15, 31, 63, 63, 191, 511, 1023, 2047, 4095, 8191, 16383, 32767, 65535, 131071, 262143, 524287, 131071, 2097151, 4194303, 8388607]
theorem cadencylaw05_TextFree.tab18 : rtab .any (opsOf Try.f4 18) = cadencylaw05_TextFree.T18 := by kernel_rfl
theorem cadencylaw05_TextFree.bits18 : waitsOk cadencylaw05_TextFree.T18.2 cadencylaw05_TextFree.B18 = true := by kernel_rfl
set_option maxHeartbeats 8000000 in
set_option maxRecDepth 100000 in
theorem cadencylaw05_TextFree.calls (k : Nat) (A0 : Option Addr) (c0 : Nat) (l0 : List (S43)) (a1 : Int) (a2 : Int) (r : Bool) (w : World) (hr0 : Kd.C k43 w A0 l0.length l0) (hc0 : l0.length ≤ c0) (hr : Aside0 (r = true)) (h : cadencylaw05_TextFree.f k l0 a1 a2 = some r) :
    Calls Try.prog 4 #[.slice A0 l0.length c0, .int .i64 a1, .int .i64 a2] w fun e w' => e = .returned (.bool r) ∧ Below w.heap.size w w' := by
  have hu33 := Try.underlying33
  have HR0 := Aside0.mk hr0
  have HC0 := Aside0.mk hc0
  clear hr0 hc0
  have HB := Aside0.mk (Below.refl w.heap.size w)
  have H : ((cadencylaw05_awake.f).bind fun t271 => ((cadencyref04_Set.f k l0 1 0).bind fun t272 => (if 0 < (t272.length : Int) then ((cadencyref05_Digits.f k ((rd_T33 t272 0).f1)).bind fun t277 => (if 2 + t277.size ≤ 9223372036854775807 then ((cadencyref05_Digits.f k ((rd_T33 t272 0).f2)).bind fun t278 => (if 2 + t278.size ≤ 9223372036854775807 then ((cadencyref05_Digits.f k ((rd_T33 t272 0).f3)).bind fun t279 => (if 2 + t279.size ≤ 9223372036854775807 then ((cadencyref05_Digits.f k ((rd_T33 t272 0).f4)).bind fun t280 => (if 2 + t280.size ≤ 9223372036854775807 then ((cadencyref05_Digits.f k ((rd_T33 t272 0).f5)).bind fun t281 => (if 2 + t281.size ≤ 9223372036854775807 then ((cadencyref05_Digits.f k ((rd_T33 t272 0).f6)).bind fun t282 => (if 2 + t282.size ≤ 9223372036854775807 then ((some (([(⟨#[99, 61]⟩ : ByteArray) ++ t277, (⟨#[116, 61]⟩ : ByteArray) ++ t278, (⟨#[100, 61]⟩ : ByteArray) ++ t279, (⟨#[106, 61]⟩ : ByteArray) ++ t280, (⟨#[113, 61]⟩ : ByteArray) ++ t281, (⟨#[112, 61]⟩ : ByteArray) ++ t282] : List ByteArray) : List ByteArray)).bind fun y283 => (if 5 + ((rd_T33 t272 0).f0).size ≤ 9223372036854775807 then (if (Go.bits .and .i64 a2 4) = 4 then (if 9 + ((⟨#[116, 97, 115, 107, 32]⟩ : ByteArray) ++ ((rd_T33 t272 0).f0)).size ≤ 9223372036854775807 then (cadencylaw05_TextFree.j0 k a1 a2 t271 y283 ((⟨#[10, 32, 35, 32, 116, 97, 115, 107, 10]⟩ : ByteArray) ++ ((⟨#[116, 97, 115, 107, 32]⟩ : ByteArray) ++ ((rd_T33 t272 0).f0))) ((rd_T33 t272 0).f0) ((rd_T33 t272 0).f1) ((rd_T33 t272 0).f2) ((rd_T33 t272 0).f3) ((rd_T33 t272 0).f4) ((rd_T33 t272 0).f5) ((rd_T33 t272 0).f6)) else (none)) else (cadencylaw05_TextFree.j0 k a1 a2 t271 y283 ((⟨#[116, 97, 115, 107, 32]⟩ : ByteArray) ++ ((rd_T33 t272 0).f0)) ((rd_T33 t272 0).f0) ((rd_T33 t272 0).f1) ((rd_T33 t272 0).f2) ((rd_T33 t272 0).f3) ((rd_T33 t272 0).f4) ((rd_T33 t272 0).f5) ((rd_T33 t272 0).f6))) else (none))) else (none))) else (none))) else (none))) else (none))) else (none))) else (none))) else (none)))) = some r := h
  clear h
  replace H := Option.bind_eq_some_iff.mp H
  obtain ⟨t271, A40, H⟩ := H
  replace H : ((cadencyref04_Set.f k l0 1 0).bind fun t272 => (if 0 < (t272.length : Int) then ((cadencyref05_Digits.f k ((rd_T33 t272 0).f1)).bind fun t277 => (if 2 + t277.size ≤ 9223372036854775807 then ((cadencyref05_Digits.f k ((rd_T33 t272 0).f2)).bind fun t278 => (if 2 + t278.size ≤ 9223372036854775807 then ((cadencyref05_Digits.f k ((rd_T33 t272 0).f3)).bind fun t279 => (if 2 + t279.size ≤ 9223372036854775807 then ((cadencyref05_Digits.f k ((rd_T33 t272 0).f4)).bind fun t280 => (if 2 + t280.size ≤ 9223372036854775807 then ((cadencyref05_Digits.f k ((rd_T33 t272 0).f5)).bind fun t281 => (if 2 + t281.size ≤ 9223372036854775807 then ((cadencyref05_Digits.f k ((rd_T33 t272 0).f6)).bind fun t282 => (if 2 + t282.size ≤ 9223372036854775807 then ((some (([(⟨#[99, 61]⟩ : ByteArray) ++ t277, (⟨#[116, 61]⟩ : ByteArray) ++ t278, (⟨#[100, 61]⟩ : ByteArray) ++ t279, (⟨#[106, 61]⟩ : ByteArray) ++ t280, (⟨#[113, 61]⟩ : ByteArray) ++ t281, (⟨#[112, 61]⟩ : ByteArray) ++ t282] : List ByteArray) : List ByteArray)).bind fun y283 => (if 5 + ((rd_T33 t272 0).f0).size ≤ 9223372036854775807 then (if (Go.bits .and .i64 a2 4) = 4 then (if 9 + ((⟨#[116, 97, 115, 107, 32]⟩ : ByteArray) ++ ((rd_T33 t272 0).f0)).size ≤ 9223372036854775807 then (cadencylaw05_TextFree.j0 k a1 a2 t271 y283 ((⟨#[10, 32, 35, 32, 116, 97, 115, 107, 10]⟩ : ByteArray) ++ ((⟨#[116, 97, 115, 107, 32]⟩ : ByteArray) ++ ((rd_T33 t272 0).f0))) ((rd_T33 t272 0).f0) ((rd_T33 t272 0).f1) ((rd_T33 t272 0).f2) ((rd_T33 t272 0).f3) ((rd_T33 t272 0).f4) ((rd_T33 t272 0).f5) ((rd_T33 t272 0).f6)) else (none)) else (cadencylaw05_TextFree.j0 k a1 a2 t271 y283 ((⟨#[116, 97, 115, 107, 32]⟩ : ByteArray) ++ ((rd_T33 t272 0).f0)) ((rd_T33 t272 0).f0) ((rd_T33 t272 0).f1) ((rd_T33 t272 0).f2) ((rd_T33 t272 0).f3) ((rd_T33 t272 0).f4) ((rd_T33 t272 0).f5) ((rd_T33 t272 0).f6))) else (none))) else (none))) else (none))) else (none))) else (none))) else (none))) else (none))) else (none))) = some r := H
  have A4 := Aside0.mk A40
  clear A40
  replace H := Option.bind_eq_some_iff.mp H
  obtain ⟨t272, A50, H⟩ := H
  replace H : (if 0 < (t272.length : Int) then ((cadencyref05_Digits.f k ((rd_T33 t272 0).f1)).bind fun t277 => (if 2 + t277.size ≤ 9223372036854775807 then ((cadencyref05_Digits.f k ((rd_T33 t272 0).f2)).bind fun t278 => (if 2 + t278.size ≤ 9223372036854775807 then ((cadencyref05_Digits.f k ((rd_T33 t272 0).f3)).bind fun t279 => (if 2 + t279.size ≤ 9223372036854775807 then ((cadencyref05_Digits.f k ((rd_T33 t272 0).f4)).bind fun t280 => (if 2 + t280.size ≤ 9223372036854775807 then ((cadencyref05_Digits.f k ((rd_T33 t272 0).f5)).bind fun t281 => (if 2 + t281.size ≤ 9223372036854775807 then ((cadencyref05_Digits.f k ((rd_T33 t272 0).f6)).bind fun t282 => (if 2 + t282.size ≤ 9223372036854775807 then ((some (([(⟨#[99, 61]⟩ : ByteArray) ++ t277, (⟨#[116, 61]⟩ : ByteArray) ++ t278, (⟨#[100, 61]⟩ : ByteArray) ++ t279, (⟨#[106, 61]⟩ : ByteArray) ++ t280, (⟨#[113, 61]⟩ : ByteArray) ++ t281, (⟨#[112, 61]⟩ : ByteArray) ++ t282] : List ByteArray) : List ByteArray)).bind fun y283 => (if 5 + ((rd_T33 t272 0).f0).size ≤ 9223372036854775807 then (if (Go.bits .and .i64 a2 4) = 4 then (if 9 + ((⟨#[116, 97, 115, 107, 32]⟩ : ByteArray) ++ ((rd_T33 t272 0).f0)).size ≤ 9223372036854775807 then (cadencylaw05_TextFree.j0 k a1 a2 t271 y283 ((⟨#[10, 32, 35, 32, 116, 97, 115, 107, 10]⟩ : ByteArray) ++ ((⟨#[116, 97, 115, 107, 32]⟩ : ByteArray) ++ ((rd_T33 t272 0).f0))) ((rd_T33 t272 0).f0) ((rd_T33 t272 0).f1) ((rd_T33 t272 0).f2) ((rd_T33 t272 0).f3) ((rd_T33 t272 0).f4) ((rd_T33 t272 0).f5) ((rd_T33 t272 0).f6)) else (none)) else (cadencylaw05_TextFree.j0 k a1 a2 t271 y283 ((⟨#[116, 97, 115, 107, 32]⟩ : ByteArray) ++ ((rd_T33 t272 0).f0)) ((rd_T33 t272 0).f0) ((rd_T33 t272 0).f1) ((rd_T33 t272 0).f2) ((rd_T33 t272 0).f3) ((rd_T33 t272 0).f4) ((rd_T33 t272 0).f5) ((rd_T33 t272 0).f6))) else (none))) else (none))) else (none))) else (none))) else (none))) else (none))) else (none))) else (none)) = some r := H
  have A5 := Aside0.mk A50
  clear A50
  by_cases c6 : 0 < (t272.length : Int)
  rotate_left
  · rw [if_neg c6] at H
    exact absurd H (by simp)
  rw [if_pos c6] at H
  have c6b0 : decide (0 < (t272.length : Int)) = true := decide_eq_true c6
  have c6b1 : decide (0 < t272.length) = true := decide_eq_true (by omega)
  clear c6
  replace H := Option.bind_eq_some_iff.mp H
  obtain ⟨t277, A70, H⟩ := H
  replace H : (if 2 + t277.size ≤ 9223372036854775807 then ((cadencyref05_Digits.f k ((rd_T33 t272 0).f2)).bind fun t278 => (if 2 + t278.size ≤ 9223372036854775807 then ((cadencyref05_Digits.f k ((rd_T33 t272 0).f3)).bind fun t279 => (if 2 + t279.size ≤ 9223372036854775807 then ((cadencyref05_Digits.f k ((rd_T33 t272 0).f4)).bind fun t280 => (if 2 + t280.size ≤ 9223372036854775807 then ((cadencyref05_Digits.f k ((rd_T33 t272 0).f5)).bind fun t281 => (if 2 + t281.size ≤ 9223372036854775807 then ((cadencyref05_Digits.f k ((rd_T33 t272 0).f6)).bind fun t282 => (if 2 + t282.size ≤ 9223372036854775807 then ((some (([(⟨#[99, 61]⟩ : ByteArray) ++ t277, (⟨#[116, 61]⟩ : ByteArray) ++ t278, (⟨#[100, 61]⟩ : ByteArray) ++ t279, (⟨#[106, 61]⟩ : ByteArray) ++ t280, (⟨#[113, 61]⟩ : ByteArray) ++ t281, (⟨#[112, 61]⟩ : ByteArray) ++ t282] : List ByteArray) : List ByteArray)).bind fun y283 => (if 5 + ((rd_T33 t272 0).f0).size ≤ 9223372036854775807 then (if (Go.bits .and .i64 a2 4) = 4 then (if 9 + ((⟨#[116, 97, 115, 107, 32]⟩ : ByteArray) ++ ((rd_T33 t272 0).f0)).size ≤ 9223372036854775807 then (cadencylaw05_TextFree.j0 k a1 a2 t271 y283 ((⟨#[10, 32, 35, 32, 116, 97, 115, 107, 10]⟩ : ByteArray) ++ ((⟨#[116, 97, 115, 107, 32]⟩ : ByteArray) ++ ((rd_T33 t272 0).f0))) ((rd_T33 t272 0).f0) ((rd_T33 t272 0).f1) ((rd_T33 t272 0).f2) ((rd_T33 t272 0).f3) ((rd_T33 t272 0).f4) ((rd_T33 t272 0).f5) ((rd_T33 t272 0).f6)) else (none)) else (cadencylaw05_TextFree.j0 k a1 a2 t271 y283 ((⟨#[116, 97, 115, 107, 32]⟩ : ByteArray) ++ ((rd_T33 t272 0).f0)) ((rd_T33 t272 0).f0) ((rd_T33 t272 0).f1) ((rd_T33 t272 0).f2) ((rd_T33 t272 0).f3) ((rd_T33 t272 0).f4) ((rd_T33 t272 0).f5) ((rd_T33 t272 0).f6))) else (none))) else (none))) else (none))) else (none))) else (none))) else (none))) else (none)) = some r := H
  have A7 := Aside0.mk A70
  clear A70
  by_cases c8 : 2 + t277.size ≤ 9223372036854775807
  rotate_left
  · rw [if_neg c8] at H
    exact absurd H (by simp)
  rw [if_pos c8] at H
  have c8b0 := eq_true c8
  have c8b1 : decide (2 + t277.size ≤ 9223372036854775807) = true := decide_eq_true c8
  try have c8b2 : (9223372036854775807 < 2 + t277.size) = False := eq_false (Nat.not_lt.2 c8)
  replace H := Option.bind_eq_some_iff.mp H
  obtain ⟨t278, A90, H⟩ := H
  replace H : (if 2 + t278.size ≤ 9223372036854775807 then ((cadencyref05_Digits.f k ((rd_T33 t272 0).f3)).bind fun t279 => (if 2 + t279.size ≤ 9223372036854775807 then ((cadencyref05_Digits.f k ((rd_T33 t272 0).f4)).bind fun t280 => (if 2 + t280.size ≤ 9223372036854775807 then ((cadencyref05_Digits.f k ((rd_T33 t272 0).f5)).bind fun t281 => (if 2 + t281.size ≤ 9223372036854775807 then ((cadencyref05_Digits.f k ((rd_T33 t272 0).f6)).bind fun t282 => (if 2 + t282.size ≤ 9223372036854775807 then ((some (([(⟨#[99, 61]⟩ : ByteArray) ++ t277, (⟨#[116, 61]⟩ : ByteArray) ++ t278, (⟨#[100, 61]⟩ : ByteArray) ++ t279, (⟨#[106, 61]⟩ : ByteArray) ++ t280, (⟨#[113, 61]⟩ : ByteArray) ++ t281, (⟨#[112, 61]⟩ : ByteArray) ++ t282] : List ByteArray) : List ByteArray)).bind fun y283 => (if 5 + ((rd_T33 t272 0).f0).size ≤ 9223372036854775807 then (if (Go.bits .and .i64 a2 4) = 4 then (if 9 + ((⟨#[116, 97, 115, 107, 32]⟩ : ByteArray) ++ ((rd_T33 t272 0).f0)).size ≤ 9223372036854775807 then (cadencylaw05_TextFree.j0 k a1 a2 t271 y283 ((⟨#[10, 32, 35, 32, 116, 97, 115, 107, 10]⟩ : ByteArray) ++ ((⟨#[116, 97, 115, 107, 32]⟩ : ByteArray) ++ ((rd_T33 t272 0).f0))) ((rd_T33 t272 0).f0) ((rd_T33 t272 0).f1) ((rd_T33 t272 0).f2) ((rd_T33 t272 0).f3) ((rd_T33 t272 0).f4) ((rd_T33 t272 0).f5) ((rd_T33 t272 0).f6)) else (none)) else (cadencylaw05_TextFree.j0 k a1 a2 t271 y283 ((⟨#[116, 97, 115, 107, 32]⟩ : ByteArray) ++ ((rd_T33 t272 0).f0)) ((rd_T33 t272 0).f0) ((rd_T33 t272 0).f1) ((rd_T33 t272 0).f2) ((rd_T33 t272 0).f3) ((rd_T33 t272 0).f4) ((rd_T33 t272 0).f5) ((rd_T33 t272 0).f6))) else (none))) else (none))) else (none))) else (none))) else (none))) else (none)) = some r := H
  have A9 := Aside0.mk A90
  clear A90
  by_cases c10 : 2 + t278.size ≤ 9223372036854775807
  rotate_left
  · rw [if_neg c10] at H
    exact absurd H (by simp)
  rw [if_pos c10] at H
  have c10b0 := eq_true c10
  have c10b1 : decide (2 + t278.size ≤ 9223372036854775807) = true := decide_eq_true c10
  try have c10b2 : (9223372036854775807 < 2 + t278.size) = False := eq_false (Nat.not_lt.2 c10)
  replace H := Option.bind_eq_some_iff.mp H
  obtain ⟨t279, A110, H⟩ := H
  replace H : (if 2 + t279.size ≤ 9223372036854775807 then ((cadencyref05_Digits.f k ((rd_T33 t272 0).f4)).bind fun t280 => (if 2 + t280.size ≤ 9223372036854775807 then ((cadencyref05_Digits.f k ((rd_T33 t272 0).f5)).bind fun t281 => (if 2 + t281.size ≤ 9223372036854775807 then ((cadencyref05_Digits.f k ((rd_T33 t272 0).f6)).bind fun t282 => (if 2 + t282.size ≤ 9223372036854775807 then ((some (([(⟨#[99, 61]⟩ : ByteArray) ++ t277, (⟨#[116, 61]⟩ : ByteArray) ++ t278, (⟨#[100, 61]⟩ : ByteArray) ++ t279, (⟨#[106, 61]⟩ : ByteArray) ++ t280, (⟨#[113, 61]⟩ : ByteArray) ++ t281, (⟨#[112, 61]⟩ : ByteArray) ++ t282] : List ByteArray) : List ByteArray)).bind fun y283 => (if 5 + ((rd_T33 t272 0).f0).size ≤ 9223372036854775807 then (if (Go.bits .and .i64 a2 4) = 4 then (if 9 + ((⟨#[116, 97, 115, 107, 32]⟩ : ByteArray) ++ ((rd_T33 t272 0).f0)).size ≤ 9223372036854775807 then (cadencylaw05_TextFree.j0 k a1 a2 t271 y283 ((⟨#[10, 32, 35, 32, 116, 97, 115, 107, 10]⟩ : ByteArray) ++ ((⟨#[116, 97, 115, 107, 32]⟩ : ByteArray) ++ ((rd_T33 t272 0).f0))) ((rd_T33 t272 0).f0) ((rd_T33 t272 0).f1) ((rd_T33 t272 0).f2) ((rd_T33 t272 0).f3) ((rd_T33 t272 0).f4) ((rd_T33 t272 0).f5) ((rd_T33 t272 0).f6)) else (none)) else (cadencylaw05_TextFree.j0 k a1 a2 t271 y283 ((⟨#[116, 97, 115, 107, 32]⟩ : ByteArray) ++ ((rd_T33 t272 0).f0)) ((rd_T33 t272 0).f0) ((rd_T33 t272 0).f1) ((rd_T33 t272 0).f2) ((rd_T33 t272 0).f3) ((rd_T33 t272 0).f4) ((rd_T33 t272 0).f5) ((rd_T33 t272 0).f6))) else (none))) else (none))) else (none))) else (none))) else (none)) = some r := H
  have A11 := Aside0.mk A110
  clear A110
  by_cases c12 : 2 + t279.size ≤ 9223372036854775807
  rotate_left
  · rw [if_neg c12] at H
    exact absurd H (by simp)
  rw [if_pos c12] at H
  have c12b0 := eq_true c12
  have c12b1 : decide (2 + t279.size ≤ 9223372036854775807) = true := decide_eq_true c12
  try have c12b2 : (9223372036854775807 < 2 + t279.size) = False := eq_false (Nat.not_lt.2 c12)
  replace H := Option.bind_eq_some_iff.mp H
  obtain ⟨t280, A130, H⟩ := H
  replace H : (if 2 + t280.size ≤ 9223372036854775807 then ((cadencyref05_Digits.f k ((rd_T33 t272 0).f5)).bind fun t281 => (if 2 + t281.size ≤ 9223372036854775807 then ((cadencyref05_Digits.f k ((rd_T33 t272 0).f6)).bind fun t282 => (if 2 + t282.size ≤ 9223372036854775807 then ((some (([(⟨#[99, 61]⟩ : ByteArray) ++ t277, (⟨#[116, 61]⟩ : ByteArray) ++ t278, (⟨#[100, 61]⟩ : ByteArray) ++ t279, (⟨#[106, 61]⟩ : ByteArray) ++ t280, (⟨#[113, 61]⟩ : ByteArray) ++ t281, (⟨#[112, 61]⟩ : ByteArray) ++ t282] : List ByteArray) : List ByteArray)).bind fun y283 => (if 5 + ((rd_T33 t272 0).f0).size ≤ 9223372036854775807 then (if (Go.bits .and .i64 a2 4) = 4 then (if 9 + ((⟨#[116, 97, 115, 107, 32]⟩ : ByteArray) ++ ((rd_T33 t272 0).f0)).size ≤ 9223372036854775807 then (cadencylaw05_TextFree.j0 k a1 a2 t271 y283 ((⟨#[10, 32, 35, 32, 116, 97, 115, 107, 10]⟩ : ByteArray) ++ ((⟨#[116, 97, 115, 107, 32]⟩ : ByteArray) ++ ((rd_T33 t272 0).f0))) ((rd_T33 t272 0).f0) ((rd_T33 t272 0).f1) ((rd_T33 t272 0).f2) ((rd_T33 t272 0).f3) ((rd_T33 t272 0).f4) ((rd_T33 t272 0).f5) ((rd_T33 t272 0).f6)) else (none)) else (cadencylaw05_TextFree.j0 k a1 a2 t271 y283 ((⟨#[116, 97, 115, 107, 32]⟩ : ByteArray) ++ ((rd_T33 t272 0).f0)) ((rd_T33 t272 0).f0) ((rd_T33 t272 0).f1) ((rd_T33 t272 0).f2) ((rd_T33 t272 0).f3) ((rd_T33 t272 0).f4) ((rd_T33 t272 0).f5) ((rd_T33 t272 0).f6))) else (none))) else (none))) else (none))) else (none)) = some r := H
  have A13 := Aside0.mk A130
  clear A130
  by_cases c14 : 2 + t280.size ≤ 9223372036854775807
  rotate_left
  · rw [if_neg c14] at H
    exact absurd H (by simp)
  rw [if_pos c14] at H
  have c14b0 := eq_true c14
  have c14b1 : decide (2 + t280.size ≤ 9223372036854775807) = true := decide_eq_true c14
  try have c14b2 : (9223372036854775807 < 2 + t280.size) = False := eq_false (Nat.not_lt.2 c14)
  replace H := Option.bind_eq_some_iff.mp H
  obtain ⟨t281, A150, H⟩ := H
  replace H : (if 2 + t281.size ≤ 9223372036854775807 then ((cadencyref05_Digits.f k ((rd_T33 t272 0).f6)).bind fun t282 => (if 2 + t282.size ≤ 9223372036854775807 then ((some (([(⟨#[99, 61]⟩ : ByteArray) ++ t277, (⟨#[116, 61]⟩ : ByteArray) ++ t278, (⟨#[100, 61]⟩ : ByteArray) ++ t279, (⟨#[106, 61]⟩ : ByteArray) ++ t280, (⟨#[113, 61]⟩ : ByteArray) ++ t281, (⟨#[112, 61]⟩ : ByteArray) ++ t282] : List ByteArray) : List ByteArray)).bind fun y283 => (if 5 + ((rd_T33 t272 0).f0).size ≤ 9223372036854775807 then (if (Go.bits .and .i64 a2 4) = 4 then (if 9 + ((⟨#[116, 97, 115, 107, 32]⟩ : ByteArray) ++ ((rd_T33 t272 0).f0)).size ≤ 9223372036854775807 then (cadencylaw05_TextFree.j0 k a1 a2 t271 y283 ((⟨#[10, 32, 35, 32, 116, 97, 115, 107, 10]⟩ : ByteArray) ++ ((⟨#[116, 97, 115, 107, 32]⟩ : ByteArray) ++ ((rd_T33 t272 0).f0))) ((rd_T33 t272 0).f0) ((rd_T33 t272 0).f1) ((rd_T33 t272 0).f2) ((rd_T33 t272 0).f3) ((rd_T33 t272 0).f4) ((rd_T33 t272 0).f5) ((rd_T33 t272 0).f6)) else (none)) else (cadencylaw05_TextFree.j0 k a1 a2 t271 y283 ((⟨#[116, 97, 115, 107, 32]⟩ : ByteArray) ++ ((rd_T33 t272 0).f0)) ((rd_T33 t272 0).f0) ((rd_T33 t272 0).f1) ((rd_T33 t272 0).f2) ((rd_T33 t272 0).f3) ((rd_T33 t272 0).f4) ((rd_T33 t272 0).f5) ((rd_T33 t272 0).f6))) else (none))) else (none))) else (none)) = some r := H
  have A15 := Aside0.mk A150
  clear A150
  by_cases c16 : 2 + t281.size ≤ 9223372036854775807
  rotate_left
  · rw [if_neg c16] at H
    exact absurd H (by simp)
  rw [if_pos c16] at H
  have c16b0 := eq_true c16
  have c16b1 : decide (2 + t281.size ≤ 9223372036854775807) = true := decide_eq_true c16
  try have c16b2 : (9223372036854775807 < 2 + t281.size) = False := eq_false (Nat.not_lt.2 c16)
  replace H := Option.bind_eq_some_iff.mp H
  obtain ⟨t282, A170, H⟩ := H
  replace H : (if 2 + t282.size ≤ 9223372036854775807 then ((some (([(⟨#[99, 61]⟩ : ByteArray) ++ t277, (⟨#[116, 61]⟩ : ByteArray) ++ t278, (⟨#[100, 61]⟩ : ByteArray) ++ t279, (⟨#[106, 61]⟩ : ByteArray) ++ t280, (⟨#[113, 61]⟩ : ByteArray) ++ t281, (⟨#[112, 61]⟩ : ByteArray) ++ t282] : List ByteArray) : List ByteArray)).bind fun y283 => (if 5 + ((rd_T33 t272 0).f0).size ≤ 9223372036854775807 then (if (Go.bits .and .i64 a2 4) = 4 then (if 9 + ((⟨#[116, 97, 115, 107, 32]⟩ : ByteArray) ++ ((rd_T33 t272 0).f0)).size ≤ 9223372036854775807 then (cadencylaw05_TextFree.j0 k a1 a2 t271 y283 ((⟨#[10, 32, 35, 32, 116, 97, 115, 107, 10]⟩ : ByteArray) ++ ((⟨#[116, 97, 115, 107, 32]⟩ : ByteArray) ++ ((rd_T33 t272 0).f0))) ((rd_T33 t272 0).f0) ((rd_T33 t272 0).f1) ((rd_T33 t272 0).f2) ((rd_T33 t272 0).f3) ((rd_T33 t272 0).f4) ((rd_T33 t272 0).f5) ((rd_T33 t272 0).f6)) else (none)) else (cadencylaw05_TextFree.j0 k a1 a2 t271 y283 ((⟨#[116, 97, 115, 107, 32]⟩ : ByteArray) ++ ((rd_T33 t272 0).f0)) ((rd_T33 t272 0).f0) ((rd_T33 t272 0).f1) ((rd_T33 t272 0).f2) ((rd_T33 t272 0).f3) ((rd_T33 t272 0).f4) ((rd_T33 t272 0).f5) ((rd_T33 t272 0).f6))) else (none))) else (none)) = some r := H
  have A17 := Aside0.mk A170
  clear A170
  by_cases c18 : 2 + t282.size ≤ 9223372036854775807
  rotate_left
  · rw [if_neg c18] at H
    exact absurd H (by simp)
  rw [if_pos c18] at H
  have c18b0 := eq_true c18
  have c18b1 : decide (2 + t282.size ≤ 9223372036854775807) = true := decide_eq_true c18
  try have c18b2 : (9223372036854775807 < 2 + t282.size) = False := eq_false (Nat.not_lt.2 c18)
  obtain ⟨y283, hy283⟩ : ∃ y_ : List ByteArray, y_ = (([(⟨#[99, 61]⟩ : ByteArray) ++ t277, (⟨#[116, 61]⟩ : ByteArray) ++ t278, (⟨#[100, 61]⟩ : ByteArray) ++ t279, (⟨#[106, 61]⟩ : ByteArray) ++ t280, (⟨#[113, 61]⟩ : ByteArray) ++ t281, (⟨#[112, 61]⟩ : ByteArray) ++ t282] : List ByteArray)) := ⟨_, rfl⟩
  replace H : (if 5 + ((rd_T33 t272 0).f0).size ≤ 9223372036854775807 then (if (Go.bits .and .i64 a2 4) = 4 then (if 9 + ((⟨#[116, 97, 115, 107, 32]⟩ : ByteArray) ++ ((rd_T33 t272 0).f0)).size ≤ 9223372036854775807 then (cadencylaw05_TextFree.j0 k a1 a2 t271 y283 ((⟨#[10, 32, 35, 32, 116, 97, 115, 107, 10]⟩ : ByteArray) ++ ((⟨#[116, 97, 115, 107, 32]⟩ : ByteArray) ++ ((rd_T33 t272 0).f0))) ((rd_T33 t272 0).f0) ((rd_T33 t272 0).f1) ((rd_T33 t272 0).f2) ((rd_T33 t272 0).f3) ((rd_T33 t272 0).f4) ((rd_T33 t272 0).f5) ((rd_T33 t272 0).f6)) else (none)) else (cadencylaw05_TextFree.j0 k a1 a2 t271 y283 ((⟨#[116, 97, 115, 107, 32]⟩ : ByteArray) ++ ((rd_T33 t272 0).f0)) ((rd_T33 t272 0).f0) ((rd_T33 t272 0).f1) ((rd_T33 t272 0).f2) ((rd_T33 t272 0).f3) ((rd_T33 t272 0).f4) ((rd_T33 t272 0).f5) ((rd_T33 t272 0).f6))) else (none)) = some r := by first | (rw [hy283]; with_reducible exact H) | (have H2_ := (Option.bind_some _ _).symm.trans H; rw [hy283]; with_reducible exact H2_) | (have H2_ := (Option.bind_some _ _).symm.trans H; with_reducible exact H2_) | with_reducible exact H | (rw [hy283]; exact H) | exact H
  have Ny283 := Aside0.mk hy283
  clear hy283
  by_cases c19 : 5 + ((rd_T33 t272 0).f0).size ≤ 9223372036854775807
  rotate_left
  · rw [if_neg c19] at H
    exact absurd H (by simp)
  rw [if_pos c19] at H
  have c19b0 := eq_true c19
  have c19b1 : decide (5 + ((rd_T33 t272 0).f0).size ≤ 9223372036854775807) = true := decide_eq_true c19
  try have c19b2 : (9223372036854775807 < 5 + ((rd_T33 t272 0).f0).size) = False := eq_false (Nat.not_lt.2 c19)
  have HC20 := Aside0.mk H
  clear H
  go_enter Try.func4, Try.ntmps4
  try go_wp2_with (first | ((with_reducible refine gate_callee (f := 6) rfl ?_); refine goesL_ (some 16) rfl rfl Try.func6 (by kernel_rfl) rfl #[] rfl (by (try simp only [List.map_toArray, List.map_cons, List.map_nil]); first | done | rfl | (simp only [List.length_drop, List.length_take]; rfl)) ?_; (with_reducible refine (cadencylaw05_awake.calls  t271 _ A4.out).mono ?_); rintro e w21 ⟨rfl, hb⟩; refine ⟨_, rfl, ?_⟩; have n0_ := Aside0.mk (below_step (by repeat (first | (with_reducible first | exact HB.out | apply below_alloc | apply pw_below_drewN | apply below_drew1) | exact HB.out)) hb); clear HB; have HB := n0_; clear n0_; (try clear hb); (try clear hb2); (try clear hk); (try clear hi)) | ((with_reducible refine gate_callee (f := 8) rfl ?_); refine goesL_ (some 18) rfl rfl Try.func8 (by kernel_rfl) rfl #[.slice A0 l0.length c0, .int .i64 1, .int .i64 0] rfl (by (try simp only [List.map_toArray, List.map_cons, List.map_nil]); first | done | rfl | (simp only [List.length_drop, List.length_take]; rfl)) ?_; (with_reducible refine (cadencyref04_Set.calls k _ _ l0 1 0 t272 _ ?side1 ?side2 A5.out).mono ?_); (case side1 => repeat (first | exact (Kd.C_below HR0.out HB.out) | (with_reducible refine Kd.C_alloc ?_ _) | (with_reducible refine Kd.C_drewN ?_ _) | (with_reducible refine Kd.C_drew ?_))); (case side2 => exact HC0.out); rintro e w22 ⟨v273, rfl, ho0, hb⟩; refine ⟨_, rfl, ?_⟩; have n0_ := Aside0.mk (Kd.R_lower ho0 (below_size (by repeat (first | (with_reducible first | exact HB.out | apply below_alloc | apply pw_below_drewN | apply below_drew1) | exact HB.out)))); have n1_ := Aside0.mk (below_step (by repeat (first | (with_reducible first | exact HB.out | apply below_alloc | apply pw_below_drewN | apply below_drew1) | exact HB.out)) hb); clear HB; have HO274 := n0_; have HB := n1_; clear n0_ n1_; (try clear hb); (try clear hb2); (try clear hk); (try clear hi); (try clear ho0); obtain ⟨Ao23, co23, eo23⟩ := Kd.R_slice HO274.out; subst eo23; have p275 : 0 ≤ (0 : Int) := (by omega); have q275 : 0 < (t272.length : Int) := of_decide_eq_true (by first | (with_reducible assumption) | assumption); obtain ⟨ad275, e275, hx275_0, hx275_1, hx275_2, hx275_3, hx275_4, hx275_5, hx275_6⟩ := at_T33 (Kd.R_reads' HO274.out).2.2 0 p275 q275; cases e275; have qi275 : (0 < t272.length) = True := eq_true (by omega); (try rw [show ((0 : Int)).toNat = 0 from rfl] at hx275_0); (try rw [show 0 * 7 = 0 from rfl] at hx275_0); (try rw [Addr.add_zero'] at hx275_0); (try rw [show ((0 : Int)).toNat = 0 from rfl] at hx275_1); (try rw [show 0 * 7 = 0 from rfl] at hx275_1); (try rw [Addr.add_zero'] at hx275_1); (try rw [show ((0 : Int)).toNat = 0 from rfl] at hx275_2); (try rw [show 0 * 7 = 0 from rfl] at hx275_2); (try rw [Addr.add_zero'] at hx275_2); (try rw [show ((0 : Int)).toNat = 0 from rfl] at hx275_3); (try rw [show 0 * 7 = 0 from rfl] at hx275_3); (try rw [Addr.add_zero'] at hx275_3); (try rw [show ((0 : Int)).toNat = 0 from rfl] at hx275_4); (try rw [show 0 * 7 = 0 from rfl] at hx275_4); (try rw [Addr.add_zero'] at hx275_4); (try rw [show ((0 : Int)).toNat = 0 from rfl] at hx275_5); (try rw [show 0 * 7 = 0 from rfl] at hx275_5); (try rw [Addr.add_zero'] at hx275_5); (try rw [show ((0 : Int)).toNat = 0 from rfl] at hx275_6); (try rw [show 0 * 7 = 0 from rfl] at hx275_6); (try rw [Addr.add_zero'] at hx275_6); replace p275 := eq_true p275; replace q275 := eq_true q275) | ((with_reducible refine gate_dst (N := 8) rfl ?_); (try (refine gate_guard (by rfl) ?_; dsimp only)); refine box_event ?hg (N := 8) ?hd (cs := #[.string (⟨#[]⟩ : ByteArray), .int .i64 0, .int .i64 0, .int .i64 0, .int .i64 0, .int .i64 0, .int .i64 0]) (t := 33) ?hr ?_; (case hd => rfl); (case hg => rfl); (case hr => first | (go_simp; done) | (go_simp; rfl)); intro gb276 hg w24 hbox hb; have n0_ := Aside0.mk (Kd.R_below (Kd.R_elderB (by (with_reducible repeat (first | apply Kd.R_alloc | apply Kd.R_drewN | apply Kd.R_drew)); exact HO274.out) gb276 (Nat.le_of_eq hg.symm)) hb); have n1_ := Aside0.mk (below_step (by repeat (first | (with_reducible first | exact HB.out | apply below_alloc | apply pw_below_drewN | apply below_drew1) | exact HB.out)) hb); have n2_ := Aside0.mk (hbox); have n3_ := Aside0.mk ((by rw [hg]; exact (below_size (by repeat (first | (with_reducible first | exact HB.out | apply below_alloc | apply pw_below_drewN | apply below_drew1) | exact HB.out))) : w.heap.size ≤ gb276)); have n4_ := Aside0.mk ((by rw [hg]; exact (below_size (by repeat (first | (with_reducible first | exact HB.out | apply below_alloc | apply pw_below_drewN | apply below_drew1) | exact HB.out))) : w.heap.size ≤ gb276)); clear HO274; clear HB; have HO274 := n0_; have HB := n1_; have BK276 := n2_; have GW276 := n3_; have GE276 := n4_; clear n0_ n1_ n2_ n3_ n4_; clear hb hbox hg; have hcz25_0 : w24.cell? ⟨gb276, 0, none⟩ = some (.string (⟨#[]⟩ : ByteArray)) := (blk_cell BK276.out 0).trans rfl; have hcz25_1 : w24.cell? ⟨gb276, 1, none⟩ = some (.int .i64 0) := (blk_cell BK276.out 1).trans rfl; have hcz25_2 : w24.cell? ⟨gb276, 2, none⟩ = some (.int .i64 0) := (blk_cell BK276.out 2).trans rfl; have hcz25_3 : w24.cell? ⟨gb276, 3, none⟩ = some (.int .i64 0) := (blk_cell BK276.out 3).trans rfl; have hcz25_4 : w24.cell? ⟨gb276, 4, none⟩ = some (.int .i64 0) := (blk_cell BK276.out 4).trans rfl; have hcz25_5 : w24.cell? ⟨gb276, 5, none⟩ = some (.int .i64 0) := (blk_cell BK276.out 5).trans rfl; have hcz25_6 : w24.cell? ⟨gb276, 6, none⟩ = some (.int .i64 0) := (blk_cell BK276.out 6).trans rfl; have hfz25_0 := blk_frozen BK276.out 0; have hfz25_1 := blk_frozen BK276.out 1; have hfz25_2 := blk_frozen BK276.out 2; have hfz25_3 := blk_frozen BK276.out 3; have hfz25_4 := blk_frozen BK276.out 4; have hfz25_5 := blk_frozen BK276.out 5; have hfz25_6 := blk_frozen BK276.out 6))
  have n0_ : Aside0 (Kd.R k33 33 (((((((w24.setCell ⟨gb276, 0, none⟩ (.string ((rd_T33 t272 0).f0))).setCell ⟨gb276, 1, none⟩ (.int .i64 ((rd_T33 t272 0).f1))).setCell ⟨gb276, 2, none⟩ (.int .i64 ((rd_T33 t272 0).f2))).setCell ⟨gb276, 3, none⟩ (.int .i64 ((rd_T33 t272 0).f3))).setCell ⟨gb276, 4, none⟩ (.int .i64 ((rd_T33 t272 0).f4))).setCell ⟨gb276, 5, none⟩ (.int .i64 ((rd_T33 t272 0).f5))).setCell ⟨gb276, 6, none⟩ (.int .i64 ((rd_T33 t272 0).f6))) w.heap.size (fun k_ => k_ ≠ gb276) (.slice (some ad275) t272.length co23) t272) := ⟨by (with_reducible repeat (first | apply Kd.R_alloc | apply Kd.R_drewN | apply Kd.R_drew)); exact Kd.R_mono (Kd.R_far (p := ⟨gb276, 6, none⟩) (Kd.R_far (p := ⟨gb276, 5, none⟩) (Kd.R_far (p := ⟨gb276, 4, none⟩) (Kd.R_far (p := ⟨gb276, 3, none⟩) (Kd.R_far (p := ⟨gb276, 2, none⟩) (Kd.R_far (p := ⟨gb276, 1, none⟩) (Kd.R_far (p := ⟨gb276, 0, none⟩) (Kd.R_mono HO274.out (fun k_ hk => (⟨hk, hk.2⟩ : _ ∧ k_ ≠ gb276))) (fun _ hk => hk.2) (.string ((rd_T33 t272 0).f0))) (fun _ hk => hk.2) (.int .i64 ((rd_T33 t272 0).f1))) (fun _ hk => hk.2) (.int .i64 ((rd_T33 t272 0).f2))) (fun _ hk => hk.2) (.int .i64 ((rd_T33 t272 0).f3))) (fun _ hk => hk.2) (.int .i64 ((rd_T33 t272 0).f4))) (fun _ hk => hk.2) (.int .i64 ((rd_T33 t272 0).f5))) (fun _ hk => hk.2) (.int .i64 ((rd_T33 t272 0).f6))) (fun _ hk => hk.1.2)⟩
  have n1_ : Aside0 ((((((((w24.setCell ⟨gb276, 0, none⟩ (.string ((rd_T33 t272 0).f0))).setCell ⟨gb276, 1, none⟩ (.int .i64 ((rd_T33 t272 0).f1))).setCell ⟨gb276, 2, none⟩ (.int .i64 ((rd_T33 t272 0).f2))).setCell ⟨gb276, 3, none⟩ (.int .i64 ((rd_T33 t272 0).f3))).setCell ⟨gb276, 4, none⟩ (.int .i64 ((rd_T33 t272 0).f4))).setCell ⟨gb276, 5, none⟩ (.int .i64 ((rd_T33 t272 0).f5))).setCell ⟨gb276, 6, none⟩ (.int .i64 ((rd_T33 t272 0).f6))).heap[gb276]? = some (.cells #[.string ((rd_T33 t272 0).f0), .int .i64 ((rd_T33 t272 0).f1), .int .i64 ((rd_T33 t272 0).f2), .int .i64 ((rd_T33 t272 0).f3), .int .i64 ((rd_T33 t272 0).f4), .int .i64 ((rd_T33 t272 0).f5), .int .i64 ((rd_T33 t272 0).f6)] 33 (0, 0))) := ⟨by (with_reducible repeat (first | refine blk_drewN ?_ _ | refine blk_drew ?_ | refine blk_alloc ?_ _)); refine blk_put (cs := #[.string ((rd_T33 t272 0).f0), .int .i64 ((rd_T33 t272 0).f1), .int .i64 ((rd_T33 t272 0).f2), .int .i64 ((rd_T33 t272 0).f3), .int .i64 ((rd_T33 t272 0).f4), .int .i64 ((rd_T33 t272 0).f5), .int .i64 0]) ?_ 6 _ rfl; (with_reducible repeat (first | refine blk_drewN ?_ _ | refine blk_drew ?_ | refine blk_alloc ?_ _)); refine blk_put (cs := #[.string ((rd_T33 t272 0).f0), .int .i64 ((rd_T33 t272 0).f1), .int .i64 ((rd_T33 t272 0).f2), .int .i64 ((rd_T33 t272 0).f3), .int .i64 ((rd_T33 t272 0).f4), .int .i64 0, .int .i64 0]) ?_ 5 _ rfl; (with_reducible repeat (first | refine blk_drewN ?_ _ | refine blk_drew ?_ | refine blk_alloc ?_ _)); refine blk_put (cs := #[.string ((rd_T33 t272 0).f0), .int .i64 ((rd_T33 t272 0).f1), .int .i64 ((rd_T33 t272 0).f2), .int .i64 ((rd_T33 t272 0).f3), .int .i64 0, .int .i64 0, .int .i64 0]) ?_ 4 _ rfl; (with_reducible repeat (first | refine blk_drewN ?_ _ | refine blk_drew ?_ | refine blk_alloc ?_ _)); refine blk_put (cs := #[.string ((rd_T33 t272 0).f0), .int .i64 ((rd_T33 t272 0).f1), .int .i64 ((rd_T33 t272 0).f2), .int .i64 0, .int .i64 0, .int .i64 0, .int .i64 0]) ?_ 3 _ rfl; (with_reducible repeat (first | refine blk_drewN ?_ _ | refine blk_drew ?_ | refine blk_alloc ?_ _)); refine blk_put (cs := #[.string ((rd_T33 t272 0).f0), .int .i64 ((rd_T33 t272 0).f1), .int .i64 0, .int .i64 0, .int .i64 0, .int .i64 0, .int .i64 0]) ?_ 2 _ rfl; (with_reducible repeat (first | refine blk_drewN ?_ _ | refine blk_drew ?_ | refine blk_alloc ?_ _)); refine blk_put (cs := #[.string ((rd_T33 t272 0).f0), .int .i64 0, .int .i64 0, .int .i64 0, .int .i64 0, .int .i64 0, .int .i64 0]) ?_ 1 _ rfl; (with_reducible repeat (first | refine blk_drewN ?_ _ | refine blk_drew ?_ | refine blk_alloc ?_ _)); refine blk_put (cs := #[.string (⟨#[]⟩ : ByteArray), .int .i64 0, .int .i64 0, .int .i64 0, .int .i64 0, .int .i64 0, .int .i64 0]) ?_ 0 _ rfl; (with_reducible repeat (first | refine blk_drewN ?_ _ | refine blk_drew ?_ | refine blk_alloc ?_ _)); exact BK276.out⟩
  have n2_ : Aside0 (Below w.heap.size w (((((((w24.setCell ⟨gb276, 0, none⟩ (.string ((rd_T33 t272 0).f0))).setCell ⟨gb276, 1, none⟩ (.int .i64 ((rd_T33 t272 0).f1))).setCell ⟨gb276, 2, none⟩ (.int .i64 ((rd_T33 t272 0).f2))).setCell ⟨gb276, 3, none⟩ (.int .i64 ((rd_T33 t272 0).f3))).setCell ⟨gb276, 4, none⟩ (.int .i64 ((rd_T33 t272 0).f4))).setCell ⟨gb276, 5, none⟩ (.int .i64 ((rd_T33 t272 0).f5))).setCell ⟨gb276, 6, none⟩ (.int .i64 ((rd_T33 t272 0).f6)))) := ⟨by repeat (first | (with_reducible first | exact HB.out | apply below_alloc | apply pw_below_drewN | apply below_drew1 | refine below_set ?_ GE276.out) | exact HB.out)⟩
  (try clear HO274)
  (try clear BK276)
  (try clear HB)
  generalize (((((((w24.setCell ⟨gb276, 0, none⟩ (.string ((rd_T33 t272 0).f0))).setCell ⟨gb276, 1, none⟩ (.int .i64 ((rd_T33 t272 0).f1))).setCell ⟨gb276, 2, none⟩ (.int .i64 ((rd_T33 t272 0).f2))).setCell ⟨gb276, 3, none⟩ (.int .i64 ((rd_T33 t272 0).f3))).setCell ⟨gb276, 4, none⟩ (.int .i64 ((rd_T33 t272 0).f4))).setCell ⟨gb276, 5, none⟩ (.int .i64 ((rd_T33 t272 0).f5))).setCell ⟨gb276, 6, none⟩ (.int .i64 ((rd_T33 t272 0).f6))) = w26 at n0_ n1_ n2_ ⊢
  have HO274 := n0_
  have BK276 := n1_
  have HB := n2_
  clear n0_ n1_ n2_
  have n0_ := Aside0.mk (Kd.R_drew HO274.out)
  have n1_ := Aside0.mk (blk_drew BK276.out)
  have n2_ := Aside0.mk (below_drew1 HB.out)
  clear HO274
  clear BK276
  clear HB
  have HO274 := n0_
  have BK276 := n1_
  have HB := n2_
  clear n0_ n1_ n2_
  refine start_ (n := 26) (S := fun w' => w'.cell? ⟨gb276, 0, none⟩ = some (.string ((rd_T33 t272 0).f0)) ∧ w'.cell? ⟨gb276, 1, none⟩ = some (.int .i64 ((rd_T33 t272 0).f1)) ∧ w'.cell? ⟨gb276, 2, none⟩ = some (.int .i64 ((rd_T33 t272 0).f2)) ∧ w'.cell? ⟨gb276, 3, none⟩ = some (.int .i64 ((rd_T33 t272 0).f3)) ∧ w'.cell? ⟨gb276, 4, none⟩ = some (.int .i64 ((rd_T33 t272 0).f4)) ∧ w'.cell? ⟨gb276, 5, none⟩ = some (.int .i64 ((rd_T33 t272 0).f5)) ∧ w'.cell? ⟨gb276, 6, none⟩ = some (.int .i64 ((rd_T33 t272 0).f6))) (ds := []) #[false, false, false, false, false, false, false, false, false, false, false, false, false, false, false, false, false, false, false, false, false, false, false, false, false, false] (by kernel_rfl) rfl rfl ⟨(blk_cell BK276.out 0).trans rfl, (blk_cell BK276.out 1).trans rfl, (blk_cell BK276.out 2).trans rfl, (blk_cell BK276.out 3).trans rfl, (blk_cell BK276.out 4).trans rfl, (blk_cell BK276.out 5).trans rfl, (blk_cell BK276.out 6).trans rfl⟩ (fun hHeld => ?_); refine with_tabW cadencylaw05_TextFree.tab3 cadencylaw05_TextFree.bits3 (fun HT_ HW_ => ?_)
  generalize w26.drew = w27 at HO274 BK276 HB hHeld ⊢
  refine pure_ (i := 0) (N := some 21) (v := ?_) (a' := ?_) #[true, false, false, false, false, false, false, false, false, false, false, false, false, false, false, false, false, false, false, false, false, false, false, false, false, false] rfl rfl (any_of HT_.out (by kernel_rfl)) (fun _ _ _ h => h) (Or.inl ⟨by rfl, ?_⟩) ?_ ?_
  rotate_left
  · intro w'
    go_simp
    with_reducible rfl
  rotate_left
  · simp only [Act.put, List.setIfInBounds_toArray, List.set_cons_zero, List.set_cons_succ, i64_w, i32_w]
    rfl
  refine pure_ (i := 4) (N := some 25) (v := ?_) (a' := ?_) #[true, false, false, false, true, false, false, false, false, false, false, false, false, false, false, false, false, false, false, false, false, false, false, false, false, false] rfl rfl (any_of HT_.out (by kernel_rfl)) (fun _ _ _ h => h) (Or.inl ⟨by rfl, ?_⟩) ?_ ?_
  rotate_left
  · intro w'
    go_simp
    with_reducible rfl
  rotate_left
  · simp only [Act.put, List.setIfInBounds_toArray, List.set_cons_zero, List.set_cons_succ, i64_w, i32_w]
    rfl
  refine pure_ (i := 8) (N := some 29) (v := ?_) (a' := ?_) #[true, false, false, false, true, false, false, false, true, false, false, false, false, false, false, false, false, false, false, false, false, false, false, false, false, false] rfl rfl (any_of HT_.out (by kernel_rfl)) (fun _ _ _ h => h) (Or.inl ⟨by rfl, ?_⟩) ?_ ?_
  rotate_left
  · intro w'
    go_simp
    with_reducible rfl
  rotate_left
  · simp only [Act.put, List.setIfInBounds_toArray, List.set_cons_zero, List.set_cons_succ, i64_w, i32_w]
    rfl
  refine pure_ (i := 12) (N := some 33) (v := ?_) (a' := ?_) #[true, false, false, false, true, false, false, false, true, false, false, false, true, false, false, false, false, false, false, false, false, false, false, false, false, false] rfl rfl (any_of HT_.out (by kernel_rfl)) (fun _ _ _ h => h) (Or.inl ⟨by rfl, ?_⟩) ?_ ?_
  rotate_left
  · intro w'
    go_simp
    with_reducible rfl
  rotate_left
  · simp only [Act.put, List.setIfInBounds_toArray, List.set_cons_zero, List.set_cons_succ, i64_w, i32_w]
    rfl
  refine pure_ (i := 16) (N := some 37) (v := ?_) (a' := ?_) #[true, false, false, false, true, false, false, false, true, false, false, false, true, false, false, false, true, false, false, false, false, false, false, false, false, false] rfl rfl (any_of HT_.out (by kernel_rfl)) (fun _ _ _ h => h) (Or.inl ⟨by rfl, ?_⟩) ?_ ?_
  rotate_left
  · intro w'
    go_simp
    with_reducible rfl
  rotate_left
  · simp only [Act.put, List.setIfInBounds_toArray, List.set_cons_zero, List.set_cons_succ, i64_w, i32_w]
    rfl
  refine pure_ (i := 20) (N := some 41) (v := ?_) (a' := ?_) #[true, false, false, false, true, false, false, false, true, false, false, false, true, false, false, false, true, false, false, false, true, false, false, false, false, false] rfl rfl (any_of HT_.out (by kernel_rfl)) (fun _ _ _ h => h) (Or.inl ⟨by rfl, ?_⟩) ?_ ?_
  rotate_left
  · intro w'
    go_simp
    with_reducible rfl
  rotate_left
  · simp only [Act.put, List.setIfInBounds_toArray, List.set_cons_zero, List.set_cons_succ, i64_w, i32_w]
    rfl
  refine take_ (i := 1) (N := some 22) (v := ?_) (a' := ?_) #[true, true, false, false, true, false, false, false, true, false, false, false, true, false, false, false, true, false, false, false, true, false, false, false, false, false] rfl rfl (take_ofW HT_.out HW_.out (by kernel_rfl)) (fun _ _ _ h => h) (Or.inl ⟨by rfl, ?_⟩) hHeld ?_ ?_
  rotate_left
  · rintro w' ⟨s0, s1, s2, s3, s4, s5, s6⟩
    go_simp
    with_reducible rfl
  rotate_left
  · simp only [Act.put, List.setIfInBounds_toArray, List.set_cons_zero, List.set_cons_succ, i64_w, i32_w]
    rfl
  refine take_ (i := 5) (N := some 26) (v := ?_) (a' := ?_) #[true, true, false, false, true, true, false, false, true, false, false, false, true, false, false, false, true, false, false, false, true, false, false, false, false, false] rfl rfl (take_ofW HT_.out HW_.out (by kernel_rfl)) (fun _ _ _ h => h) (Or.inl ⟨by rfl, ?_⟩) hHeld ?_ ?_
  rotate_left
  · rintro w' ⟨s0, s1, s2, s3, s4, s5, s6⟩
    go_simp
    with_reducible rfl
  rotate_left
  · simp only [Act.put, List.setIfInBounds_toArray, List.set_cons_zero, List.set_cons_succ, i64_w, i32_w]
    rfl
  refine take_ (i := 9) (N := some 30) (v := ?_) (a' := ?_) #[true, true, false, false, true, true, false, false, true, true, false, false, true, false, false, false, true, false, false, false, true, false, false, false, false, false] rfl rfl (take_ofW HT_.out HW_.out (by kernel_rfl)) (fun _ _ _ h => h) (Or.inl ⟨by rfl, ?_⟩) hHeld ?_ ?_
  rotate_left
  · rintro w' ⟨s0, s1, s2, s3, s4, s5, s6⟩
    go_simp
    with_reducible rfl
  rotate_left
  · simp only [Act.put, List.setIfInBounds_toArray, List.set_cons_zero, List.set_cons_succ, i64_w, i32_w]
    rfl
  refine take_ (i := 13) (N := some 34) (v := ?_) (a' := ?_) #[true, true, false, false, true, true, false, false, true, true, false, false, true, true, false, false, true, false, false, false, true, false, false, false, false, false] rfl rfl (take_ofW HT_.out HW_.out (by kernel_rfl)) (fun _ _ _ h => h) (Or.inl ⟨by rfl, ?_⟩) hHeld ?_ ?_
  rotate_left
  · rintro w' ⟨s0, s1, s2, s3, s4, s5, s6⟩
    go_simp
    with_reducible rfl
  rotate_left
  · simp only [Act.put, List.setIfInBounds_toArray, List.set_cons_zero, List.set_cons_succ, i64_w, i32_w]
    rfl
  refine take_ (i := 17) (N := some 38) (v := ?_) (a' := ?_) #[true, true, false, false, true, true, false, false, true, true, false, false, true, true, false, false, true, true, false, false, true, false, false, false, false, false] rfl rfl (take_ofW HT_.out HW_.out (by kernel_rfl)) (fun _ _ _ h => h) (Or.inl ⟨by rfl, ?_⟩) hHeld ?_ ?_
  rotate_left
  · rintro w' ⟨s0, s1, s2, s3, s4, s5, s6⟩
    go_simp
    with_reducible rfl
  rotate_left
  · simp only [Act.put, List.setIfInBounds_toArray, List.set_cons_zero, List.set_cons_succ, i64_w, i32_w]
    rfl
  refine take_ (i := 21) (N := some 42) (v := ?_) (a' := ?_) #[true, true, false, false, true, true, false, false, true, true, false, false, true, true, false, false, true, true, false, false, true, true, false, false, false, false] rfl rfl (take_ofW HT_.out HW_.out (by kernel_rfl)) (fun _ _ _ h => h) (Or.inl ⟨by rfl, ?_⟩) hHeld ?_ ?_
  rotate_left
  · rintro w' ⟨s0, s1, s2, s3, s4, s5, s6⟩
    go_simp
    with_reducible rfl
  rotate_left
  · simp only [Act.put, List.setIfInBounds_toArray, List.set_cons_zero, List.set_cons_succ, i64_w, i32_w]
    rfl
  refine one_ (i := 2) (N := some 23) #[true, true, true, false, true, true, false, false, true, true, false, false, true, true, false, false, true, true, false, false, true, true, false, false, false, false] rfl rfl (one_of HT_.out (by kernel_rfl)) (by decide) (fun K hK => ?_)
  refine goes_ Try.func12 (by kernel_rfl) rfl #[.int .i64 ((rd_T33 t272 0).f1)] (by rfl) rfl rfl (by (try simp only [List.map_toArray, List.map_cons, List.map_nil]); first | done | rfl | (simp only [List.length_drop, List.length_take]; rfl)) ?_
  with_reducible refine (cadencyref05_Digits.calls k ((rd_T33 t272 0).f1) t277 _ A7.out).mono ?_
  rintro e w28 ⟨rfl, hb⟩
  refine ⟨_, rfl, ?_⟩
  have n0_ := Aside0.mk (Kd.R_below (by (with_reducible repeat (first | apply Kd.R_alloc | apply Kd.R_drewN | apply Kd.R_drew)); exact HO274.out) hb)
  have n1_ := Aside0.mk (blk_below (g := gb276) (o := .cells #[.string ((rd_T33 t272 0).f0), .int .i64 ((rd_T33 t272 0).f1), .int .i64 ((rd_T33 t272 0).f2), .int .i64 ((rd_T33 t272 0).f3), .int .i64 ((rd_T33 t272 0).f4), .int .i64 ((rd_T33 t272 0).f5), .int .i64 ((rd_T33 t272 0).f6)] 33 (0, 0)) (by (with_reducible repeat (first | refine blk_drewN ?_ _ | refine blk_drew ?_ | refine blk_alloc ?_ _)); exact BK276.out) hb)
  have n2_ := Aside0.mk (below_step (by repeat (first | (with_reducible first | exact HB.out | apply below_alloc | apply pw_below_drewN | apply below_drew1 | refine below_set ?_ GE276.out) | exact HB.out)) hb)
  clear HO274
  clear BK276
  clear HB
  have HO274 := n0_
  have BK276 := n1_
  have HB := n2_
  clear n0_ n1_ n2_
  (try clear hb)
  (try clear hb2)
  (try clear hk)
  (try clear hi)
  refine hK.out _ _ ⟨(blk_cell BK276.out 0).trans rfl, (blk_cell BK276.out 1).trans rfl, (blk_cell BK276.out 2).trans rfl, (blk_cell BK276.out 3).trans rfl, (blk_cell BK276.out 4).trans rfl, (blk_cell BK276.out 5).trans rfl, (blk_cell BK276.out 6).trans rfl⟩ (fun hHeld => ?_)
  clear hK K
  refine norm_ (a' := ?_) ?_ ?_
  rotate_left
  · show Act.put _ (some 23) _ = _
    simp only [Act.put, List.setIfInBounds_toArray, List.set_cons_zero, List.set_cons_succ, i64_w, i32_w]
    rfl
  refine pure_ (i := 3) (N := some 24) (v := ?_) (a' := ?_) #[true, true, true, true, true, true, false, false, true, true, false, false, true, true, false, false, true, true, false, false, true, true, false, false, false, false] rfl rfl (any_of HT_.out (by kernel_rfl)) (fun _ _ _ h => h) (Or.inl ⟨by rfl, ?_⟩) ?_ ?_
  rotate_left
  · intro w'
    go_simp
    with_reducible rfl
  rotate_left
  · simp only [Act.put, List.setIfInBounds_toArray, List.set_cons_zero, List.set_cons_succ, i64_w, i32_w]
    rfl
  refine one_ (i := 6) (N := some 27) #[true, true, true, true, true, true, true, false, true, true, false, false, true, true, false, false, true, true, false, false, true, true, false, false, false, false] rfl rfl (one_of HT_.out (by kernel_rfl)) (by decide) (fun K hK => ?_)
  refine goes_ Try.func12 (by kernel_rfl) rfl #[.int .i64 ((rd_T33 t272 0).f2)] (by rfl) rfl rfl (by (try simp only [List.map_toArray, List.map_cons, List.map_nil]); first | done | rfl | (simp only [List.length_drop, List.length_take]; rfl)) ?_
  with_reducible refine (cadencyref05_Digits.calls k ((rd_T33 t272 0).f2) t278 _ A9.out).mono ?_
  rintro e w29 ⟨rfl, hb⟩
  refine ⟨_, rfl, ?_⟩
  have n0_ := Aside0.mk (Kd.R_below (by (with_reducible repeat (first | apply Kd.R_alloc | apply Kd.R_drewN | apply Kd.R_drew)); exact HO274.out) hb)
  have n1_ := Aside0.mk (blk_below (g := gb276) (o := .cells #[.string ((rd_T33 t272 0).f0), .int .i64 ((rd_T33 t272 0).f1), .int .i64 ((rd_T33 t272 0).f2), .int .i64 ((rd_T33 t272 0).f3), .int .i64 ((rd_T33 t272 0).f4), .int .i64 ((rd_T33 t272 0).f5), .int .i64 ((rd_T33 t272 0).f6)] 33 (0, 0)) (by (with_reducible repeat (first | refine blk_drewN ?_ _ | refine blk_drew ?_ | refine blk_alloc ?_ _)); exact BK276.out) hb)
  have n2_ := Aside0.mk (below_step (by repeat (first | (with_reducible first | exact HB.out | apply below_alloc | apply pw_below_drewN | apply below_drew1 | refine below_set ?_ GE276.out) | exact HB.out)) hb)
  clear HO274
  clear BK276
  clear HB
  have HO274 := n0_
  have BK276 := n1_
  have HB := n2_
  clear n0_ n1_ n2_
  (try clear hb)
  (try clear hb2)
  (try clear hk)
  (try clear hi)
  refine hK.out _ _ ⟨(blk_cell BK276.out 0).trans rfl, (blk_cell BK276.out 1).trans rfl, (blk_cell BK276.out 2).trans rfl, (blk_cell BK276.out 3).trans rfl, (blk_cell BK276.out 4).trans rfl, (blk_cell BK276.out 5).trans rfl, (blk_cell BK276.out 6).trans rfl⟩ (fun hHeld => ?_)
  clear hK K
  refine norm_ (a' := ?_) ?_ ?_
  rotate_left
  · show Act.put _ (some 27) _ = _
    simp only [Act.put, List.setIfInBounds_toArray, List.set_cons_zero, List.set_cons_succ, i64_w, i32_w]
    rfl
  refine pure_ (i := 7) (N := some 28) (v := ?_) (a' := ?_) #[true, true, true, true, true, true, true, true, true, true, false, false, true, true, false, false, true, true, false, false, true, true, false, false, false, false] rfl rfl (any_of HT_.out (by kernel_rfl)) (fun _ _ _ h => h) (Or.inl ⟨by rfl, ?_⟩) ?_ ?_
  rotate_left
  · intro w'
    go_simp
    with_reducible rfl
  rotate_left
  · simp only [Act.put, List.setIfInBounds_toArray, List.set_cons_zero, List.set_cons_succ, i64_w, i32_w]
    rfl
  refine one_ (i := 10) (N := some 31) #[true, true, true, true, true, true, true, true, true, true, true, false, true, true, false, false, true, true, false, false, true, true, false, false, false, false] rfl rfl (one_of HT_.out (by kernel_rfl)) (by decide) (fun K hK => ?_)
  refine goes_ Try.func12 (by kernel_rfl) rfl #[.int .i64 ((rd_T33 t272 0).f3)] (by rfl) rfl rfl (by (try simp only [List.map_toArray, List.map_cons, List.map_nil]); first | done | rfl | (simp only [List.length_drop, List.length_take]; rfl)) ?_
  with_reducible refine (cadencyref05_Digits.calls k ((rd_T33 t272 0).f3) t279 _ A11.out).mono ?_
  rintro e w30 ⟨rfl, hb⟩
  refine ⟨_, rfl, ?_⟩
  have n0_ := Aside0.mk (Kd.R_below (by (with_reducible repeat (first | apply Kd.R_alloc | apply Kd.R_drewN | apply Kd.R_drew)); exact HO274.out) hb)
  have n1_ := Aside0.mk (blk_below (g := gb276) (o := .cells #[.string ((rd_T33 t272 0).f0), .int .i64 ((rd_T33 t272 0).f1), .int .i64 ((rd_T33 t272 0).f2), .int .i64 ((rd_T33 t272 0).f3), .int .i64 ((rd_T33 t272 0).f4), .int .i64 ((rd_T33 t272 0).f5), .int .i64 ((rd_T33 t272 0).f6)] 33 (0, 0)) (by (with_reducible repeat (first | refine blk_drewN ?_ _ | refine blk_drew ?_ | refine blk_alloc ?_ _)); exact BK276.out) hb)
  have n2_ := Aside0.mk (below_step (by repeat (first | (with_reducible first | exact HB.out | apply below_alloc | apply pw_below_drewN | apply below_drew1 | refine below_set ?_ GE276.out) | exact HB.out)) hb)
  clear HO274
  clear BK276
  clear HB
  have HO274 := n0_
  have BK276 := n1_
  have HB := n2_
  clear n0_ n1_ n2_
  (try clear hb)
  (try clear hb2)
  (try clear hk)
  (try clear hi)
  refine hK.out _ _ ⟨(blk_cell BK276.out 0).trans rfl, (blk_cell BK276.out 1).trans rfl, (blk_cell BK276.out 2).trans rfl, (blk_cell BK276.out 3).trans rfl, (blk_cell BK276.out 4).trans rfl, (blk_cell BK276.out 5).trans rfl, (blk_cell BK276.out 6).trans rfl⟩ (fun hHeld => ?_)
  clear hK K
  refine norm_ (a' := ?_) ?_ ?_
  rotate_left
  · show Act.put _ (some 31) _ = _
    simp only [Act.put, List.setIfInBounds_toArray, List.set_cons_zero, List.set_cons_succ, i64_w, i32_w]
    rfl
  refine pure_ (i := 11) (N := some 32) (v := ?_) (a' := ?_) #[true, true, true, true, true, true, true, true, true, true, true, true, true, true, false, false, true, true, false, false, true, true, false, false, false, false] rfl rfl (any_of HT_.out (by kernel_rfl)) (fun _ _ _ h => h) (Or.inl ⟨by rfl, ?_⟩) ?_ ?_
  rotate_left
  · intro w'
    go_simp
    with_reducible rfl
  rotate_left
  · simp only [Act.put, List.setIfInBounds_toArray, List.set_cons_zero, List.set_cons_succ, i64_w, i32_w]
    rfl
  refine one_ (i := 14) (N := some 35) #[true, true, true, true, true, true, true, true, true, true, true, true, true, true, true, false, true, true, false, false, true, true, false, false, false, false] rfl rfl (one_of HT_.out (by kernel_rfl)) (by decide) (fun K hK => ?_)
  refine goes_ Try.func12 (by kernel_rfl) rfl #[.int .i64 ((rd_T33 t272 0).f4)] (by rfl) rfl rfl (by (try simp only [List.map_toArray, List.map_cons, List.map_nil]); first | done | rfl | (simp only [List.length_drop, List.length_take]; rfl)) ?_
  with_reducible refine (cadencyref05_Digits.calls k ((rd_T33 t272 0).f4) t280 _ A13.out).mono ?_
  rintro e w31 ⟨rfl, hb⟩
  refine ⟨_, rfl, ?_⟩
  have n0_ := Aside0.mk (Kd.R_below (by (with_reducible repeat (first | apply Kd.R_alloc | apply Kd.R_drewN | apply Kd.R_drew)); exact HO274.out) hb)
  have n1_ := Aside0.mk (blk_below (g := gb276) (o := .cells #[.string ((rd_T33 t272 0).f0), .int .i64 ((rd_T33 t272 0).f1), .int .i64 ((rd_T33 t272 0).f2), .int .i64 ((rd_T33 t272 0).f3), .int .i64 ((rd_T33 t272 0).f4), .int .i64 ((rd_T33 t272 0).f5), .int .i64 ((rd_T33 t272 0).f6)] 33 (0, 0)) (by (with_reducible repeat (first | refine blk_drewN ?_ _ | refine blk_drew ?_ | refine blk_alloc ?_ _)); exact BK276.out) hb)
  have n2_ := Aside0.mk (below_step (by repeat (first | (with_reducible first | exact HB.out | apply below_alloc | apply pw_below_drewN | apply below_drew1 | refine below_set ?_ GE276.out) | exact HB.out)) hb)
  clear HO274
  clear BK276
  clear HB
  have HO274 := n0_
  have BK276 := n1_
  have HB := n2_
  clear n0_ n1_ n2_
  (try clear hb)
  (try clear hb2)
  (try clear hk)
  (try clear hi)
  refine hK.out _ _ ⟨(blk_cell BK276.out 0).trans rfl, (blk_cell BK276.out 1).trans rfl, (blk_cell BK276.out 2).trans rfl, (blk_cell BK276.out 3).trans rfl, (blk_cell BK276.out 4).trans rfl, (blk_cell BK276.out 5).trans rfl, (blk_cell BK276.out 6).trans rfl⟩ (fun hHeld => ?_)
  clear hK K
  refine norm_ (a' := ?_) ?_ ?_
  rotate_left
  · show Act.put _ (some 35) _ = _
    simp only [Act.put, List.setIfInBounds_toArray, List.set_cons_zero, List.set_cons_succ, i64_w, i32_w]
    rfl
  refine pure_ (i := 15) (N := some 36) (v := ?_) (a' := ?_) #[true, true, true, true, true, true, true, true, true, true, true, true, true, true, true, true, true, true, false, false, true, true, false, false, false, false] rfl rfl (any_of HT_.out (by kernel_rfl)) (fun _ _ _ h => h) (Or.inl ⟨by rfl, ?_⟩) ?_ ?_
  rotate_left
  · intro w'
    go_simp
    with_reducible rfl
  rotate_left
  · simp only [Act.put, List.setIfInBounds_toArray, List.set_cons_zero, List.set_cons_succ, i64_w, i32_w]
    rfl
  refine one_ (i := 18) (N := some 39) #[true, true, true, true, true, true, true, true, true, true, true, true, true, true, true, true, true, true, true, false, true, true, false, false, false, false] rfl rfl (one_of HT_.out (by kernel_rfl)) (by decide) (fun K hK => ?_)
  refine goes_ Try.func12 (by kernel_rfl) rfl #[.int .i64 ((rd_T33 t272 0).f5)] (by rfl) rfl rfl (by (try simp only [List.map_toArray, List.map_cons, List.map_nil]); first | done | rfl | (simp only [List.length_drop, List.length_take]; rfl)) ?_
  with_reducible refine (cadencyref05_Digits.calls k ((rd_T33 t272 0).f5) t281 _ A15.out).mono ?_
  rintro e w32 ⟨rfl, hb⟩
  refine ⟨_, rfl, ?_⟩
  have n0_ := Aside0.mk (Kd.R_below (by (with_reducible repeat (first | apply Kd.R_alloc | apply Kd.R_drewN | apply Kd.R_drew)); exact HO274.out) hb)
  have n1_ := Aside0.mk (blk_below (g := gb276) (o := .cells #[.string ((rd_T33 t272 0).f0), .int .i64 ((rd_T33 t272 0).f1), .int .i64 ((rd_T33 t272 0).f2), .int .i64 ((rd_T33 t272 0).f3), .int .i64 ((rd_T33 t272 0).f4), .int .i64 ((rd_T33 t272 0).f5), .int .i64 ((rd_T33 t272 0).f6)] 33 (0, 0)) (by (with_reducible repeat (first | refine blk_drewN ?_ _ | refine blk_drew ?_ | refine blk_alloc ?_ _)); exact BK276.out) hb)
  have n2_ := Aside0.mk (below_step (by repeat (first | (with_reducible first | exact HB.out | apply below_alloc | apply pw_below_drewN | apply below_drew1 | refine below_set ?_ GE276.out) | exact HB.out)) hb)
  clear HO274
  clear BK276
  clear HB
  have HO274 := n0_
  have BK276 := n1_
  have HB := n2_
  clear n0_ n1_ n2_
  (try clear hb)
  (try clear hb2)
  (try clear hk)
  (try clear hi)
  refine hK.out _ _ ⟨(blk_cell BK276.out 0).trans rfl, (blk_cell BK276.out 1).trans rfl, (blk_cell BK276.out 2).trans rfl, (blk_cell BK276.out 3).trans rfl, (blk_cell BK276.out 4).trans rfl, (blk_cell BK276.out 5).trans rfl, (blk_cell BK276.out 6).trans rfl⟩ (fun hHeld => ?_)
  clear hK K
  refine norm_ (a' := ?_) ?_ ?_
  rotate_left
  · show Act.put _ (some 39) _ = _
    simp only [Act.put, List.setIfInBounds_toArray, List.set_cons_zero, List.set_cons_succ, i64_w, i32_w]
    rfl
  refine pure_ (i := 19) (N := some 40) (v := ?_) (a' := ?_) #[true, true, true, true, true, true, true, true, true, true, true, true, true, true, true, true, true, true, true, true, true, true, false, false, false, false] rfl rfl (any_of HT_.out (by kernel_rfl)) (fun _ _ _ h => h) (Or.inl ⟨by rfl, ?_⟩) ?_ ?_
  rotate_left
  · intro w'
    go_simp
    with_reducible rfl
  rotate_left
  · simp only [Act.put, List.setIfInBounds_toArray, List.set_cons_zero, List.set_cons_succ, i64_w, i32_w]
    rfl
  refine one_ (i := 22) (N := some 43) #[true, true, true, true, true, true, true, true, true, true, true, true, true, true, true, true, true, true, true, true, true, true, true, false, false, false] rfl rfl (one_of HT_.out (by kernel_rfl)) (by decide) (fun K hK => ?_)
  refine goes_ Try.func12 (by kernel_rfl) rfl #[.int .i64 ((rd_T33 t272 0).f6)] (by rfl) rfl rfl (by (try simp only [List.map_toArray, List.map_cons, List.map_nil]); first | done | rfl | (simp only [List.length_drop, List.length_take]; rfl)) ?_
  with_reducible refine (cadencyref05_Digits.calls k ((rd_T33 t272 0).f6) t282 _ A17.out).mono ?_
  rintro e w33 ⟨rfl, hb⟩
  refine ⟨_, rfl, ?_⟩
  have n0_ := Aside0.mk (Kd.R_below (by (with_reducible repeat (first | apply Kd.R_alloc | apply Kd.R_drewN | apply Kd.R_drew)); exact HO274.out) hb)
  have n1_ := Aside0.mk (blk_below (g := gb276) (o := .cells #[.string ((rd_T33 t272 0).f0), .int .i64 ((rd_T33 t272 0).f1), .int .i64 ((rd_T33 t272 0).f2), .int .i64 ((rd_T33 t272 0).f3), .int .i64 ((rd_T33 t272 0).f4), .int .i64 ((rd_T33 t272 0).f5), .int .i64 ((rd_T33 t272 0).f6)] 33 (0, 0)) (by (with_reducible repeat (first | refine blk_drewN ?_ _ | refine blk_drew ?_ | refine blk_alloc ?_ _)); exact BK276.out) hb)
  have n2_ := Aside0.mk (below_step (by repeat (first | (with_reducible first | exact HB.out | apply below_alloc | apply pw_below_drewN | apply below_drew1 | refine below_set ?_ GE276.out) | exact HB.out)) hb)
  clear HO274
  clear BK276
  clear HB
  have HO274 := n0_
  have BK276 := n1_
  have HB := n2_
  clear n0_ n1_ n2_
  (try clear hb)
  (try clear hb2)
  (try clear hk)
  (try clear hi)
  refine hK.out _ _ ⟨(blk_cell BK276.out 0).trans rfl, (blk_cell BK276.out 1).trans rfl, (blk_cell BK276.out 2).trans rfl, (blk_cell BK276.out 3).trans rfl, (blk_cell BK276.out 4).trans rfl, (blk_cell BK276.out 5).trans rfl, (blk_cell BK276.out 6).trans rfl⟩ (fun hHeld => ?_)
  clear hK K
  refine norm_ (a' := ?_) ?_ ?_
  rotate_left
  · show Act.put _ (some 43) _ = _
    simp only [Act.put, List.setIfInBounds_toArray, List.set_cons_zero, List.set_cons_succ, i64_w, i32_w]
    rfl
  refine pure_ (i := 23) (N := some 44) (v := ?_) (a' := ?_) #[true, true, true, true, true, true, true, true, true, true, true, true, true, true, true, true, true, true, true, true, true, true, true, true, false, false] rfl rfl (any_of HT_.out (by kernel_rfl)) (fun _ _ _ h => h) (Or.inl ⟨by rfl, ?_⟩) ?_ ?_
  rotate_left
  · intro w'
    go_simp
    with_reducible rfl
  rotate_left
  · simp only [Act.put, List.setIfInBounds_toArray, List.set_cons_zero, List.set_cons_succ, i64_w, i32_w]
    rfl
  refine one_ (i := 24) (N := some 45) #[true, true, true, true, true, true, true, true, true, true, true, true, true, true, true, true, true, true, true, true, true, true, true, true, true, false] rfl rfl (one_of HT_.out (by kernel_rfl)) (by decide) (fun K hK => ?_)
  refine Kd.R_lit_step Kd.string _ 9 ?hg (N := 45) ?hd (xs := ([(⟨#[99, 61]⟩ : ByteArray) ++ t277, (⟨#[116, 61]⟩ : ByteArray) ++ t278, (⟨#[100, 61]⟩ : ByteArray) ++ t279, (⟨#[106, 61]⟩ : ByteArray) ++ t280, (⟨#[113, 61]⟩ : ByteArray) ++ t281, (⟨#[112, 61]⟩ : ByteArray) ++ t282] : List ByteArray)) (inner := [.string ((⟨#[99, 61]⟩ : ByteArray) ++ t277), .string ((⟨#[116, 61]⟩ : ByteArray) ++ t278), .string ((⟨#[100, 61]⟩ : ByteArray) ++ t279), .string ((⟨#[106, 61]⟩ : ByteArray) ++ t280), .string ((⟨#[113, 61]⟩ : ByteArray) ++ t281), .string ((⟨#[112, 61]⟩ : ByteArray) ++ t282)]) (ok := fun _ => True) (okp := fun _ => True) ?hr ?hp (fun _ hk => hk) trivial (Below.refl _ _) (Nat.le_refl _) (by simp) ?_; (case hd => rfl); (case hg => rfl); (case hr => first | (go_simp; done) | (go_simp; rfl)); (case hp => exact (Reps.one (show Kd.M Kd.string _ _ _ ((⟨#[99, 61]⟩ : ByteArray) ++ t277) [.string ((⟨#[99, 61]⟩ : ByteArray) ++ t277)] from rfl) (Reps.one (show Kd.M Kd.string _ _ _ ((⟨#[116, 61]⟩ : ByteArray) ++ t278) [.string ((⟨#[116, 61]⟩ : ByteArray) ++ t278)] from rfl) (Reps.one (show Kd.M Kd.string _ _ _ ((⟨#[100, 61]⟩ : ByteArray) ++ t279) [.string ((⟨#[100, 61]⟩ : ByteArray) ++ t279)] from rfl) (Reps.one (show Kd.M Kd.string _ _ _ ((⟨#[106, 61]⟩ : ByteArray) ++ t280) [.string ((⟨#[106, 61]⟩ : ByteArray) ++ t280)] from rfl) (Reps.one (show Kd.M Kd.string _ _ _ ((⟨#[113, 61]⟩ : ByteArray) ++ t281) [.string ((⟨#[113, 61]⟩ : ByteArray) ++ t281)] from rfl) (Reps.one (show Kd.M Kd.string _ _ _ ((⟨#[112, 61]⟩ : ByteArray) ++ t282) [.string ((⟨#[112, 61]⟩ : ByteArray) ++ t282)] from rfl) (Reps.none _ _))))))))
  intro v284 w34 ho35 hb hg_ hnew_
  clear hg_ hnew_
  (first | rw [← Ny283.out] at ho35 | (simp only [Int.reduceToNat] at ho35; rw [← Ny283.out] at ho35))
  have n0_ := Aside0.mk (Kd.R_below (by (with_reducible repeat (first | apply Kd.R_alloc | apply Kd.R_drewN | apply Kd.R_drew)); exact HO274.out) hb)
  have n1_ := Aside0.mk (Kd.R_lower ho35 (below_size (by repeat (first | (with_reducible first | exact HB.out | apply below_alloc | apply pw_below_drewN | apply below_drew1 | refine below_set ?_ GE276.out) | exact HB.out))))
  have n2_ := Aside0.mk (blk_below (g := gb276) (o := .cells #[.string ((rd_T33 t272 0).f0), .int .i64 ((rd_T33 t272 0).f1), .int .i64 ((rd_T33 t272 0).f2), .int .i64 ((rd_T33 t272 0).f3), .int .i64 ((rd_T33 t272 0).f4), .int .i64 ((rd_T33 t272 0).f5), .int .i64 ((rd_T33 t272 0).f6)] 33 (0, 0)) (by (with_reducible repeat (first | refine blk_drewN ?_ _ | refine blk_drew ?_ | refine blk_alloc ?_ _)); exact BK276.out) hb)
  have n3_ := Aside0.mk (below_step (by repeat (first | (with_reducible first | exact HB.out | apply below_alloc | apply pw_below_drewN | apply below_drew1 | refine below_set ?_ GE276.out) | exact HB.out)) hb)
  clear HO274
  clear BK276
  clear HB
  have HO274 := n0_
  have HO285 := n1_
  have BK276 := n2_
  have HB := n3_
  clear n0_ n1_ n2_ n3_
  clear hb ho35
  refine hK.out _ _ ⟨(blk_cell BK276.out 0).trans rfl, (blk_cell BK276.out 1).trans rfl, (blk_cell BK276.out 2).trans rfl, (blk_cell BK276.out 3).trans rfl, (blk_cell BK276.out 4).trans rfl, (blk_cell BK276.out 5).trans rfl, (blk_cell BK276.out 6).trans rfl⟩ (fun hHeld => ?_)
  clear hK K
  refine norm_ (a' := ?_) ?_ ?_
  rotate_left
  · show Act.put _ (some 45) _ = _
    simp only [Act.put, List.setIfInBounds_toArray, List.set_cons_zero, List.set_cons_succ, i64_w, i32_w]
    rfl
  refine pure_ (i := 25) (N := some 9) (v := ?_) (a' := ?_) #[true, true, true, true, true, true, true, true, true, true, true, true, true, true, true, true, true, true, true, true, true, true, true, true, true, true] rfl rfl (any_of HT_.out (by kernel_rfl)) (fun _ _ _ h => h) (Or.inl ⟨by rfl, ?_⟩) ?_ ?_
  rotate_left
  · intro w'
    go_simp
    with_reducible rfl
  rotate_left
  · simp only [Act.put, List.setIfInBounds_toArray, List.set_cons_zero, List.set_cons_succ, i64_w, i32_w]
    rfl
  refine done_ (done_of HT_.out (by kernel_rfl)) ?_
  have hcz36_0 : w34.cell? ⟨gb276, 0, none⟩ = some (.string ((rd_T33 t272 0).f0)) := (blk_cell BK276.out 0).trans rfl
  have hcz36_1 : w34.cell? ⟨gb276, 1, none⟩ = some (.int .i64 ((rd_T33 t272 0).f1)) := (blk_cell BK276.out 1).trans rfl
  have hcz36_2 : w34.cell? ⟨gb276, 2, none⟩ = some (.int .i64 ((rd_T33 t272 0).f2)) := (blk_cell BK276.out 2).trans rfl
  have hcz36_3 : w34.cell? ⟨gb276, 3, none⟩ = some (.int .i64 ((rd_T33 t272 0).f3)) := (blk_cell BK276.out 3).trans rfl
  have hcz36_4 : w34.cell? ⟨gb276, 4, none⟩ = some (.int .i64 ((rd_T33 t272 0).f4)) := (blk_cell BK276.out 4).trans rfl
  have hcz36_5 : w34.cell? ⟨gb276, 5, none⟩ = some (.int .i64 ((rd_T33 t272 0).f5)) := (blk_cell BK276.out 5).trans rfl
  have hcz36_6 : w34.cell? ⟨gb276, 6, none⟩ = some (.int .i64 ((rd_T33 t272 0).f6)) := (blk_cell BK276.out 6).trans rfl
  have hfz36_0 := blk_frozen BK276.out 0
  have hfz36_1 := blk_frozen BK276.out 1
  have hfz36_2 := blk_frozen BK276.out 2
  have hfz36_3 := blk_frozen BK276.out 3
  have hfz36_4 := blk_frozen BK276.out 4
  have hfz36_5 := blk_frozen BK276.out 5
  have hfz36_6 := blk_frozen BK276.out 6
  go_upto_if 51 with (fail)
  go_cut [10] (fun v10 wc => ∃ (kq : Nat) (x10_19 : ByteArray), v10 = .string x10_19 ∧ Aside0 (cadencylaw05_TextFree.j0 kq a1 a2 t271 y283 x10_19 ((rd_T33 t272 0).f0) ((rd_T33 t272 0).f1) ((rd_T33 t272 0).f2) ((rd_T33 t272 0).f3) ((rd_T33 t272 0).f4) ((rd_T33 t272 0).f5) ((rd_T33 t272 0).f6) = some r) ∧ Aside0 (kq ≤ k) ∧ Aside0 (Kd.R Kd.string 9 wc w.heap.size (fun _ => True) v284 y283) ∧ Aside0 (wc.heap[gb276]? = some (.cells #[.string ((rd_T33 t272 0).f0), .int .i64 ((rd_T33 t272 0).f1), .int .i64 ((rd_T33 t272 0).f2), .int .i64 ((rd_T33 t272 0).f3), .int .i64 ((rd_T33 t272 0).f4), .int .i64 ((rd_T33 t272 0).f5), .int .i64 ((rd_T33 t272 0).f6)] 33 (0, 0))) ∧ Aside0 (Below w.heap.size w wc))
  case first =>
    have H := HC20.out
    clear HC20
    by_cases c37 : (Go.bits .and .i64 a2 4) = 4
    · rw [if_pos c37] at H
      have c37b0 : ((Go.bits .and .i64 a2 4) == 4) = true := beq_iff_eq.mpr c37
      have c37b1 : ((Go.bits .and .i64 a2 4) != 4) = false := bne_eq_false_iff_eq.mpr c37
      clear c37
      (first | rw [c37b0] | (simp only [i64_w, i32_w]; rw [c37b0]) | skip)
      by_cases c38 : 9 + ((⟨#[116, 97, 115, 107, 32]⟩ : ByteArray) ++ ((rd_T33 t272 0).f0)).size ≤ 9223372036854775807
      rotate_left
      · rw [if_neg c38] at H
        exact absurd H (by simp)
      rw [if_pos c38] at H
      have c38b0 := eq_true c38
      have c38b1 : decide (9 + ((⟨#[116, 97, 115, 107, 32]⟩ : ByteArray) ++ ((rd_T33 t272 0).f0)).size ≤ 9223372036854775807) = true := decide_eq_true c38
      try have c38b2 : (9223372036854775807 < 9 + ((⟨#[116, 97, 115, 107, 32]⟩ : ByteArray) ++ ((rd_T33 t272 0).f0)).size) = False := eq_false (Nat.not_lt.2 c38)
      try have c38b7 := c38b2
      try simp only [ByteArray.size_append, show ((⟨#[116, 97, 115, 107, 32]⟩ : ByteArray)).size = 5 from rfl] at c38b7
      have H' := Aside0.mk H
      clear H
      go_wp2
      go_meet
      case rel => exact ⟨_, ((⟨#[10, 32, 35, 32, 116, 97, 115, 107, 10]⟩ : ByteArray) ++ ((⟨#[116, 97, 115, 107, 32]⟩ : ByteArray) ++ ((rd_T33 t272 0).f0))), (by first | rfl | (simp; done) | (simp [*]; done)), H', ⟨by first | omega | exact Nat.le_refl _⟩, ⟨by (with_reducible repeat (first | apply Kd.R_alloc | apply Kd.R_drewN | apply Kd.R_drew)); exact HO285.out⟩, ⟨by (with_reducible repeat (first | refine blk_drewN ?_ _ | refine blk_drew ?_ | refine blk_alloc ?_ _)); exact BK276.out⟩, ⟨by repeat (first | (with_reducible first | exact HB.out | apply below_alloc | apply pw_below_drewN | apply below_drew1 | refine below_set ?_ GE276.out) | exact HB.out)⟩⟩
    · rw [if_neg c37] at H
      have c37b0 : ((Go.bits .and .i64 a2 4) == 4) = false := beq_eq_false_iff_ne.mpr c37
      have c37b1 : ((Go.bits .and .i64 a2 4) != 4) = true := bne_iff_ne.mpr c37
      (first | rw [c37b0] | (simp only [i64_w, i32_w]; rw [c37b0]) | skip)
      have H' := Aside0.mk H
      clear H
      go_wp2
      go_meet
      case rel => exact ⟨_, ((⟨#[116, 97, 115, 107, 32]⟩ : ByteArray) ++ ((rd_T33 t272 0).f0)), (by first | rfl | (simp; done) | (simp [*]; done)), H', ⟨by first | omega | exact Nat.le_refl _⟩, ⟨by (with_reducible repeat (first | apply Kd.R_alloc | apply Kd.R_drewN | apply Kd.R_drew)); exact HO285.out⟩, ⟨by (with_reducible repeat (first | refine blk_drewN ?_ _ | refine blk_drew ?_ | refine blk_alloc ?_ _)); exact BK276.out⟩, ⟨by repeat (first | (with_reducible first | exact HB.out | apply below_alloc | apply pw_below_drewN | apply below_drew1 | refine below_set ?_ GE276.out) | exact HB.out)⟩⟩
  case rest =>
    clear HC20
    try clear c1
    try clear p2
    try clear q2
    try clear hx2
    try clear qi2
    try clear c3
    try clear c4
    try clear c6
    try clear c6b0
    try clear c6b1
    try clear c8
    try clear c8b0
    try clear c8b1
    try clear c8b2
    try clear c10
    try clear c10b0
    try clear c10b1
    try clear c10b2
    try clear c12
    try clear c12b0
    try clear c12b1
    try clear c12b2
    try clear c14
    try clear c14b0
    try clear c14b1
    try clear c14b2
    try clear c16
    try clear c16b0
    try clear c16b1
    try clear c16b2
    try clear c18
    try clear c18b0
    try clear c18b1
    try clear c18b2
    try clear c19
    try clear c19b0
    try clear c19b1
    try clear c19b2
    try clear p27
    try clear q27
    try clear hx27
    try clear qi27
    try clear c37
    try clear c37b0
    try clear c37b1
    try clear c38
    try clear c38b0
    try clear c38b1
    try clear c38b2
    try clear hcz25_0
    try clear hcz25_1
    try clear hcz25_2
    try clear hcz25_3
    try clear hcz25_4
    try clear hcz25_5
    try clear hcz25_6
    try clear hcz36_0
    try clear hcz36_1
    try clear hcz36_2
    try clear hcz36_3
    try clear hcz36_4
    try clear hcz36_5
    try clear hcz36_6
    try clear hfz25_0
    try clear hfz25_1
    try clear hfz25_2
    try clear hfz25_3
    try clear hfz25_4
    try clear hfz25_5
    try clear hfz25_6
    try clear hfz36_0
    try clear hfz36_1
    try clear hfz36_2
    try clear hfz36_3
    try clear hfz36_4
    try clear hfz36_5
    try clear hfz36_6
    try clear hx275_0
    try clear hx275_1
    try clear hx275_2
    try clear hx275_3
    try clear hx275_4
    try clear hx275_5
    try clear hx275_6
    try clear p275
    try clear q275
    obtain ⟨kq, x10_19, rfl, HA, HJ19, HO_9, BK276, HB⟩ := hcut
    cases kq with
    | zero => exact absurd HA.out (by simp [cadencylaw05_TextFree.j0])
    | succ kj19 =>
      have H := HA.out
      clear HA
      simp only [cadencylaw05_TextFree.j0] at H
      have H' := Aside0.mk H
      clear H
      go_wp2
      go_loopg [10, 11] kj19 (fun kq v10 v11 w' => ∃ (x10_2 : ByteArray) (x11_2 : Int), v10 = .string x10_2 ∧ v11 = .int .i64 x11_2 ∧ Aside0 (cadencylaw05_TextFree.l0 kq a1 a2 t271 y283 x10_2 x11_2 ((rd_T33 t272 0).f0) ((rd_T33 t272 0).f1) ((rd_T33 t272 0).f2) ((rd_T33 t272 0).f3) ((rd_T33 t272 0).f4) ((rd_T33 t272 0).f5) ((rd_T33 t272 0).f6) = some r) ∧ Aside0 (kq ≤ kj19) ∧ Aside0 (Kd.R Kd.string 9 w' w.heap.size (fun _ => True) v284 y283) ∧ Aside0 (w'.heap[gb276]? = some (.cells #[.string ((rd_T33 t272 0).f0), .int .i64 ((rd_T33 t272 0).f1), .int .i64 ((rd_T33 t272 0).f2), .int .i64 ((rd_T33 t272 0).f3), .int .i64 ((rd_T33 t272 0).f4), .int .i64 ((rd_T33 t272 0).f5), .int .i64 ((rd_T33 t272 0).f6)] 33 (0, 0))) ∧ Aside0 (Below w.heap.size w w'))
      case atStart => exact ⟨(x10_19), (0), (by first | rfl | (simp; done) | (simp [*]; done)), (by first | rfl | (simp; done) | (simp [*]; done)), H', ⟨Nat.le_refl _⟩, ⟨by (with_reducible repeat (first | apply Kd.R_alloc | apply Kd.R_drewN | apply Kd.R_drew)); exact HO_9.out⟩, ⟨by (with_reducible repeat (first | refine blk_drewN ?_ _ | refine blk_drew ?_ | refine blk_alloc ?_ _)); exact BK276.out⟩, ⟨by repeat (first | (with_reducible first | exact HB.out | apply below_alloc | apply pw_below_drewN | apply below_drew1 | refine below_set ?_ GE276.out) | exact HB.out)⟩⟩
      case round =>
        clear H'
        try clear c1
        try clear p2
        try clear q2
        try clear hx2
        try clear qi2
        try clear c3
        try clear c4
        try clear c6
        try clear c6b0
        try clear c6b1
        try clear c8
        try clear c8b0
        try clear c8b1
        try clear c8b2
        try clear c10
        try clear c10b0
        try clear c10b1
        try clear c10b2
        try clear c12
        try clear c12b0
        try clear c12b1
        try clear c12b2
        try clear c14
        try clear c14b0
        try clear c14b1
        try clear c14b2
        try clear c16
        try clear c16b0
        try clear c16b1
        try clear c16b2
        try clear c18
        try clear c18b0
        try clear c18b1
        try clear c18b2
        try clear c19
        try clear c19b0
        try clear c19b1
        try clear c19b2
        try clear p27
        try clear q27
        try clear hx27
        try clear qi27
        try clear c37
        try clear c37b0
        try clear c37b1
        try clear c38
        try clear c38b0
        try clear c38b1
        try clear c38b2
        try clear hcz25_0
        try clear hcz25_1
        try clear hcz25_2
        try clear hcz25_3
        try clear hcz25_4
        try clear hcz25_5
        try clear hcz25_6
        try clear hcz36_0
        try clear hcz36_1
        try clear hcz36_2
        try clear hcz36_3
        try clear hcz36_4
        try clear hcz36_5
        try clear hcz36_6
        try clear hfz25_0
        try clear hfz25_1
        try clear hfz25_2
        try clear hfz25_3
        try clear hfz25_4
        try clear hfz25_5
        try clear hfz25_6
        try clear hfz36_0
        try clear hfz36_1
        try clear hfz36_2
        try clear hfz36_3
        try clear hfz36_4
        try clear hfz36_5
        try clear hfz36_6
        try clear hx275_0
        try clear hx275_1
        try clear hx275_2
        try clear hx275_3
        try clear hx275_4
        try clear hx275_5
        try clear hx275_6
        try clear p2
        try clear p27
        try clear p275
        try clear q2
        try clear q27
        try clear q275
        obtain ⟨x10_2, x11_2, rfl, rfl, HA, HK2, HO_9, BK276, HB⟩ := hrel
        cases gk with
        | zero => exact absurd HA.out (by simp [cadencylaw05_TextFree.l0])
        | succ k2 =>
          have H := HA.out
          clear HA
          simp only [cadencylaw05_TextFree.l0] at H
          by_cases c39 : x11_2 < 6
          · rw [if_pos c39] at H
            have c39b0 : decide (x11_2 < 6) = true := decide_eq_true c39
            clear c39
            replace H := Option.bind_eq_some_iff.mp H
            obtain ⟨t286, A400, H⟩ := H
            replace H : (if (Go.bits .and .i64 a2 8) = 8 then (if (Int.tmod (wrap64 (x11_2 + t286)) 6) = 2 then (if ((rd_T33 t272 0).f3) = ((rd_T33 t272 0).f2) then (cadencylaw05_TextFree.j2 k2 a1 a2 t271 y283 x10_2 x11_2 (Int.tmod (wrap64 (x11_2 + t286)) 6) true ((rd_T33 t272 0).f0) ((rd_T33 t272 0).f1) ((rd_T33 t272 0).f2) ((rd_T33 t272 0).f3) ((rd_T33 t272 0).f4) ((rd_T33 t272 0).f5) ((rd_T33 t272 0).f6)) else (if (Int.tmod (wrap64 (x11_2 + t286)) 6) = 3 then (if ((rd_T33 t272 0).f4) = 0 then (cadencylaw05_TextFree.j2 k2 a1 a2 t271 y283 x10_2 x11_2 (Int.tmod (wrap64 (x11_2 + t286)) 6) true ((rd_T33 t272 0).f0) ((rd_T33 t272 0).f1) ((rd_T33 t272 0).f2) ((rd_T33 t272 0).f3) ((rd_T33 t272 0).f4) ((rd_T33 t272 0).f5) ((rd_T33 t272 0).f6)) else (if (Int.tmod (wrap64 (x11_2 + t286)) 6) = 4 then (cadencylaw05_TextFree.j2 k2 a1 a2 t271 y283 x10_2 x11_2 (Int.tmod (wrap64 (x11_2 + t286)) 6) (((rd_T33 t272 0).f5) == 1) ((rd_T33 t272 0).f0) ((rd_T33 t272 0).f1) ((rd_T33 t272 0).f2) ((rd_T33 t272 0).f3) ((rd_T33 t272 0).f4) ((rd_T33 t272 0).f5) ((rd_T33 t272 0).f6)) else (cadencylaw05_TextFree.j2 k2 a1 a2 t271 y283 x10_2 x11_2 (Int.tmod (wrap64 (x11_2 + t286)) 6) false ((rd_T33 t272 0).f0) ((rd_T33 t272 0).f1) ((rd_T33 t272 0).f2) ((rd_T33 t272 0).f3) ((rd_T33 t272 0).f4) ((rd_T33 t272 0).f5) ((rd_T33 t272 0).f6)))) else (if (Int.tmod (wrap64 (x11_2 + t286)) 6) = 4 then (cadencylaw05_TextFree.j2 k2 a1 a2 t271 y283 x10_2 x11_2 (Int.tmod (wrap64 (x11_2 + t286)) 6) (((rd_T33 t272 0).f5) == 1) ((rd_T33 t272 0).f0) ((rd_T33 t272 0).f1) ((rd_T33 t272 0).f2) ((rd_T33 t272 0).f3) ((rd_T33 t272 0).f4) ((rd_T33 t272 0).f5) ((rd_T33 t272 0).f6)) else (cadencylaw05_TextFree.j2 k2 a1 a2 t271 y283 x10_2 x11_2 (Int.tmod (wrap64 (x11_2 + t286)) 6) false ((rd_T33 t272 0).f0) ((rd_T33 t272 0).f1) ((rd_T33 t272 0).f2) ((rd_T33 t272 0).f3) ((rd_T33 t272 0).f4) ((rd_T33 t272 0).f5) ((rd_T33 t272 0).f6))))) else (if (Int.tmod (wrap64 (x11_2 + t286)) 6) = 3 then (if ((rd_T33 t272 0).f4) = 0 then (cadencylaw05_TextFree.j2 k2 a1 a2 t271 y283 x10_2 x11_2 (Int.tmod (wrap64 (x11_2 + t286)) 6) true ((rd_T33 t272 0).f0) ((rd_T33 t272 0).f1) ((rd_T33 t272 0).f2) ((rd_T33 t272 0).f3) ((rd_T33 t272 0).f4) ((rd_T33 t272 0).f5) ((rd_T33 t272 0).f6)) else (if (Int.tmod (wrap64 (x11_2 + t286)) 6) = 4 then (cadencylaw05_TextFree.j2 k2 a1 a2 t271 y283 x10_2 x11_2 (Int.tmod (wrap64 (x11_2 + t286)) 6) (((rd_T33 t272 0).f5) == 1) ((rd_T33 t272 0).f0) ((rd_T33 t272 0).f1) ((rd_T33 t272 0).f2) ((rd_T33 t272 0).f3) ((rd_T33 t272 0).f4) ((rd_T33 t272 0).f5) ((rd_T33 t272 0).f6)) else (cadencylaw05_TextFree.j2 k2 a1 a2 t271 y283 x10_2 x11_2 (Int.tmod (wrap64 (x11_2 + t286)) 6) false ((rd_T33 t272 0).f0) ((rd_T33 t272 0).f1) ((rd_T33 t272 0).f2) ((rd_T33 t272 0).f3) ((rd_T33 t272 0).f4) ((rd_T33 t272 0).f5) ((rd_T33 t272 0).f6)))) else (if (Int.tmod (wrap64 (x11_2 + t286)) 6) = 4 then (cadencylaw05_TextFree.j2 k2 a1 a2 t271 y283 x10_2 x11_2 (Int.tmod (wrap64 (x11_2 + t286)) 6) (((rd_T33 t272 0).f5) == 1) ((rd_T33 t272 0).f0) ((rd_T33 t272 0).f1) ((rd_T33 t272 0).f2) ((rd_T33 t272 0).f3) ((rd_T33 t272 0).f4) ((rd_T33 t272 0).f5) ((rd_T33 t272 0).f6)) else (cadencylaw05_TextFree.j2 k2 a1 a2 t271 y283 x10_2 x11_2 (Int.tmod (wrap64 (x11_2 + t286)) 6) false ((rd_T33 t272 0).f0) ((rd_T33 t272 0).f1) ((rd_T33 t272 0).f2) ((rd_T33 t272 0).f3) ((rd_T33 t272 0).f4) ((rd_T33 t272 0).f5) ((rd_T33 t272 0).f6))))) else (cadencylaw05_TextFree.j2 k2 a1 a2 t271 y283 x10_2 x11_2 (Int.tmod (wrap64 (x11_2 + t286)) 6) false ((rd_T33 t272 0).f0) ((rd_T33 t272 0).f1) ((rd_T33 t272 0).f2) ((rd_T33 t272 0).f3) ((rd_T33 t272 0).f4) ((rd_T33 t272 0).f5) ((rd_T33 t272 0).f6))) = some r := H
            have A40 := Aside0.mk A400
            clear A400
            have HC41 := Aside0.mk H
            clear H
            go_upto_region 11 with (first | ((with_reducible refine gate_callee (f := 13) rfl ?_); refine goesL_ (some 60) rfl rfl Try.func13 (by kernel_rfl) rfl #[.int .i64 a1, .int .i64 6] rfl (by (try simp only [List.map_toArray, List.map_cons, List.map_nil]); first | done | rfl | (simp only [List.length_drop, List.length_take]; rfl)) ?_; (with_reducible refine (cadencylaw05_rest.calls a1 6 t286 _ A40.out).mono ?_); rintro e w' ⟨rfl, ⟨nd, rfl⟩⟩; refine ⟨_, rfl, ?_⟩))
            (try simp only [Act.put, List.setIfInBounds_toArray, List.set_cons_zero, List.set_cons_succ])
            go_cut [94] (fun v94 wc => ∃ (kq : Nat) (x94_40 : Bool), v94 = .bool x94_40 ∧ Aside0 (cadencylaw05_TextFree.j2 kq a1 a2 t271 y283 x10_2 x11_2 (Int.tmod (wrap64 (x11_2 + t286)) 6) x94_40 ((rd_T33 t272 0).f0) ((rd_T33 t272 0).f1) ((rd_T33 t272 0).f2) ((rd_T33 t272 0).f3) ((rd_T33 t272 0).f4) ((rd_T33 t272 0).f5) ((rd_T33 t272 0).f6) = some r) ∧ Aside0 (kq ≤ k2) ∧ Aside0 (Kd.R Kd.string 9 wc w.heap.size (fun _ => True) v284 y283) ∧ Aside0 (wc.heap[gb276]? = some (.cells #[.string ((rd_T33 t272 0).f0), .int .i64 ((rd_T33 t272 0).f1), .int .i64 ((rd_T33 t272 0).f2), .int .i64 ((rd_T33 t272 0).f3), .int .i64 ((rd_T33 t272 0).f4), .int .i64 ((rd_T33 t272 0).f5), .int .i64 ((rd_T33 t272 0).f6)] 33 (0, 0))) ∧ Aside0 (Below w.heap.size w wc))
            case first =>
              have H := HC41.out
              clear HC41
              by_cases c42 : (Go.bits .and .i64 a2 8) = 8
              · rw [if_pos c42] at H
                have c42b0 : ((Go.bits .and .i64 a2 8) == 8) = true := beq_iff_eq.mpr c42
                have c42b1 : ((Go.bits .and .i64 a2 8) != 8) = false := bne_eq_false_iff_eq.mpr c42
                clear c42
                (first | rw [c42b0] | (simp only [i64_w, i32_w]; rw [c42b0]) | skip)
                by_cases c43 : (Int.tmod (wrap64 (x11_2 + t286)) 6) = 2
                · rw [if_pos c43] at H
                  have c43b0 : ((Int.tmod (wrap64 (x11_2 + t286)) 6) == 2) = true := beq_iff_eq.mpr c43
                  have c43b1 : ((Int.tmod (wrap64 (x11_2 + t286)) 6) != 2) = false := bne_eq_false_iff_eq.mpr c43
                  clear c43
                  by_cases c44 : ((rd_T33 t272 0).f3) = ((rd_T33 t272 0).f2)
                  · rw [if_pos c44] at H
                    have c44b0 : (((rd_T33 t272 0).f3) == ((rd_T33 t272 0).f2)) = true := beq_iff_eq.mpr c44
                    have c44b1 : (((rd_T33 t272 0).f3) != ((rd_T33 t272 0).f2)) = false := bne_eq_false_iff_eq.mpr c44
                    clear c44
                    have H' := Aside0.mk H
                    clear H
                    have hcz45_0 : wr.cell? ⟨gb276, 0, none⟩ = some (.string ((rd_T33 t272 0).f0)) := (blk_cell BK276.out 0).trans rfl
                    have hcz45_1 : wr.cell? ⟨gb276, 1, none⟩ = some (.int .i64 ((rd_T33 t272 0).f1)) := (blk_cell BK276.out 1).trans rfl
                    have hcz45_2 : wr.cell? ⟨gb276, 2, none⟩ = some (.int .i64 ((rd_T33 t272 0).f2)) := (blk_cell BK276.out 2).trans rfl
                    have hcz45_3 : wr.cell? ⟨gb276, 3, none⟩ = some (.int .i64 ((rd_T33 t272 0).f3)) := (blk_cell BK276.out 3).trans rfl
                    have hcz45_4 : wr.cell? ⟨gb276, 4, none⟩ = some (.int .i64 ((rd_T33 t272 0).f4)) := (blk_cell BK276.out 4).trans rfl
                    have hcz45_5 : wr.cell? ⟨gb276, 5, none⟩ = some (.int .i64 ((rd_T33 t272 0).f5)) := (blk_cell BK276.out 5).trans rfl
                    have hcz45_6 : wr.cell? ⟨gb276, 6, none⟩ = some (.int .i64 ((rd_T33 t272 0).f6)) := (blk_cell BK276.out 6).trans rfl
                    have hfz45_0 := blk_frozen BK276.out 0
                    have hfz45_1 := blk_frozen BK276.out 1
                    have hfz45_2 := blk_frozen BK276.out 2
                    have hfz45_3 := blk_frozen BK276.out 3
                    have hfz45_4 := blk_frozen BK276.out 4
                    have hfz45_5 := blk_frozen BK276.out 5
                    have hfz45_6 := blk_frozen BK276.out 6
                    go_wp2
                    go_meet
                    case rel => exact ⟨_, (true), (by first | rfl | (simp; done) | (simp [*]; done)), H', ⟨by have := HJ19.out; have := HK2.out; first | omega | exact Nat.le_refl _⟩, ⟨by (with_reducible repeat (first | apply Kd.R_alloc | apply Kd.R_drewN | apply Kd.R_drew)); exact HO_9.out⟩, ⟨by (with_reducible repeat (first | refine blk_drewN ?_ _ | refine blk_drew ?_ | refine blk_alloc ?_ _)); exact BK276.out⟩, ⟨by repeat (first | (with_reducible first | exact HB.out | apply below_alloc | apply pw_below_drewN | apply below_drew1 | refine below_set ?_ GE276.out) | exact HB.out)⟩⟩
                  · rw [if_neg c44] at H
                    have c44b0 : (((rd_T33 t272 0).f3) == ((rd_T33 t272 0).f2)) = false := beq_eq_false_iff_ne.mpr c44
                    have c44b1 : (((rd_T33 t272 0).f3) != ((rd_T33 t272 0).f2)) = true := bne_iff_ne.mpr c44
                    by_cases c46 : (Int.tmod (wrap64 (x11_2 + t286)) 6) = 3
                    · rw [if_pos c46] at H
                      have c46b0 : ((Int.tmod (wrap64 (x11_2 + t286)) 6) == 3) = true := beq_iff_eq.mpr c46
                      have c46b1 : ((Int.tmod (wrap64 (x11_2 + t286)) 6) != 3) = false := bne_eq_false_iff_eq.mpr c46
                      clear c46
                      by_cases c47 : ((rd_T33 t272 0).f4) = 0
                      · rw [if_pos c47] at H
                        have c47b0 : (((rd_T33 t272 0).f4) == 0) = true := beq_iff_eq.mpr c47
                        have c47b1 : (((rd_T33 t272 0).f4) != 0) = false := bne_eq_false_iff_eq.mpr c47
                        clear c47
                        have H' := Aside0.mk H
                        clear H
                        have hcz48_0 : wr.cell? ⟨gb276, 0, none⟩ = some (.string ((rd_T33 t272 0).f0)) := (blk_cell BK276.out 0).trans rfl
                        have hcz48_1 : wr.cell? ⟨gb276, 1, none⟩ = some (.int .i64 ((rd_T33 t272 0).f1)) := (blk_cell BK276.out 1).trans rfl
                        have hcz48_2 : wr.cell? ⟨gb276, 2, none⟩ = some (.int .i64 ((rd_T33 t272 0).f2)) := (blk_cell BK276.out 2).trans rfl
                        have hcz48_3 : wr.cell? ⟨gb276, 3, none⟩ = some (.int .i64 ((rd_T33 t272 0).f3)) := (blk_cell BK276.out 3).trans rfl
                        have hcz48_4 : wr.cell? ⟨gb276, 4, none⟩ = some (.int .i64 ((rd_T33 t272 0).f4)) := (blk_cell BK276.out 4).trans rfl
                        have hcz48_5 : wr.cell? ⟨gb276, 5, none⟩ = some (.int .i64 ((rd_T33 t272 0).f5)) := (blk_cell BK276.out 5).trans rfl
                        have hcz48_6 : wr.cell? ⟨gb276, 6, none⟩ = some (.int .i64 ((rd_T33 t272 0).f6)) := (blk_cell BK276.out 6).trans rfl
                        have hfz48_0 := blk_frozen BK276.out 0
                        have hfz48_1 := blk_frozen BK276.out 1
                        have hfz48_2 := blk_frozen BK276.out 2
                        have hfz48_3 := blk_frozen BK276.out 3
                        have hfz48_4 := blk_frozen BK276.out 4
                        have hfz48_5 := blk_frozen BK276.out 5
                        have hfz48_6 := blk_frozen BK276.out 6
                        go_wp2
                        go_meet
                        case rel => exact ⟨_, (true), (by first | rfl | (simp; done) | (simp [*]; done)), H', ⟨by have := HJ19.out; have := HK2.out; first | omega | exact Nat.le_refl _⟩, ⟨by (with_reducible repeat (first | apply Kd.R_alloc | apply Kd.R_drewN | apply Kd.R_drew)); exact HO_9.out⟩, ⟨by (with_reducible repeat (first | refine blk_drewN ?_ _ | refine blk_drew ?_ | refine blk_alloc ?_ _)); exact BK276.out⟩, ⟨by repeat (first | (with_reducible first | exact HB.out | apply below_alloc | apply pw_below_drewN | apply below_drew1 | refine below_set ?_ GE276.out) | exact HB.out)⟩⟩
                      · rw [if_neg c47] at H
                        have c47b0 : (((rd_T33 t272 0).f4) == 0) = false := beq_eq_false_iff_ne.mpr c47
                        have c47b1 : (((rd_T33 t272 0).f4) != 0) = true := bne_iff_ne.mpr c47
                        by_cases c49 : (Int.tmod (wrap64 (x11_2 + t286)) 6) = 4
                        · rw [if_pos c49] at H
                          have c49b0 : ((Int.tmod (wrap64 (x11_2 + t286)) 6) == 4) = true := beq_iff_eq.mpr c49
                          have c49b1 : ((Int.tmod (wrap64 (x11_2 + t286)) 6) != 4) = false := bne_eq_false_iff_eq.mpr c49
                          clear c49
                          have H' := Aside0.mk H
                          clear H
                          have hcz50_0 : wr.cell? ⟨gb276, 0, none⟩ = some (.string ((rd_T33 t272 0).f0)) := (blk_cell BK276.out 0).trans rfl
                          have hcz50_1 : wr.cell? ⟨gb276, 1, none⟩ = some (.int .i64 ((rd_T33 t272 0).f1)) := (blk_cell BK276.out 1).trans rfl
                          have hcz50_2 : wr.cell? ⟨gb276, 2, none⟩ = some (.int .i64 ((rd_T33 t272 0).f2)) := (blk_cell BK276.out 2).trans rfl
                          have hcz50_3 : wr.cell? ⟨gb276, 3, none⟩ = some (.int .i64 ((rd_T33 t272 0).f3)) := (blk_cell BK276.out 3).trans rfl
                          have hcz50_4 : wr.cell? ⟨gb276, 4, none⟩ = some (.int .i64 ((rd_T33 t272 0).f4)) := (blk_cell BK276.out 4).trans rfl
                          have hcz50_5 : wr.cell? ⟨gb276, 5, none⟩ = some (.int .i64 ((rd_T33 t272 0).f5)) := (blk_cell BK276.out 5).trans rfl
                          have hcz50_6 : wr.cell? ⟨gb276, 6, none⟩ = some (.int .i64 ((rd_T33 t272 0).f6)) := (blk_cell BK276.out 6).trans rfl
                          have hfz50_0 := blk_frozen BK276.out 0
                          have hfz50_1 := blk_frozen BK276.out 1
                          have hfz50_2 := blk_frozen BK276.out 2
                          have hfz50_3 := blk_frozen BK276.out 3
                          have hfz50_4 := blk_frozen BK276.out 4
                          have hfz50_5 := blk_frozen BK276.out 5
                          have hfz50_6 := blk_frozen BK276.out 6
                          go_wp2
                          go_meet
                          case rel => exact ⟨_, ((((rd_T33 t272 0).f5) == 1)), (by first | rfl | (simp; done) | (simp [*]; done)), H', ⟨by have := HJ19.out; have := HK2.out; first | omega | exact Nat.le_refl _⟩, ⟨by (with_reducible repeat (first | apply Kd.R_alloc | apply Kd.R_drewN | apply Kd.R_drew)); exact HO_9.out⟩, ⟨by (with_reducible repeat (first | refine blk_drewN ?_ _ | refine blk_drew ?_ | refine blk_alloc ?_ _)); exact BK276.out⟩, ⟨by repeat (first | (with_reducible first | exact HB.out | apply below_alloc | apply pw_below_drewN | apply below_drew1 | refine below_set ?_ GE276.out) | exact HB.out)⟩⟩
                        · rw [if_neg c49] at H
                          have c49b0 : ((Int.tmod (wrap64 (x11_2 + t286)) 6) == 4) = false := beq_eq_false_iff_ne.mpr c49
                          have c49b1 : ((Int.tmod (wrap64 (x11_2 + t286)) 6) != 4) = true := bne_iff_ne.mpr c49
                          have H' := Aside0.mk H
                          clear H
                          have hcz51_0 : wr.cell? ⟨gb276, 0, none⟩ = some (.string ((rd_T33 t272 0).f0)) := (blk_cell BK276.out 0).trans rfl
                          have hcz51_1 : wr.cell? ⟨gb276, 1, none⟩ = some (.int .i64 ((rd_T33 t272 0).f1)) := (blk_cell BK276.out 1).trans rfl
                          have hcz51_2 : wr.cell? ⟨gb276, 2, none⟩ = some (.int .i64 ((rd_T33 t272 0).f2)) := (blk_cell BK276.out 2).trans rfl
                          have hcz51_3 : wr.cell? ⟨gb276, 3, none⟩ = some (.int .i64 ((rd_T33 t272 0).f3)) := (blk_cell BK276.out 3).trans rfl
                          have hcz51_4 : wr.cell? ⟨gb276, 4, none⟩ = some (.int .i64 ((rd_T33 t272 0).f4)) := (blk_cell BK276.out 4).trans rfl
                          have hcz51_5 : wr.cell? ⟨gb276, 5, none⟩ = some (.int .i64 ((rd_T33 t272 0).f5)) := (blk_cell BK276.out 5).trans rfl
                          have hcz51_6 : wr.cell? ⟨gb276, 6, none⟩ = some (.int .i64 ((rd_T33 t272 0).f6)) := (blk_cell BK276.out 6).trans rfl
                          have hfz51_0 := blk_frozen BK276.out 0
                          have hfz51_1 := blk_frozen BK276.out 1
                          have hfz51_2 := blk_frozen BK276.out 2
                          have hfz51_3 := blk_frozen BK276.out 3
                          have hfz51_4 := blk_frozen BK276.out 4
                          have hfz51_5 := blk_frozen BK276.out 5
                          have hfz51_6 := blk_frozen BK276.out 6
                          go_wp2
                          go_meet
                          case rel => exact ⟨_, (false), (by first | rfl | (simp; done) | (simp [*]; done)), H', ⟨by have := HJ19.out; have := HK2.out; first | omega | exact Nat.le_refl _⟩, ⟨by (with_reducible repeat (first | apply Kd.R_alloc | apply Kd.R_drewN | apply Kd.R_drew)); exact HO_9.out⟩, ⟨by (with_reducible repeat (first | refine blk_drewN ?_ _ | refine blk_drew ?_ | refine blk_alloc ?_ _)); exact BK276.out⟩, ⟨by repeat (first | (with_reducible first | exact HB.out | apply below_alloc | apply pw_below_drewN | apply below_drew1 | refine below_set ?_ GE276.out) | exact HB.out)⟩⟩
                    · rw [if_neg c46] at H
                      have c46b0 : ((Int.tmod (wrap64 (x11_2 + t286)) 6) == 3) = false := beq_eq_false_iff_ne.mpr c46
                      have c46b1 : ((Int.tmod (wrap64 (x11_2 + t286)) 6) != 3) = true := bne_iff_ne.mpr c46
                      by_cases c52 : (Int.tmod (wrap64 (x11_2 + t286)) 6) = 4
                      · rw [if_pos c52] at H
                        have c52b0 : ((Int.tmod (wrap64 (x11_2 + t286)) 6) == 4) = true := beq_iff_eq.mpr c52
                        have c52b1 : ((Int.tmod (wrap64 (x11_2 + t286)) 6) != 4) = false := bne_eq_false_iff_eq.mpr c52
                        clear c52
                        have H' := Aside0.mk H
                        clear H
                        have hcz53_0 : wr.cell? ⟨gb276, 0, none⟩ = some (.string ((rd_T33 t272 0).f0)) := (blk_cell BK276.out 0).trans rfl
                        have hcz53_1 : wr.cell? ⟨gb276, 1, none⟩ = some (.int .i64 ((rd_T33 t272 0).f1)) := (blk_cell BK276.out 1).trans rfl
                        have hcz53_2 : wr.cell? ⟨gb276, 2, none⟩ = some (.int .i64 ((rd_T33 t272 0).f2)) := (blk_cell BK276.out 2).trans rfl
                        have hcz53_3 : wr.cell? ⟨gb276, 3, none⟩ = some (.int .i64 ((rd_T33 t272 0).f3)) := (blk_cell BK276.out 3).trans rfl
                        have hcz53_4 : wr.cell? ⟨gb276, 4, none⟩ = some (.int .i64 ((rd_T33 t272 0).f4)) := (blk_cell BK276.out 4).trans rfl
                        have hcz53_5 : wr.cell? ⟨gb276, 5, none⟩ = some (.int .i64 ((rd_T33 t272 0).f5)) := (blk_cell BK276.out 5).trans rfl
                        have hcz53_6 : wr.cell? ⟨gb276, 6, none⟩ = some (.int .i64 ((rd_T33 t272 0).f6)) := (blk_cell BK276.out 6).trans rfl
                        have hfz53_0 := blk_frozen BK276.out 0
                        have hfz53_1 := blk_frozen BK276.out 1
                        have hfz53_2 := blk_frozen BK276.out 2
                        have hfz53_3 := blk_frozen BK276.out 3
                        have hfz53_4 := blk_frozen BK276.out 4
                        have hfz53_5 := blk_frozen BK276.out 5
                        have hfz53_6 := blk_frozen BK276.out 6
                        go_wp2
                        go_meet
                        case rel => exact ⟨_, ((((rd_T33 t272 0).f5) == 1)), (by first | rfl | (simp; done) | (simp [*]; done)), H', ⟨by have := HJ19.out; have := HK2.out; first | omega | exact Nat.le_refl _⟩, ⟨by (with_reducible repeat (first | apply Kd.R_alloc | apply Kd.R_drewN | apply Kd.R_drew)); exact HO_9.out⟩, ⟨by (with_reducible repeat (first | refine blk_drewN ?_ _ | refine blk_drew ?_ | refine blk_alloc ?_ _)); exact BK276.out⟩, ⟨by repeat (first | (with_reducible first | exact HB.out | apply below_alloc | apply pw_below_drewN | apply below_drew1 | refine below_set ?_ GE276.out) | exact HB.out)⟩⟩
                      · rw [if_neg c52] at H
                        have c52b0 : ((Int.tmod (wrap64 (x11_2 + t286)) 6) == 4) = false := beq_eq_false_iff_ne.mpr c52
                        have c52b1 : ((Int.tmod (wrap64 (x11_2 + t286)) 6) != 4) = true := bne_iff_ne.mpr c52
                        have H' := Aside0.mk H
                        clear H
                        have hcz54_0 : wr.cell? ⟨gb276, 0, none⟩ = some (.string ((rd_T33 t272 0).f0)) := (blk_cell BK276.out 0).trans rfl
                        have hcz54_1 : wr.cell? ⟨gb276, 1, none⟩ = some (.int .i64 ((rd_T33 t272 0).f1)) := (blk_cell BK276.out 1).trans rfl
                        have hcz54_2 : wr.cell? ⟨gb276, 2, none⟩ = some (.int .i64 ((rd_T33 t272 0).f2)) := (blk_cell BK276.out 2).trans rfl
                        have hcz54_3 : wr.cell? ⟨gb276, 3, none⟩ = some (.int .i64 ((rd_T33 t272 0).f3)) := (blk_cell BK276.out 3).trans rfl
                        have hcz54_4 : wr.cell? ⟨gb276, 4, none⟩ = some (.int .i64 ((rd_T33 t272 0).f4)) := (blk_cell BK276.out 4).trans rfl
                        have hcz54_5 : wr.cell? ⟨gb276, 5, none⟩ = some (.int .i64 ((rd_T33 t272 0).f5)) := (blk_cell BK276.out 5).trans rfl
                        have hcz54_6 : wr.cell? ⟨gb276, 6, none⟩ = some (.int .i64 ((rd_T33 t272 0).f6)) := (blk_cell BK276.out 6).trans rfl
                        have hfz54_0 := blk_frozen BK276.out 0
                        have hfz54_1 := blk_frozen BK276.out 1
                        have hfz54_2 := blk_frozen BK276.out 2
                        have hfz54_3 := blk_frozen BK276.out 3
                        have hfz54_4 := blk_frozen BK276.out 4
                        have hfz54_5 := blk_frozen BK276.out 5
                        have hfz54_6 := blk_frozen BK276.out 6
                        go_wp2
                        go_meet
                        case rel => exact ⟨_, (false), (by first | rfl | (simp; done) | (simp [*]; done)), H', ⟨by have := HJ19.out; have := HK2.out; first | omega | exact Nat.le_refl _⟩, ⟨by (with_reducible repeat (first | apply Kd.R_alloc | apply Kd.R_drewN | apply Kd.R_drew)); exact HO_9.out⟩, ⟨by (with_reducible repeat (first | refine blk_drewN ?_ _ | refine blk_drew ?_ | refine blk_alloc ?_ _)); exact BK276.out⟩, ⟨by repeat (first | (with_reducible first | exact HB.out | apply below_alloc | apply pw_below_drewN | apply below_drew1 | refine below_set ?_ GE276.out) | exact HB.out)⟩⟩
                · rw [if_neg c43] at H
                  have c43b0 : ((Int.tmod (wrap64 (x11_2 + t286)) 6) == 2) = false := beq_eq_false_iff_ne.mpr c43
                  have c43b1 : ((Int.tmod (wrap64 (x11_2 + t286)) 6) != 2) = true := bne_iff_ne.mpr c43
                  by_cases c55 : (Int.tmod (wrap64 (x11_2 + t286)) 6) = 3
                  · rw [if_pos c55] at H
                    have c55b0 : ((Int.tmod (wrap64 (x11_2 + t286)) 6) == 3) = true := beq_iff_eq.mpr c55
                    have c55b1 : ((Int.tmod (wrap64 (x11_2 + t286)) 6) != 3) = false := bne_eq_false_iff_eq.mpr c55
                    clear c55
                    by_cases c56 : ((rd_T33 t272 0).f4) = 0
                    · rw [if_pos c56] at H
                      have c56b0 : (((rd_T33 t272 0).f4) == 0) = true := beq_iff_eq.mpr c56
                      have c56b1 : (((rd_T33 t272 0).f4) != 0) = false := bne_eq_false_iff_eq.mpr c56
                      clear c56
                      have H' := Aside0.mk H
                      clear H
                      have hcz57_0 : wr.cell? ⟨gb276, 0, none⟩ = some (.string ((rd_T33 t272 0).f0)) := (blk_cell BK276.out 0).trans rfl
                      have hcz57_1 : wr.cell? ⟨gb276, 1, none⟩ = some (.int .i64 ((rd_T33 t272 0).f1)) := (blk_cell BK276.out 1).trans rfl
                      have hcz57_2 : wr.cell? ⟨gb276, 2, none⟩ = some (.int .i64 ((rd_T33 t272 0).f2)) := (blk_cell BK276.out 2).trans rfl
                      have hcz57_3 : wr.cell? ⟨gb276, 3, none⟩ = some (.int .i64 ((rd_T33 t272 0).f3)) := (blk_cell BK276.out 3).trans rfl
                      have hcz57_4 : wr.cell? ⟨gb276, 4, none⟩ = some (.int .i64 ((rd_T33 t272 0).f4)) := (blk_cell BK276.out 4).trans rfl
                      have hcz57_5 : wr.cell? ⟨gb276, 5, none⟩ = some (.int .i64 ((rd_T33 t272 0).f5)) := (blk_cell BK276.out 5).trans rfl
                      have hcz57_6 : wr.cell? ⟨gb276, 6, none⟩ = some (.int .i64 ((rd_T33 t272 0).f6)) := (blk_cell BK276.out 6).trans rfl
                      have hfz57_0 := blk_frozen BK276.out 0
                      have hfz57_1 := blk_frozen BK276.out 1
                      have hfz57_2 := blk_frozen BK276.out 2
                      have hfz57_3 := blk_frozen BK276.out 3
                      have hfz57_4 := blk_frozen BK276.out 4
                      have hfz57_5 := blk_frozen BK276.out 5
                      have hfz57_6 := blk_frozen BK276.out 6
                      go_wp2
                      go_meet
                      case rel => exact ⟨_, (true), (by first | rfl | (simp; done) | (simp [*]; done)), H', ⟨by have := HJ19.out; have := HK2.out; first | omega | exact Nat.le_refl _⟩, ⟨by (with_reducible repeat (first | apply Kd.R_alloc | apply Kd.R_drewN | apply Kd.R_drew)); exact HO_9.out⟩, ⟨by (with_reducible repeat (first | refine blk_drewN ?_ _ | refine blk_drew ?_ | refine blk_alloc ?_ _)); exact BK276.out⟩, ⟨by repeat (first | (with_reducible first | exact HB.out | apply below_alloc | apply pw_below_drewN | apply below_drew1 | refine below_set ?_ GE276.out) | exact HB.out)⟩⟩
                    · rw [if_neg c56] at H
                      have c56b0 : (((rd_T33 t272 0).f4) == 0) = false := beq_eq_false_iff_ne.mpr c56
                      have c56b1 : (((rd_T33 t272 0).f4) != 0) = true := bne_iff_ne.mpr c56
                      by_cases c58 : (Int.tmod (wrap64 (x11_2 + t286)) 6) = 4
                      · rw [if_pos c58] at H
                        have c58b0 : ((Int.tmod (wrap64 (x11_2 + t286)) 6) == 4) = true := beq_iff_eq.mpr c58
                        have c58b1 : ((Int.tmod (wrap64 (x11_2 + t286)) 6) != 4) = false := bne_eq_false_iff_eq.mpr c58
                        clear c58
                        have H' := Aside0.mk H
                        clear H
                        have hcz59_0 : wr.cell? ⟨gb276, 0, none⟩ = some (.string ((rd_T33 t272 0).f0)) := (blk_cell BK276.out 0).trans rfl
                        have hcz59_1 : wr.cell? ⟨gb276, 1, none⟩ = some (.int .i64 ((rd_T33 t272 0).f1)) := (blk_cell BK276.out 1).trans rfl
                        have hcz59_2 : wr.cell? ⟨gb276, 2, none⟩ = some (.int .i64 ((rd_T33 t272 0).f2)) := (blk_cell BK276.out 2).trans rfl
                        have hcz59_3 : wr.cell? ⟨gb276, 3, none⟩ = some (.int .i64 ((rd_T33 t272 0).f3)) := (blk_cell BK276.out 3).trans rfl
                        have hcz59_4 : wr.cell? ⟨gb276, 4, none⟩ = some (.int .i64 ((rd_T33 t272 0).f4)) := (blk_cell BK276.out 4).trans rfl
                        have hcz59_5 : wr.cell? ⟨gb276, 5, none⟩ = some (.int .i64 ((rd_T33 t272 0).f5)) := (blk_cell BK276.out 5).trans rfl
                        have hcz59_6 : wr.cell? ⟨gb276, 6, none⟩ = some (.int .i64 ((rd_T33 t272 0).f6)) := (blk_cell BK276.out 6).trans rfl
                        have hfz59_0 := blk_frozen BK276.out 0
                        have hfz59_1 := blk_frozen BK276.out 1
                        have hfz59_2 := blk_frozen BK276.out 2
                        have hfz59_3 := blk_frozen BK276.out 3
                        have hfz59_4 := blk_frozen BK276.out 4
                        have hfz59_5 := blk_frozen BK276.out 5
                        have hfz59_6 := blk_frozen BK276.out 6
                        go_wp2
                        go_meet
                        case rel => exact ⟨_, ((((rd_T33 t272 0).f5) == 1)), (by first | rfl | (simp; done) | (simp [*]; done)), H', ⟨by have := HJ19.out; have := HK2.out; first | omega | exact Nat.le_refl _⟩, ⟨by (with_reducible repeat (first | apply Kd.R_alloc | apply Kd.R_drewN | apply Kd.R_drew)); exact HO_9.out⟩, ⟨by (with_reducible repeat (first | refine blk_drewN ?_ _ | refine blk_drew ?_ | refine blk_alloc ?_ _)); exact BK276.out⟩, ⟨by repeat (first | (with_reducible first | exact HB.out | apply below_alloc | apply pw_below_drewN | apply below_drew1 | refine below_set ?_ GE276.out) | exact HB.out)⟩⟩
                      · rw [if_neg c58] at H
                        have c58b0 : ((Int.tmod (wrap64 (x11_2 + t286)) 6) == 4) = false := beq_eq_false_iff_ne.mpr c58
                        have c58b1 : ((Int.tmod (wrap64 (x11_2 + t286)) 6) != 4) = true := bne_iff_ne.mpr c58
                        have H' := Aside0.mk H
                        clear H
                        have hcz60_0 : wr.cell? ⟨gb276, 0, none⟩ = some (.string ((rd_T33 t272 0).f0)) := (blk_cell BK276.out 0).trans rfl
                        have hcz60_1 : wr.cell? ⟨gb276, 1, none⟩ = some (.int .i64 ((rd_T33 t272 0).f1)) := (blk_cell BK276.out 1).trans rfl
                        have hcz60_2 : wr.cell? ⟨gb276, 2, none⟩ = some (.int .i64 ((rd_T33 t272 0).f2)) := (blk_cell BK276.out 2).trans rfl
                        have hcz60_3 : wr.cell? ⟨gb276, 3, none⟩ = some (.int .i64 ((rd_T33 t272 0).f3)) := (blk_cell BK276.out 3).trans rfl
                        have hcz60_4 : wr.cell? ⟨gb276, 4, none⟩ = some (.int .i64 ((rd_T33 t272 0).f4)) := (blk_cell BK276.out 4).trans rfl
                        have hcz60_5 : wr.cell? ⟨gb276, 5, none⟩ = some (.int .i64 ((rd_T33 t272 0).f5)) := (blk_cell BK276.out 5).trans rfl
                        have hcz60_6 : wr.cell? ⟨gb276, 6, none⟩ = some (.int .i64 ((rd_T33 t272 0).f6)) := (blk_cell BK276.out 6).trans rfl
                        have hfz60_0 := blk_frozen BK276.out 0
                        have hfz60_1 := blk_frozen BK276.out 1
                        have hfz60_2 := blk_frozen BK276.out 2
                        have hfz60_3 := blk_frozen BK276.out 3
                        have hfz60_4 := blk_frozen BK276.out 4
                        have hfz60_5 := blk_frozen BK276.out 5
                        have hfz60_6 := blk_frozen BK276.out 6
                        go_wp2
                        go_meet
                        case rel => exact ⟨_, (false), (by first | rfl | (simp; done) | (simp [*]; done)), H', ⟨by have := HJ19.out; have := HK2.out; first | omega | exact Nat.le_refl _⟩, ⟨by (with_reducible repeat (first | apply Kd.R_alloc | apply Kd.R_drewN | apply Kd.R_drew)); exact HO_9.out⟩, ⟨by (with_reducible repeat (first | refine blk_drewN ?_ _ | refine blk_drew ?_ | refine blk_alloc ?_ _)); exact BK276.out⟩, ⟨by repeat (first | (with_reducible first | exact HB.out | apply below_alloc | apply pw_below_drewN | apply below_drew1 | refine below_set ?_ GE276.out) | exact HB.out)⟩⟩
                  · rw [if_neg c55] at H
                    have c55b0 : ((Int.tmod (wrap64 (x11_2 + t286)) 6) == 3) = false := beq_eq_false_iff_ne.mpr c55
                    have c55b1 : ((Int.tmod (wrap64 (x11_2 + t286)) 6) != 3) = true := bne_iff_ne.mpr c55
                    by_cases c61 : (Int.tmod (wrap64 (x11_2 + t286)) 6) = 4
                    · rw [if_pos c61] at H
                      have c61b0 : ((Int.tmod (wrap64 (x11_2 + t286)) 6) == 4) = true := beq_iff_eq.mpr c61
                      have c61b1 : ((Int.tmod (wrap64 (x11_2 + t286)) 6) != 4) = false := bne_eq_false_iff_eq.mpr c61
                      clear c61
                      have H' := Aside0.mk H
                      clear H
                      have hcz62_0 : wr.cell? ⟨gb276, 0, none⟩ = some (.string ((rd_T33 t272 0).f0)) := (blk_cell BK276.out 0).trans rfl
                      have hcz62_1 : wr.cell? ⟨gb276, 1, none⟩ = some (.int .i64 ((rd_T33 t272 0).f1)) := (blk_cell BK276.out 1).trans rfl
                      have hcz62_2 : wr.cell? ⟨gb276, 2, none⟩ = some (.int .i64 ((rd_T33 t272 0).f2)) := (blk_cell BK276.out 2).trans rfl
                      have hcz62_3 : wr.cell? ⟨gb276, 3, none⟩ = some (.int .i64 ((rd_T33 t272 0).f3)) := (blk_cell BK276.out 3).trans rfl
                      have hcz62_4 : wr.cell? ⟨gb276, 4, none⟩ = some (.int .i64 ((rd_T33 t272 0).f4)) := (blk_cell BK276.out 4).trans rfl
                      have hcz62_5 : wr.cell? ⟨gb276, 5, none⟩ = some (.int .i64 ((rd_T33 t272 0).f5)) := (blk_cell BK276.out 5).trans rfl
                      have hcz62_6 : wr.cell? ⟨gb276, 6, none⟩ = some (.int .i64 ((rd_T33 t272 0).f6)) := (blk_cell BK276.out 6).trans rfl
                      have hfz62_0 := blk_frozen BK276.out 0
                      have hfz62_1 := blk_frozen BK276.out 1
                      have hfz62_2 := blk_frozen BK276.out 2
                      have hfz62_3 := blk_frozen BK276.out 3
                      have hfz62_4 := blk_frozen BK276.out 4
                      have hfz62_5 := blk_frozen BK276.out 5
                      have hfz62_6 := blk_frozen BK276.out 6
                      go_wp2
                      go_meet
                      case rel => exact ⟨_, ((((rd_T33 t272 0).f5) == 1)), (by first | rfl | (simp; done) | (simp [*]; done)), H', ⟨by have := HJ19.out; have := HK2.out; first | omega | exact Nat.le_refl _⟩, ⟨by (with_reducible repeat (first | apply Kd.R_alloc | apply Kd.R_drewN | apply Kd.R_drew)); exact HO_9.out⟩, ⟨by (with_reducible repeat (first | refine blk_drewN ?_ _ | refine blk_drew ?_ | refine blk_alloc ?_ _)); exact BK276.out⟩, ⟨by repeat (first | (with_reducible first | exact HB.out | apply below_alloc | apply pw_below_drewN | apply below_drew1 | refine below_set ?_ GE276.out) | exact HB.out)⟩⟩
                    · rw [if_neg c61] at H
                      have c61b0 : ((Int.tmod (wrap64 (x11_2 + t286)) 6) == 4) = false := beq_eq_false_iff_ne.mpr c61
                      have c61b1 : ((Int.tmod (wrap64 (x11_2 + t286)) 6) != 4) = true := bne_iff_ne.mpr c61
                      have H' := Aside0.mk H
                      clear H
                      go_wp2
                      go_meet
                      case rel => exact ⟨_, (false), (by first | rfl | (simp; done) | (simp [*]; done)), H', ⟨by have := HJ19.out; have := HK2.out; first | omega | exact Nat.le_refl _⟩, ⟨by (with_reducible repeat (first | apply Kd.R_alloc | apply Kd.R_drewN | apply Kd.R_drew)); exact HO_9.out⟩, ⟨by (with_reducible repeat (first | refine blk_drewN ?_ _ | refine blk_drew ?_ | refine blk_alloc ?_ _)); exact BK276.out⟩, ⟨by repeat (first | (with_reducible first | exact HB.out | apply below_alloc | apply pw_below_drewN | apply below_drew1 | refine below_set ?_ GE276.out) | exact HB.out)⟩⟩
              · rw [if_neg c42] at H
                have c42b0 : ((Go.bits .and .i64 a2 8) == 8) = false := beq_eq_false_iff_ne.mpr c42
                have c42b1 : ((Go.bits .and .i64 a2 8) != 8) = true := bne_iff_ne.mpr c42
                (first | rw [c42b0] | (simp only [i64_w, i32_w]; rw [c42b0]) | skip)
                have H' := Aside0.mk H
                clear H
                go_wp2
                go_meet
                case rel => exact ⟨_, (false), (by first | rfl | (simp; done) | (simp [*]; done)), H', ⟨by have := HJ19.out; have := HK2.out; first | omega | exact Nat.le_refl _⟩, ⟨by (with_reducible repeat (first | apply Kd.R_alloc | apply Kd.R_drewN | apply Kd.R_drew)); exact HO_9.out⟩, ⟨by (with_reducible repeat (first | refine blk_drewN ?_ _ | refine blk_drew ?_ | refine blk_alloc ?_ _)); exact BK276.out⟩, ⟨by repeat (first | (with_reducible first | exact HB.out | apply below_alloc | apply pw_below_drewN | apply below_drew1 | refine below_set ?_ GE276.out) | exact HB.out)⟩⟩
            case rest =>
              clear HC41
              try clear c1
              try clear p2
              try clear q2
              try clear hx2
              try clear qi2
              try clear c3
              try clear c4
              try clear c5
              try clear c6
              try clear c6b0
              try clear c6b1
              try clear p6
              try clear c8
              try clear c8b0
              try clear c8b1
              try clear c8b2
              try clear c10
              try clear c10b0
              try clear c10b1
              try clear c10b2
              try clear c12
              try clear c12b0
              try clear c12b1
              try clear c12b2
              try clear c13
              try clear c14
              try clear c14b0
              try clear c14b1
              try clear c14b2
              try clear c16
              try clear c16b0
              try clear c16b1
              try clear c16b2
              try clear c18
              try clear c18b0
              try clear c18b1
              try clear c18b2
              try clear c19
              try clear c19b0
              try clear c19b1
              try clear c19b2
              try clear p27
              try clear q27
              try clear hx27
              try clear qi27
              try clear c37
              try clear c37b0
              try clear c37b1
              try clear c38
              try clear c38b0
              try clear c38b1
              try clear c38b2
              try clear c39
              try clear c39b0
              try clear c42
              try clear c42b0
              try clear c42b1
              try clear c43
              try clear c43b0
              try clear c43b1
              try clear c44
              try clear c44b0
              try clear c44b1
              try clear c46
              try clear c46b0
              try clear c46b1
              try clear c47
              try clear c47b0
              try clear c47b1
              try clear c49
              try clear c49b0
              try clear c49b1
              try clear c52
              try clear c52b0
              try clear c52b1
              try clear c55
              try clear c55b0
              try clear c55b1
              try clear c56
              try clear c56b0
              try clear c56b1
              try clear c58
              try clear c58b0
              try clear c58b1
              try clear c61
              try clear c61b0
              try clear c61b1
              try clear hcz25_0
              try clear hcz25_1
              try clear hcz25_2
              try clear hcz25_3
              try clear hcz25_4
              try clear hcz25_5
              try clear hcz25_6
              try clear hcz36_0
              try clear hcz36_1
              try clear hcz36_2
              try clear hcz36_3
              try clear hcz36_4
              try clear hcz36_5
              try clear hcz36_6
              try clear hcz45_0
              try clear hcz45_1
              try clear hcz45_2
              try clear hcz45_3
              try clear hcz45_4
              try clear hcz45_5
              try clear hcz45_6
              try clear hcz48_0
              try clear hcz48_1
              try clear hcz48_2
              try clear hcz48_3
              try clear hcz48_4
              try clear hcz48_5
              try clear hcz48_6
              try clear hcz50_0
              try clear hcz50_1
              try clear hcz50_2
              try clear hcz50_3
              try clear hcz50_4
              try clear hcz50_5
              try clear hcz50_6
              try clear hcz51_0
              try clear hcz51_1
              try clear hcz51_2
              try clear hcz51_3
              try clear hcz51_4
              try clear hcz51_5
              try clear hcz51_6
              try clear hcz53_0
              try clear hcz53_1
              try clear hcz53_2
              try clear hcz53_3
              try clear hcz53_4
              try clear hcz53_5
              try clear hcz53_6
              try clear hcz54_0
              try clear hcz54_1
              try clear hcz54_2
              try clear hcz54_3
              try clear hcz54_4
              try clear hcz54_5
              try clear hcz54_6
              try clear hcz57_0
              try clear hcz57_1
              try clear hcz57_2
              try clear hcz57_3
              try clear hcz57_4
              try clear hcz57_5
              try clear hcz57_6
              try clear hcz59_0
              try clear hcz59_1
              try clear hcz59_2
              try clear hcz59_3
              try clear hcz59_4
              try clear hcz59_5
              try clear hcz59_6
              try clear hcz60_0
              try clear hcz60_1
              try clear hcz60_2
              try clear hcz60_3
              try clear hcz60_4
              try clear hcz60_5
              try clear hcz60_6
              try clear hcz62_0
              try clear hcz62_1
              try clear hcz62_2
              try clear hcz62_3
              try clear hcz62_4
              try clear hcz62_5
              try clear hcz62_6
              try clear hfz25_0
              try clear hfz25_1
              try clear hfz25_2
              try clear hfz25_3
              try clear hfz25_4
              try clear hfz25_5
              try clear hfz25_6
              try clear hfz36_0
              try clear hfz36_1
              try clear hfz36_2
              try clear hfz36_3
              try clear hfz36_4
              try clear hfz36_5
              try clear hfz36_6
              try clear hfz45_0
              try clear hfz45_1
              try clear hfz45_2
              try clear hfz45_3
              try clear hfz45_4
              try clear hfz45_5
              try clear hfz45_6
              try clear hfz48_0
              try clear hfz48_1
              try clear hfz48_2
              try clear hfz48_3
              try clear hfz48_4
              try clear hfz48_5
              try clear hfz48_6
              try clear hfz50_0
              try clear hfz50_1
              try clear hfz50_2
              try clear hfz50_3
              try clear hfz50_4
              try clear hfz50_5
              try clear hfz50_6
              try clear hfz51_0
              try clear hfz51_1
              try clear hfz51_2
              try clear hfz51_3
              try clear hfz51_4
              try clear hfz51_5
              try clear hfz51_6
              try clear hfz53_0
              try clear hfz53_1
              try clear hfz53_2
              try clear hfz53_3
              try clear hfz53_4
              try clear hfz53_5
              try clear hfz53_6
              try clear hfz54_0
              try clear hfz54_1
              try clear hfz54_2
              try clear hfz54_3
              try clear hfz54_4
              try clear hfz54_5
              try clear hfz54_6
              try clear hfz57_0
              try clear hfz57_1
              try clear hfz57_2
              try clear hfz57_3
              try clear hfz57_4
              try clear hfz57_5
              try clear hfz57_6
              try clear hfz59_0
              try clear hfz59_1
              try clear hfz59_2
              try clear hfz59_3
              try clear hfz59_4
              try clear hfz59_5
              try clear hfz59_6
              try clear hfz60_0
              try clear hfz60_1
              try clear hfz60_2
              try clear hfz60_3
              try clear hfz60_4
              try clear hfz60_5
              try clear hfz60_6
              try clear hfz62_0
              try clear hfz62_1
              try clear hfz62_2
              try clear hfz62_3
              try clear hfz62_4
              try clear hfz62_5
              try clear hfz62_6
              try clear hx275_0
              try clear hx275_1
              try clear hx275_2
              try clear hx275_3
              try clear hx275_4
              try clear hx275_5
              try clear hx275_6
              try clear p2
              try clear p27
              try clear p275
              try clear q2
              try clear q27
              try clear q275
              obtain ⟨kq, x94_40, rfl, HA, HJ40, HO_9, BK276, HB⟩ := hcut
              cases kq with
              | zero => exact absurd HA.out (by simp [cadencylaw05_TextFree.j2])
              | succ kj40 =>
                have H := HA.out
                clear HA
                simp only [cadencylaw05_TextFree.j2] at H
                by_cases c63 : x94_40 = true
                · subst c63
                  have H1 : (cadencylaw05_TextFree.l0 kj40 a1 a2 t271 y283 x10_2 (wrap64 (x11_2 + 1)) ((rd_T33 t272 0).f0) ((rd_T33 t272 0).f1) ((rd_T33 t272 0).f2) ((rd_T33 t272 0).f3) ((rd_T33 t272 0).f4) ((rd_T33 t272 0).f5) ((rd_T33 t272 0).f6)) = some r := by rw [if_pos rfl] at H; exact H
                  clear H
                  have H := H1
                  clear H1
                  have H' := Aside0.mk H
                  clear H
                  go_wp2
                  go_roundg kj40
                  case measure => have := HJ19.out; have := HK2.out; have := HJ40.out; omega
                  case rel => exact ⟨(x10_2), (wrap64 (x11_2 + 1)), (by first | rfl | (simp; done) | (simp [*]; done)), (by first | rfl | (simp; done) | (simp [*]; done)), H', ⟨by have := HJ19.out; have := HK2.out; have := HJ40.out; omega⟩, ⟨by (with_reducible repeat (first | apply Kd.R_alloc | apply Kd.R_drewN | apply Kd.R_drew)); exact HO_9.out⟩, ⟨by (with_reducible repeat (first | refine blk_drewN ?_ _ | refine blk_drew ?_ | refine blk_alloc ?_ _)); exact BK276.out⟩, ⟨by repeat (first | (with_reducible first | exact HB.out | apply below_alloc | apply pw_below_drewN | apply below_drew1 | refine below_set ?_ GE276.out) | exact HB.out)⟩⟩
                · replace c63 := Bool.eq_false_iff.mpr c63
                  subst c63
                  have H1 : (if x10_2.size + 1 ≤ 9223372036854775807 then (if 0 ≤ (Int.tmod (wrap64 (x11_2 + t286)) 6) then (if (Int.tmod (wrap64 (x11_2 + t286)) 6) < (y283.length : Int) then (if (x10_2 ++ (⟨#[32]⟩ : ByteArray)).size + (rdOf ByteArray.empty y283 (Int.tmod (wrap64 (x11_2 + t286)) 6)).size ≤ 9223372036854775807 then (if (Go.bits .and .i64 a2 2) = 2 then (if ((x10_2 ++ (⟨#[32]⟩ : ByteArray)) ++ (rdOf ByteArray.empty y283 (Int.tmod (wrap64 (x11_2 + t286)) 6))).size + 2 ≤ 9223372036854775807 then (cadencylaw05_TextFree.l0 kj40 a1 a2 t271 y283 (((x10_2 ++ (⟨#[32]⟩ : ByteArray)) ++ (rdOf ByteArray.empty y283 (Int.tmod (wrap64 (x11_2 + t286)) 6))) ++ (⟨#[9, 32]⟩ : ByteArray)) (wrap64 (x11_2 + 1)) ((rd_T33 t272 0).f0) ((rd_T33 t272 0).f1) ((rd_T33 t272 0).f2) ((rd_T33 t272 0).f3) ((rd_T33 t272 0).f4) ((rd_T33 t272 0).f5) ((rd_T33 t272 0).f6)) else (none)) else (cadencylaw05_TextFree.l0 kj40 a1 a2 t271 y283 ((x10_2 ++ (⟨#[32]⟩ : ByteArray)) ++ (rdOf ByteArray.empty y283 (Int.tmod (wrap64 (x11_2 + t286)) 6))) (wrap64 (x11_2 + 1)) ((rd_T33 t272 0).f0) ((rd_T33 t272 0).f1) ((rd_T33 t272 0).f2) ((rd_T33 t272 0).f3) ((rd_T33 t272 0).f4) ((rd_T33 t272 0).f5) ((rd_T33 t272 0).f6))) else (none)) else (none)) else (none)) else (none)) = some r := by rw [if_neg (show ¬ (false = true) by decide)] at H; exact H
                  clear H
                  have H := H1
                  clear H1
                  by_cases c64 : x10_2.size + 1 ≤ 9223372036854775807
                  rotate_left
                  · rw [if_neg c64] at H
                    exact absurd H (by simp)
                  rw [if_pos c64] at H
                  have c64b0 := eq_true c64
                  have c64b1 : decide (x10_2.size + 1 ≤ 9223372036854775807) = true := decide_eq_true c64
                  try have c64b2 : (9223372036854775807 < x10_2.size + 1) = False := eq_false (Nat.not_lt.2 c64)
                  obtain ⟨ji65, hji65⟩ : ∃ j_ : Int, (Int.tmod (wrap64 (x11_2 + t286)) 6) = j_ := ⟨_, rfl⟩
                  replace H : (if 0 ≤ (ji65) then (if (ji65) < (y283.length : Int) then (if (x10_2 ++ (⟨#[32]⟩ : ByteArray)).size + (rdOf ByteArray.empty y283 (ji65)).size ≤ 9223372036854775807 then (if (Go.bits .and .i64 a2 2) = 2 then (if ((x10_2 ++ (⟨#[32]⟩ : ByteArray)) ++ (rdOf ByteArray.empty y283 (ji65))).size + 2 ≤ 9223372036854775807 then (cadencylaw05_TextFree.l0 kj40 a1 a2 t271 y283 (((x10_2 ++ (⟨#[32]⟩ : ByteArray)) ++ (rdOf ByteArray.empty y283 (ji65))) ++ (⟨#[9, 32]⟩ : ByteArray)) (wrap64 (x11_2 + 1)) ((rd_T33 t272 0).f0) ((rd_T33 t272 0).f1) ((rd_T33 t272 0).f2) ((rd_T33 t272 0).f3) ((rd_T33 t272 0).f4) ((rd_T33 t272 0).f5) ((rd_T33 t272 0).f6)) else (none)) else (cadencylaw05_TextFree.l0 kj40 a1 a2 t271 y283 ((x10_2 ++ (⟨#[32]⟩ : ByteArray)) ++ (rdOf ByteArray.empty y283 (ji65))) (wrap64 (x11_2 + 1)) ((rd_T33 t272 0).f0) ((rd_T33 t272 0).f1) ((rd_T33 t272 0).f2) ((rd_T33 t272 0).f3) ((rd_T33 t272 0).f4) ((rd_T33 t272 0).f5) ((rd_T33 t272 0).f6))) else (none)) else (none)) else (none)) = some r := by first | (rw [hji65] at H; exact H) | (simp only [hji65] at H ⊢; exact H)
                  by_cases c66 : 0 ≤ (ji65)
                  rotate_left
                  · rw [if_neg c66] at H
                    exact absurd H (by simp)
                  rw [if_pos c66] at H
                  have c66b0 : decide (0 ≤ (ji65)) = true := decide_eq_true c66
                  clear c66
                  by_cases c67 : (ji65) < (y283.length : Int)
                  rotate_left
                  · rw [if_neg c67] at H
                    exact absurd H (by simp)
                  rw [if_pos c67] at H
                  have c67b0 : decide ((ji65) < (y283.length : Int)) = true := decide_eq_true c67
                  clear c67
                  by_cases c68 : (x10_2 ++ (⟨#[32]⟩ : ByteArray)).size + (rdOf ByteArray.empty y283 (ji65)).size ≤ 9223372036854775807
                  rotate_left
                  · rw [if_neg c68] at H
                    exact absurd H (by simp)
                  rw [if_pos c68] at H
                  have c68b0 := eq_true c68
                  have c68b1 : decide ((x10_2 ++ (⟨#[32]⟩ : ByteArray)).size + (rdOf ByteArray.empty y283 (ji65)).size ≤ 9223372036854775807) = true := decide_eq_true c68
                  try have c68b2 : (9223372036854775807 < (x10_2 ++ (⟨#[32]⟩ : ByteArray)).size + (rdOf ByteArray.empty y283 (ji65)).size) = False := eq_false (Nat.not_lt.2 c68)
                  try have c68b7 := c68b2
                  try simp only [ByteArray.size_append, show ((⟨#[32]⟩ : ByteArray)).size = 1 from rfl] at c68b7
                  by_cases c69 : (Go.bits .and .i64 a2 2) = 2
                  · rw [if_pos c69] at H
                    have c69b0 : ((Go.bits .and .i64 a2 2) == 2) = true := beq_iff_eq.mpr c69
                    have c69b1 : ((Go.bits .and .i64 a2 2) != 2) = false := bne_eq_false_iff_eq.mpr c69
                    clear c69
                    by_cases c70 : ((x10_2 ++ (⟨#[32]⟩ : ByteArray)) ++ (rdOf ByteArray.empty y283 (ji65))).size + 2 ≤ 9223372036854775807
                    rotate_left
                    · rw [if_neg c70] at H
                      exact absurd H (by simp)
                    rw [if_pos c70] at H
                    have c70b0 := eq_true c70
                    have c70b1 : decide (((x10_2 ++ (⟨#[32]⟩ : ByteArray)) ++ (rdOf ByteArray.empty y283 (ji65))).size + 2 ≤ 9223372036854775807) = true := decide_eq_true c70
                    try have c70b2 : (9223372036854775807 < ((x10_2 ++ (⟨#[32]⟩ : ByteArray)) ++ (rdOf ByteArray.empty y283 (ji65))).size + 2) = False := eq_false (Nat.not_lt.2 c70)
                    try have c70b7 := c70b2
                    try simp only [ByteArray.size_append, show ((⟨#[32]⟩ : ByteArray)).size = 1 from rfl] at c70b7
                    have H' := Aside0.mk H
                    clear H
                    obtain ⟨Ao71, co71, eo71⟩ := Kd.R_slice HO_9.out
                    subst eo71
                    have p287 : 0 ≤ ((ji65) : Int) := of_decide_eq_true (by first | (with_reducible assumption) | assumption)
                    have q287 : (ji65) < (y283.length : Int) := of_decide_eq_true (by first | (with_reducible assumption) | assumption)
                    obtain ⟨ad287, e287, hx287_0⟩ := Kd.at_string (Kd.R_reads' HO_9.out).2.2 (ji65) p287 q287
                    cases e287
                    replace p287 := eq_true p287
                    replace q287 := eq_true q287
                    go_wp2
                    go_roundg kj40
                    case measure => have := HJ19.out; have := HK2.out; have := HJ40.out; omega
                    case rel => exact ⟨(((x10_2 ++ (⟨#[32]⟩ : ByteArray)) ++ (rdOf ByteArray.empty y283 (ji65))) ++ (⟨#[9, 32]⟩ : ByteArray)), (wrap64 (x11_2 + 1)), (by first | rfl | (simp; done) | (simp only [← hji65] <;> (first | rfl | simp)) | (simp [*]; done)), (by first | rfl | (simp; done) | (simp [*]; done)), H', ⟨by have := HJ19.out; have := HK2.out; have := HJ40.out; omega⟩, ⟨by (with_reducible repeat (first | apply Kd.R_alloc | apply Kd.R_drewN | apply Kd.R_drew)); exact HO_9.out⟩, ⟨by (with_reducible repeat (first | refine blk_drewN ?_ _ | refine blk_drew ?_ | refine blk_alloc ?_ _)); exact BK276.out⟩, ⟨by repeat (first | (with_reducible first | exact HB.out | apply below_alloc | apply pw_below_drewN | apply below_drew1 | refine below_set ?_ GE276.out) | exact HB.out)⟩⟩
                  · rw [if_neg c69] at H
                    have c69b0 : ((Go.bits .and .i64 a2 2) == 2) = false := beq_eq_false_iff_ne.mpr c69
                    have c69b1 : ((Go.bits .and .i64 a2 2) != 2) = true := bne_iff_ne.mpr c69
                    have H' := Aside0.mk H
                    clear H
                    obtain ⟨Ao72, co72, eo72⟩ := Kd.R_slice HO_9.out
                    subst eo72
                    have p287 : 0 ≤ ((ji65) : Int) := of_decide_eq_true (by first | (with_reducible assumption) | assumption)
                    have q287 : (ji65) < (y283.length : Int) := of_decide_eq_true (by first | (with_reducible assumption) | assumption)
                    obtain ⟨ad287, e287, hx287_0⟩ := Kd.at_string (Kd.R_reads' HO_9.out).2.2 (ji65) p287 q287
                    cases e287
                    replace p287 := eq_true p287
                    replace q287 := eq_true q287
                    go_wp2
                    go_roundg kj40
                    case measure => have := HJ19.out; have := HK2.out; have := HJ40.out; omega
                    case rel => exact ⟨((x10_2 ++ (⟨#[32]⟩ : ByteArray)) ++ (rdOf ByteArray.empty y283 (ji65))), (wrap64 (x11_2 + 1)), (by first | rfl | (simp; done) | (simp only [← hji65] <;> (first | rfl | simp)) | (simp [*]; done)), (by first | rfl | (simp; done) | (simp [*]; done)), H', ⟨by have := HJ19.out; have := HK2.out; have := HJ40.out; omega⟩, ⟨by (with_reducible repeat (first | apply Kd.R_alloc | apply Kd.R_drewN | apply Kd.R_drew)); exact HO_9.out⟩, ⟨by (with_reducible repeat (first | refine blk_drewN ?_ _ | refine blk_drew ?_ | refine blk_alloc ?_ _)); exact BK276.out⟩, ⟨by repeat (first | (with_reducible first | exact HB.out | apply below_alloc | apply pw_below_drewN | apply below_drew1 | refine below_set ?_ GE276.out) | exact HB.out)⟩⟩
          · rw [if_neg c39] at H
            have c39b0 : decide (x11_2 < 6) = false := decide_eq_false c39
            clear c39
            by_cases c73 : (Go.bits .and .i64 a2 1) = 1
            · rw [if_pos c73] at H
              have c73b0 : ((Go.bits .and .i64 a2 1) == 1) = true := beq_iff_eq.mpr c73
              have c73b1 : ((Go.bits .and .i64 a2 1) != 1) = false := bne_eq_false_iff_eq.mpr c73
              clear c73
              by_cases c74 : x10_2.size + 5 ≤ 9223372036854775807
              rotate_left
              · rw [if_neg c74] at H
                exact absurd H (by simp)
              rw [if_pos c74] at H
              have c74b0 := eq_true c74
              have c74b1 : decide (x10_2.size + 5 ≤ 9223372036854775807) = true := decide_eq_true c74
              try have c74b2 : (9223372036854775807 < x10_2.size + 5) = False := eq_false (Nat.not_lt.2 c74)
              replace H := Option.bind_eq_some_iff.mp H
              obtain ⟨⟨t288, t289, t290⟩, A750, H⟩ := H
              replace H : (if t271 = true then (if t290 = 0 then (if t289 = ((x10_2 ++ (⟨#[35, 32, 99, 61, 57]⟩ : ByteArray)).size : Int) then (if (t288.length : Int) = 1 then (if 0 < (t288.length : Int) then (some ((((rd_T33 t288 0).f0).toList) == ((rd_T33 t272 0).f0).toList && (((rd_T33 t288 0).f1) == ((rd_T33 t272 0).f1) && (((rd_T33 t288 0).f2) == ((rd_T33 t272 0).f2) && (((rd_T33 t288 0).f3) == ((rd_T33 t272 0).f3) && (((rd_T33 t288 0).f4) == ((rd_T33 t272 0).f4) && (((rd_T33 t288 0).f5) == ((rd_T33 t272 0).f5) && (((rd_T33 t288 0).f6) == ((rd_T33 t272 0).f6))))))))) else (none)) else (some false)) else (some false)) else (some false)) else (some false)) = some r := H
              have A75 := Aside0.mk A750
              clear A750
              by_cases c76 : t271 = true
              · subst c76
                have H1 : (if t290 = 0 then (if t289 = ((x10_2 ++ (⟨#[35, 32, 99, 61, 57]⟩ : ByteArray)).size : Int) then (if (t288.length : Int) = 1 then (if 0 < (t288.length : Int) then (some ((((rd_T33 t288 0).f0).toList) == ((rd_T33 t272 0).f0).toList && (((rd_T33 t288 0).f1) == ((rd_T33 t272 0).f1) && (((rd_T33 t288 0).f2) == ((rd_T33 t272 0).f2) && (((rd_T33 t288 0).f3) == ((rd_T33 t272 0).f3) && (((rd_T33 t288 0).f4) == ((rd_T33 t272 0).f4) && (((rd_T33 t288 0).f5) == ((rd_T33 t272 0).f5) && (((rd_T33 t288 0).f6) == ((rd_T33 t272 0).f6))))))))) else (none)) else (some false)) else (some false)) else (some false)) = some r := by rw [if_pos rfl] at H; exact H
                clear H
                have H := H1
                clear H1
                by_cases c77 : t290 = 0
                · rw [if_pos c77] at H
                  have c77b0 : (t290 == 0) = true := beq_iff_eq.mpr c77
                  have c77b1 : (t290 != 0) = false := bne_eq_false_iff_eq.mpr c77
                  clear c77
                  by_cases c78 : t289 = ((x10_2 ++ (⟨#[35, 32, 99, 61, 57]⟩ : ByteArray)).size : Int)
                  · rw [if_pos c78] at H
                    have c78b0 : (t289 == ((x10_2 ++ (⟨#[35, 32, 99, 61, 57]⟩ : ByteArray)).size : Int)) = true := beq_iff_eq.mpr c78
                    have c78b1 : (t289 != ((x10_2 ++ (⟨#[35, 32, 99, 61, 57]⟩ : ByteArray)).size : Int)) = false := bne_eq_false_iff_eq.mpr c78
                    try have c78b7 := c78b0
                    try simp only [ByteArray.size_append, show ((⟨#[35, 32, 99, 61, 57]⟩ : ByteArray)).size = 5 from rfl] at c78b7
                    try have c78b9 := c78b0
                    try simp only [ByteArray.size_append, show ((⟨#[35, 32, 99, 61, 57]⟩ : ByteArray)).size = 5 from rfl, Int.natCast_add] at c78b9
                    try have c78b11 := c78b0
                    try simp only [ByteArray.size_append, show ((⟨#[35, 32, 99, 61, 57]⟩ : ByteArray)).size = 5 from rfl, Int.natCast_add, Int.cast_ofNat_Int] at c78b11
                    clear c78
                    by_cases c79 : (t288.length : Int) = 1
                    · rw [if_pos c79] at H
                      have c79b0 : ((t288.length : Int) == 1) = true := beq_iff_eq.mpr c79
                      have c79b1 : ((t288.length : Int) != 1) = false := bne_eq_false_iff_eq.mpr c79
                      clear c79
                      by_cases c80 : 0 < (t288.length : Int)
                      rotate_left
                      · rw [if_neg c80] at H
                        exact absurd H (by simp)
                      rw [if_pos c80] at H
                      have c80b0 : decide (0 < (t288.length : Int)) = true := decide_eq_true c80
                      have c80b1 : decide (0 < t288.length) = true := decide_eq_true (by omega)
                      clear c80
                      obtain rfl := Option.some.inj H
                      try go_wp2_with (first | ((with_reducible refine gate_callee (f := 14) rfl ?_); refine goesL_ (some 114) rfl rfl Try.func14 (by kernel_rfl) rfl #[.string (x10_2 ++ (⟨#[35, 32, 99, 61, 57]⟩ : ByteArray))] rfl (by (try simp only [List.map_toArray, List.map_cons, List.map_nil]); first | done | rfl | (simp only [List.length_drop, List.length_take]; rfl)) ?_; (with_reducible refine (text_Read.calls (x10_2 ++ (⟨#[35, 32, 99, 61, 57]⟩ : ByteArray)) t288 t289 t290 _ A75.out).mono ?_); rintro e w81 ⟨v291, rfl, ho0, hb⟩; refine ⟨_, rfl, ?_⟩; have n0_ := Aside0.mk (Kd.R_below (by (with_reducible repeat (first | apply Kd.R_alloc | apply Kd.R_drewN | apply Kd.R_drew)); exact HO_9.out) hb); have n1_ := Aside0.mk (Kd.R_lower (Kd.R_newB ho0 (g := gb276) (o := .cells #[.string ((rd_T33 t272 0).f0), .int .i64 ((rd_T33 t272 0).f1), .int .i64 ((rd_T33 t272 0).f2), .int .i64 ((rd_T33 t272 0).f3), .int .i64 ((rd_T33 t272 0).f4), .int .i64 ((rd_T33 t272 0).f5), .int .i64 ((rd_T33 t272 0).f6)] 33 (0, 0)) (by (with_reducible repeat (first | refine blk_drewN ?_ _ | refine blk_drew ?_ | refine blk_alloc ?_ _)); exact BK276.out)) (below_size (by repeat (first | (with_reducible first | exact HB.out | apply below_alloc | apply pw_below_drewN | apply below_drew1 | refine below_set ?_ GE276.out) | exact HB.out)))); have n2_ := Aside0.mk (blk_below (g := gb276) (o := .cells #[.string ((rd_T33 t272 0).f0), .int .i64 ((rd_T33 t272 0).f1), .int .i64 ((rd_T33 t272 0).f2), .int .i64 ((rd_T33 t272 0).f3), .int .i64 ((rd_T33 t272 0).f4), .int .i64 ((rd_T33 t272 0).f5), .int .i64 ((rd_T33 t272 0).f6)] 33 (0, 0)) (by (with_reducible repeat (first | refine blk_drewN ?_ _ | refine blk_drew ?_ | refine blk_alloc ?_ _)); exact BK276.out) hb); have n3_ := Aside0.mk (below_step (by repeat (first | (with_reducible first | exact HB.out | apply below_alloc | apply pw_below_drewN | apply below_drew1 | refine below_set ?_ GE276.out) | exact HB.out)) hb); clear HO_9; clear BK276; clear HB; have HO_9 := n0_; have HO292 := n1_; have BK276 := n2_; have HB := n3_; clear n0_ n1_ n2_ n3_; (try clear hb); (try clear hb2); (try clear hk); (try clear hi); (try clear ho0)))
                      have n0_ := Aside0.mk (Kd.R_drew HO_9.out)
                      have n1_ := Aside0.mk (Kd.R_drew HO292.out)
                      have n2_ := Aside0.mk (blk_drew BK276.out)
                      have n3_ := Aside0.mk (below_drew1 HB.out)
                      clear HO_9
                      clear HO292
                      clear BK276
                      clear HB
                      have HO_9 := n0_
                      have HO292 := n1_
                      have BK276 := n2_
                      have HB := n3_
                      clear n0_ n1_ n2_ n3_
                      obtain ⟨Ao83, co83, eo83⟩ := Kd.R_slice HO292.out
                      (first | subst eo83 | (injection eo83 with f1_ f2_ f3_; have f4_ := f1_.symm; have f5_ := f3_.symm; clear f1_ f2_ f3_; subst f4_; subst f5_))
                      have p293 : 0 ≤ (0 : Int) := (by omega)
                      have q293 : 0 < (t288.length : Int) := of_decide_eq_true (by first | (with_reducible assumption) | assumption)
                      obtain ⟨ad293, e293, hx293_0, hx293_1, hx293_2, hx293_3, hx293_4, hx293_5, hx293_6⟩ := at_T33 (Kd.R_reads' HO292.out).2.2 0 p293 q293
                      cases e293
                      have qi293 : (0 < t288.length) = True := eq_true (by omega)
                      (try rw [show ((0 : Int)).toNat = 0 from rfl] at hx293_0)
                      (try rw [show 0 * 7 = 0 from rfl] at hx293_0)
                      (try rw [Addr.add_zero'] at hx293_0)
                      (try rw [show ((0 : Int)).toNat = 0 from rfl] at hx293_1)
                      (try rw [show 0 * 7 = 0 from rfl] at hx293_1)
                      (try rw [Addr.add_zero'] at hx293_1)
                      (try rw [show ((0 : Int)).toNat = 0 from rfl] at hx293_2)
                      (try rw [show 0 * 7 = 0 from rfl] at hx293_2)
                      (try rw [Addr.add_zero'] at hx293_2)
                      (try rw [show ((0 : Int)).toNat = 0 from rfl] at hx293_3)
                      (try rw [show 0 * 7 = 0 from rfl] at hx293_3)
                      (try rw [Addr.add_zero'] at hx293_3)
                      (try rw [show ((0 : Int)).toNat = 0 from rfl] at hx293_4)
                      (try rw [show 0 * 7 = 0 from rfl] at hx293_4)
                      (try rw [Addr.add_zero'] at hx293_4)
                      (try rw [show ((0 : Int)).toNat = 0 from rfl] at hx293_5)
                      (try rw [show 0 * 7 = 0 from rfl] at hx293_5)
                      (try rw [Addr.add_zero'] at hx293_5)
                      (try rw [show ((0 : Int)).toNat = 0 from rfl] at hx293_6)
                      (try rw [show 0 * 7 = 0 from rfl] at hx293_6)
                      (try rw [Addr.add_zero'] at hx293_6)
                      replace p293 := eq_true p293
                      replace q293 := eq_true q293
                      refine start_ (n := 24) (S := fun w' => w'.cell? ⟨gb276, 0, none⟩ = some (.string ((rd_T33 t272 0).f0)) ∧ w'.cell? ⟨gb276, 1, none⟩ = some (.int .i64 ((rd_T33 t272 0).f1)) ∧ w'.cell? ⟨gb276, 2, none⟩ = some (.int .i64 ((rd_T33 t272 0).f2)) ∧ w'.cell? ⟨gb276, 3, none⟩ = some (.int .i64 ((rd_T33 t272 0).f3)) ∧ w'.cell? ⟨gb276, 4, none⟩ = some (.int .i64 ((rd_T33 t272 0).f4)) ∧ w'.cell? ⟨gb276, 5, none⟩ = some (.int .i64 ((rd_T33 t272 0).f5)) ∧ w'.cell? ⟨gb276, 6, none⟩ = some (.int .i64 ((rd_T33 t272 0).f6)) ∧ w'.cell? ad293 = some (.string ((rd_T33 t288 0).f0)) ∧ w'.cell? ⟨ad293.block, ad293.off + 1, none⟩ = some (.int .i64 ((rd_T33 t288 0).f1)) ∧ w'.cell? ⟨ad293.block, ad293.off + 2, none⟩ = some (.int .i64 ((rd_T33 t288 0).f2)) ∧ w'.cell? ⟨ad293.block, ad293.off + 3, none⟩ = some (.int .i64 ((rd_T33 t288 0).f3)) ∧ w'.cell? ⟨ad293.block, ad293.off + 4, none⟩ = some (.int .i64 ((rd_T33 t288 0).f4)) ∧ w'.cell? ⟨ad293.block, ad293.off + 5, none⟩ = some (.int .i64 ((rd_T33 t288 0).f5)) ∧ w'.cell? ⟨ad293.block, ad293.off + 6, none⟩ = some (.int .i64 ((rd_T33 t288 0).f6))) (ds := []) #[false, false, false, false, false, false, false, false, false, false, false, false, false, false, false, false, false, false, false, false, false, false, false, false] (by kernel_rfl) rfl rfl ⟨(blk_cell BK276.out 0).trans rfl, (blk_cell BK276.out 1).trans rfl, (blk_cell BK276.out 2).trans rfl, (blk_cell BK276.out 3).trans rfl, (blk_cell BK276.out 4).trans rfl, (blk_cell BK276.out 5).trans rfl, (blk_cell BK276.out 6).trans rfl, hx293_0, hx293_1, hx293_2, hx293_3, hx293_4, hx293_5, hx293_6⟩ (fun hHeld => ?_); refine with_tabW cadencylaw05_TextFree.tab18 cadencylaw05_TextFree.bits18 (fun HT_ HW_ => ?_)
                      generalize w81.drew = w82 at HO_9 HO292 BK276 HB hx293_0 hx293_1 hx293_2 hx293_3 hx293_4 hx293_5 hx293_6 hHeld ⊢
                      refine pure_ (i := 0) (N := some 118) (v := ?_) (a' := ?_) #[true, false, false, false, false, false, false, false, false, false, false, false, false, false, false, false, false, false, false, false, false, false, false, false] rfl rfl (any_of HT_.out (by kernel_rfl)) (fun _ _ _ h => h) (Or.inl ⟨by rfl, ?_⟩) ?_ ?_
                      rotate_left
                      · intro w'
                        go_simp
                        with_reducible rfl
                      rotate_left
                      · simp only [Act.put, List.setIfInBounds_toArray, List.set_cons_zero, List.set_cons_succ, i64_w, i32_w]
                        rfl
                      refine pure_ (i := 1) (N := some 119) (v := ?_) (a' := ?_) #[true, true, false, false, false, false, false, false, false, false, false, false, false, false, false, false, false, false, false, false, false, false, false, false] rfl rfl (any_of HT_.out (by kernel_rfl)) (fun _ _ _ h => h) (Or.inl ⟨by rfl, ?_⟩) ?_ ?_
                      rotate_left
                      · intro w'
                        go_simp
                        with_reducible rfl
                      rotate_left
                      · simp only [Act.put, List.setIfInBounds_toArray, List.set_cons_zero, List.set_cons_succ, i64_w, i32_w]
                        rfl
                      refine pure_ (i := 2) (N := some 120) (v := ?_) (a' := ?_) #[true, true, true, false, false, false, false, false, false, false, false, false, false, false, false, false, false, false, false, false, false, false, false, false] rfl rfl (any_of HT_.out (by kernel_rfl)) (fun _ _ _ h => h) (Or.inl ⟨by rfl, ?_⟩) ?_ ?_
                      rotate_left
                      · intro w'
                        go_simp
                        with_reducible rfl
                      rotate_left
                      · simp only [Act.put, List.setIfInBounds_toArray, List.set_cons_zero, List.set_cons_succ, i64_w, i32_w]
                        rfl
                      refine pure_ (i := 3) (N := some 121) (v := ?_) (a' := ?_) #[true, true, true, true, false, false, false, false, false, false, false, false, false, false, false, false, false, false, false, false, false, false, false, false] rfl rfl (any_of HT_.out (by kernel_rfl)) (fun _ _ _ h => h) (Or.inl ⟨by rfl, ?_⟩) ?_ ?_
                      rotate_left
                      · intro w'
                        go_simp
                        with_reducible rfl
                      rotate_left
                      · simp only [Act.put, List.setIfInBounds_toArray, List.set_cons_zero, List.set_cons_succ, i64_w, i32_w]
                        rfl
                      refine pure_ (i := 4) (N := some 122) (v := ?_) (a' := ?_) #[true, true, true, true, true, false, false, false, false, false, false, false, false, false, false, false, false, false, false, false, false, false, false, false] rfl rfl (any_of HT_.out (by kernel_rfl)) (fun _ _ _ h => h) (Or.inl ⟨by rfl, ?_⟩) ?_ ?_
                      rotate_left
                      · intro w'
                        go_simp
                        with_reducible rfl
                      rotate_left
                      · simp only [Act.put, List.setIfInBounds_toArray, List.set_cons_zero, List.set_cons_succ, i64_w, i32_w]
                        rfl
                      refine pure_ (i := 5) (N := some 123) (v := ?_) (a' := ?_) #[true, true, true, true, true, true, false, false, false, false, false, false, false, false, false, false, false, false, false, false, false, false, false, false] rfl rfl (any_of HT_.out (by kernel_rfl)) (fun _ _ _ h => h) (Or.inl ⟨by rfl, ?_⟩) ?_ ?_
                      rotate_left
                      · intro w'
                        go_simp
                        with_reducible rfl
                      rotate_left
                      · simp only [Act.put, List.setIfInBounds_toArray, List.set_cons_zero, List.set_cons_succ, i64_w, i32_w]
                        rfl
                      refine pure_ (i := 6) (N := some 124) (v := ?_) (a' := ?_) #[true, true, true, true, true, true, true, false, false, false, false, false, false, false, false, false, false, false, false, false, false, false, false, false] rfl rfl (any_of HT_.out (by kernel_rfl)) (fun _ _ _ h => h) (Or.inl ⟨by rfl, ?_⟩) ?_ ?_
                      rotate_left
                      · intro w'
                        go_simp
                        with_reducible rfl
                      rotate_left
                      · simp only [Act.put, List.setIfInBounds_toArray, List.set_cons_zero, List.set_cons_succ, i64_w, i32_w]
                        rfl
                      refine pure_ (i := 7) (N := some 125) (v := ?_) (a' := ?_) #[true, true, true, true, true, true, true, true, false, false, false, false, false, false, false, false, false, false, false, false, false, false, false, false] rfl rfl (any_of HT_.out (by kernel_rfl)) (fun _ _ _ h => h) (Or.inl ⟨by rfl, ?_⟩) ?_ ?_
                      rotate_left
                      · intro w'
                        go_simp
                        with_reducible rfl
                      rotate_left
                      · simp only [Act.put, List.setIfInBounds_toArray, List.set_cons_zero, List.set_cons_succ, i64_w, i32_w]
                        rfl
                      refine pure_ (i := 8) (N := some 126) (v := ?_) (a' := ?_) #[true, true, true, true, true, true, true, true, true, false, false, false, false, false, false, false, false, false, false, false, false, false, false, false] rfl rfl (any_of HT_.out (by kernel_rfl)) (fun _ _ _ h => h) (Or.inl ⟨by rfl, ?_⟩) ?_ ?_
                      rotate_left
                      · intro w'
                        go_simp
                        with_reducible rfl
                      rotate_left
                      · simp only [Act.put, List.setIfInBounds_toArray, List.set_cons_zero, List.set_cons_succ, i64_w, i32_w]
                        rfl
                      refine pure_ (i := 9) (N := some 127) (v := ?_) (a' := ?_) #[true, true, true, true, true, true, true, true, true, true, false, false, false, false, false, false, false, false, false, false, false, false, false, false] rfl rfl (any_of HT_.out (by kernel_rfl)) (fun _ _ _ h => h) (Or.inl ⟨by rfl, ?_⟩) ?_ ?_
                      rotate_left
                      · intro w'
                        go_simp
                        with_reducible rfl
                      rotate_left
                      · simp only [Act.put, List.setIfInBounds_toArray, List.set_cons_zero, List.set_cons_succ, i64_w, i32_w]
                        rfl
                      refine pure_ (i := 10) (N := some 128) (v := ?_) (a' := ?_) #[true, true, true, true, true, true, true, true, true, true, true, false, false, false, false, false, false, false, false, false, false, false, false, false] rfl rfl (any_of HT_.out (by kernel_rfl)) (fun _ _ _ h => h) (Or.inl ⟨by rfl, ?_⟩) ?_ ?_
                      rotate_left
                      · intro w'
                        go_simp
                        with_reducible rfl
                      rotate_left
                      · simp only [Act.put, List.setIfInBounds_toArray, List.set_cons_zero, List.set_cons_succ, i64_w, i32_w]
                        rfl
                      refine pure_ (i := 11) (N := some 129) (v := ?_) (a' := ?_) #[true, true, true, true, true, true, true, true, true, true, true, true, false, false, false, false, false, false, false, false, false, false, false, false] rfl rfl (any_of HT_.out (by kernel_rfl)) (fun _ _ _ h => h) (Or.inl ⟨by rfl, ?_⟩) ?_ ?_
                      rotate_left
                      · intro w'
                        go_simp
                        with_reducible rfl
                      rotate_left
                      · simp only [Act.put, List.setIfInBounds_toArray, List.set_cons_zero, List.set_cons_succ, i64_w, i32_w]
                        rfl
                      refine pure_ (i := 12) (N := some 130) (v := ?_) (a' := ?_) #[true, true, true, true, true, true, true, true, true, true, true, true, true, false, false, false, false, false, false, false, false, false, false, false] rfl rfl (any_of HT_.out (by kernel_rfl)) (fun _ _ _ h => h) (Or.inl ⟨by rfl, ?_⟩) ?_ ?_
                      rotate_left
                      · intro w'
                        go_simp
                        with_reducible rfl
                      rotate_left
                      · simp only [Act.put, List.setIfInBounds_toArray, List.set_cons_zero, List.set_cons_succ, i64_w, i32_w]
                        rfl
                      refine pure_ (i := 13) (N := some 131) (v := ?_) (a' := ?_) #[true, true, true, true, true, true, true, true, true, true, true, true, true, true, false, false, false, false, false, false, false, false, false, false] rfl rfl (any_of HT_.out (by kernel_rfl)) (fun _ _ _ h => h) (Or.inl ⟨by rfl, ?_⟩) ?_ ?_
                      rotate_left
                      · intro w'
                        go_simp
                        with_reducible rfl
                      rotate_left
                      · simp only [Act.put, List.setIfInBounds_toArray, List.set_cons_zero, List.set_cons_succ, i64_w, i32_w]
                        rfl
                      refine pure_ (i := 14) (N := some 132) (v := ?_) (a' := ?_) #[true, true, true, true, true, true, true, true, true, true, true, true, true, true, true, false, false, false, false, false, false, false, false, false] rfl rfl (any_of HT_.out (by kernel_rfl)) (fun _ _ _ h => h) (Or.inl ⟨by rfl, ?_⟩) ?_ ?_
                      rotate_left
                      · intro w'
                        go_simp
                        with_reducible rfl
                      rotate_left
                      · simp only [Act.put, List.setIfInBounds_toArray, List.set_cons_zero, List.set_cons_succ, i64_w, i32_w]
                        rfl
                      refine pure_ (i := 15) (N := some 133) (v := ?_) (a' := ?_) #[true, true, true, true, true, true, true, true, true, true, true, true, true, true, true, true, false, false, false, false, false, false, false, false] rfl rfl (any_of HT_.out (by kernel_rfl)) (fun _ _ _ h => h) (Or.inl ⟨by rfl, ?_⟩) ?_ ?_
                      rotate_left
                      · intro w'
                        go_simp
                        with_reducible rfl
                      rotate_left
                      · simp only [Act.put, List.setIfInBounds_toArray, List.set_cons_zero, List.set_cons_succ, i64_w, i32_w]
                        rfl
                      refine pure_ (i := 16) (N := some 134) (v := ?_) (a' := ?_) #[true, true, true, true, true, true, true, true, true, true, true, true, true, true, true, true, true, false, false, false, false, false, false, false] rfl rfl (any_of HT_.out (by kernel_rfl)) (fun _ _ _ h => h) (Or.inl ⟨by rfl, ?_⟩) ?_ ?_
                      rotate_left
                      · intro w'
                        go_simp
                        with_reducible rfl
                      rotate_left
                      · simp only [Act.put, List.setIfInBounds_toArray, List.set_cons_zero, List.set_cons_succ, i64_w, i32_w]
                        rfl
                      refine pure_ (i := 17) (N := some 135) (v := ?_) (a' := ?_) #[true, true, true, true, true, true, true, true, true, true, true, true, true, true, true, true, true, true, false, false, false, false, false, false] rfl rfl (any_of HT_.out (by kernel_rfl)) (fun _ _ _ h => h) (Or.inl ⟨by rfl, ?_⟩) ?_ ?_
                      rotate_left
                      · intro w'
                        go_simp
                        with_reducible rfl
                      rotate_left
                      · simp only [Act.put, List.setIfInBounds_toArray, List.set_cons_zero, List.set_cons_succ, i64_w, i32_w]
                        rfl
                      refine pure_ (i := 18) (N := some 136) (v := ?_) (a' := ?_) #[true, true, true, true, true, true, true, true, true, true, true, true, true, true, true, true, true, true, true, false, false, false, false, false] rfl rfl (any_of HT_.out (by kernel_rfl)) (fun _ _ _ h => h) (Or.inl ⟨by rfl, ?_⟩) ?_ ?_
                      rotate_left
                      · intro w'
                        go_simp
                        with_reducible rfl
                      rotate_left
                      · simp only [Act.put, List.setIfInBounds_toArray, List.set_cons_zero, List.set_cons_succ, i64_w, i32_w]
                        rfl
                      refine take_ (i := 19) (N := some 137) (v := ?_) (a' := ?_) #[true, true, true, true, true, true, true, true, true, true, true, true, true, true, true, true, true, true, true, true, false, false, false, false] rfl rfl (take_ofW HT_.out HW_.out (by kernel_rfl)) (fun _ _ _ h => h) (Or.inl ⟨by rfl, ?_⟩) hHeld ?_ ?_
                      rotate_left
                      · rintro w' ⟨s0, s1, s2, s3, s4, s5, s6, s7, s8, s9, s10, s11, s12, s13⟩
                        go_simp
                        with_reducible rfl
                      rotate_left
                      · simp only [Act.put, List.setIfInBounds_toArray, List.set_cons_zero, List.set_cons_succ, i64_w, i32_w]
                        rfl
                      refine take_ (i := 20) (N := some 138) (v := ?_) (a' := ?_) #[true, true, true, true, true, true, true, true, true, true, true, true, true, true, true, true, true, true, true, true, true, false, false, false] rfl rfl (take_ofW HT_.out HW_.out (by kernel_rfl)) (fun _ _ _ h => h) (Or.inl ⟨by rfl, ?_⟩) hHeld ?_ ?_
                      rotate_left
                      · rintro w' ⟨s0, s1, s2, s3, s4, s5, s6, s7, s8, s9, s10, s11, s12, s13⟩
                        go_simp
                        with_reducible rfl
                      rotate_left
                      · simp only [Act.put, List.setIfInBounds_toArray, List.set_cons_zero, List.set_cons_succ, i64_w, i32_w]
                        rfl
                      refine pure_ (i := 21) (N := some 139) (v := ?_) (a' := ?_) #[true, true, true, true, true, true, true, true, true, true, true, true, true, true, true, true, true, true, true, true, true, true, false, false] rfl rfl (any_of HT_.out (by kernel_rfl)) (fun _ _ _ h => h) (Or.inl ⟨by rfl, ?_⟩) ?_ ?_
                      rotate_left
                      · intro w'
                        go_simp
                        with_reducible rfl
                      rotate_left
                      · simp only [Act.put, List.setIfInBounds_toArray, List.set_cons_zero, List.set_cons_succ, i64_w, i32_w]
                        rfl
                      refine pure_ (i := 22) (N := some 140) (v := ?_) (a' := ?_) #[true, true, true, true, true, true, true, true, true, true, true, true, true, true, true, true, true, true, true, true, true, true, true, false] rfl rfl (any_of HT_.out (by kernel_rfl)) (fun _ _ _ h => h) (Or.inl ⟨by rfl, ?_⟩) ?_ ?_
                      rotate_left
                      · intro w'
                        go_simp
                        with_reducible rfl
                      rotate_left
                      · simp only [Act.put, List.setIfInBounds_toArray, List.set_cons_zero, List.set_cons_succ, i64_w, i32_w]
                        rfl
                      refine pure_ (i := 23) (N := some 6) (v := ?_) (a' := ?_) #[true, true, true, true, true, true, true, true, true, true, true, true, true, true, true, true, true, true, true, true, true, true, true, true] rfl rfl (any_of HT_.out (by kernel_rfl)) (fun _ _ _ h => h) (Or.inl ⟨by rfl, ?_⟩) ?_ ?_
                      rotate_left
                      · intro w'
                        go_simp
                        with_reducible rfl
                      rotate_left
                      · simp only [Act.put, List.setIfInBounds_toArray, List.set_cons_zero, List.set_cons_succ, i64_w, i32_w]
                        rfl
                      refine done_ (done_of HT_.out (by kernel_rfl)) ?_
                      try go_wp2
                      go_ret
                      exact ⟨by first | rfl | (simp [errW_none, errW_some] <;> rfl) | (simp [*, errW_none, errW_some] <;> rfl), by repeat (first | (with_reducible first | exact HB.out | apply below_alloc | apply pw_below_drewN | apply below_drew1 | refine below_set ?_ GE276.out) | exact HB.out)⟩
                    · rw [if_neg c79] at H
                      have c79b0 : ((t288.length : Int) == 1) = false := beq_eq_false_iff_ne.mpr c79
                      have c79b1 : ((t288.length : Int) != 1) = true := bne_iff_ne.mpr c79
                      obtain rfl := Option.some.inj H
                      exact absurd hr.out (by decide)
                  · rw [if_neg c78] at H
                    have c78b0 : (t289 == ((x10_2 ++ (⟨#[35, 32, 99, 61, 57]⟩ : ByteArray)).size : Int)) = false := beq_eq_false_iff_ne.mpr c78
                    have c78b1 : (t289 != ((x10_2 ++ (⟨#[35, 32, 99, 61, 57]⟩ : ByteArray)).size : Int)) = true := bne_iff_ne.mpr c78
                    try have c78b7 := c78b0
                    try simp only [ByteArray.size_append, show ((⟨#[35, 32, 99, 61, 57]⟩ : ByteArray)).size = 5 from rfl] at c78b7
                    try have c78b9 := c78b0
                    try simp only [ByteArray.size_append, show ((⟨#[35, 32, 99, 61, 57]⟩ : ByteArray)).size = 5 from rfl, Int.natCast_add] at c78b9
                    try have c78b11 := c78b0
                    try simp only [ByteArray.size_append, show ((⟨#[35, 32, 99, 61, 57]⟩ : ByteArray)).size = 5 from rfl, Int.natCast_add, Int.cast_ofNat_Int] at c78b11
                    obtain rfl := Option.some.inj H
                    exact absurd hr.out (by decide)
                · rw [if_neg c77] at H
                  have c77b0 : (t290 == 0) = false := beq_eq_false_iff_ne.mpr c77
                  have c77b1 : (t290 != 0) = true := bne_iff_ne.mpr c77
                  obtain rfl := Option.some.inj H
                  exact absurd hr.out (by decide)
              · replace c76 := Bool.eq_false_iff.mpr c76
                subst c76
                have H1 : (some false) = some r := by rw [if_neg (show ¬ (false = true) by decide)] at H; exact H
                clear H
                have H := H1
                clear H1
                obtain rfl := Option.some.inj H
                exact absurd hr.out (by decide)
            · rw [if_neg c73] at H
              have c73b0 : ((Go.bits .and .i64 a2 1) == 1) = false := beq_eq_false_iff_ne.mpr c73
              have c73b1 : ((Go.bits .and .i64 a2 1) != 1) = true := bne_iff_ne.mpr c73
              replace H := Option.bind_eq_some_iff.mp H
              obtain ⟨⟨t294, t295, t296⟩, A930, H⟩ := H
              replace H : (if t271 = true then (if t296 = 0 then (if t295 = (x10_2.size : Int) then (if (t294.length : Int) = 1 then (if 0 < (t294.length : Int) then (some ((((rd_T33 t294 0).f0).toList) == ((rd_T33 t272 0).f0).toList && (((rd_T33 t294 0).f1) == ((rd_T33 t272 0).f1) && (((rd_T33 t294 0).f2) == ((rd_T33 t272 0).f2) && (((rd_T33 t294 0).f3) == ((rd_T33 t272 0).f3) && (((rd_T33 t294 0).f4) == ((rd_T33 t272 0).f4) && (((rd_T33 t294 0).f5) == ((rd_T33 t272 0).f5) && (((rd_T33 t294 0).f6) == ((rd_T33 t272 0).f6))))))))) else (none)) else (some false)) else (some false)) else (some false)) else (some false)) = some r := H
              have A93 := Aside0.mk A930
              clear A930
              by_cases c94 : t271 = true
              · subst c94
                have H1 : (if t296 = 0 then (if t295 = (x10_2.size : Int) then (if (t294.length : Int) = 1 then (if 0 < (t294.length : Int) then (some ((((rd_T33 t294 0).f0).toList) == ((rd_T33 t272 0).f0).toList && (((rd_T33 t294 0).f1) == ((rd_T33 t272 0).f1) && (((rd_T33 t294 0).f2) == ((rd_T33 t272 0).f2) && (((rd_T33 t294 0).f3) == ((rd_T33 t272 0).f3) && (((rd_T33 t294 0).f4) == ((rd_T33 t272 0).f4) && (((rd_T33 t294 0).f5) == ((rd_T33 t272 0).f5) && (((rd_T33 t294 0).f6) == ((rd_T33 t272 0).f6))))))))) else (none)) else (some false)) else (some false)) else (some false)) = some r := by rw [if_pos rfl] at H; exact H
                clear H
                have H := H1
                clear H1
                by_cases c95 : t296 = 0
                · rw [if_pos c95] at H
                  have c95b0 : (t296 == 0) = true := beq_iff_eq.mpr c95
                  have c95b1 : (t296 != 0) = false := bne_eq_false_iff_eq.mpr c95
                  clear c95
                  by_cases c96 : t295 = (x10_2.size : Int)
                  · rw [if_pos c96] at H
                    have c96b0 : (t295 == (x10_2.size : Int)) = true := beq_iff_eq.mpr c96
                    have c96b1 : (t295 != (x10_2.size : Int)) = false := bne_eq_false_iff_eq.mpr c96
                    clear c96
                    by_cases c97 : (t294.length : Int) = 1
                    · rw [if_pos c97] at H
                      have c97b0 : ((t294.length : Int) == 1) = true := beq_iff_eq.mpr c97
                      have c97b1 : ((t294.length : Int) != 1) = false := bne_eq_false_iff_eq.mpr c97
                      clear c97
                      by_cases c98 : 0 < (t294.length : Int)
                      rotate_left
                      · rw [if_neg c98] at H
                        exact absurd H (by simp)
                      rw [if_pos c98] at H
                      have c98b0 : decide (0 < (t294.length : Int)) = true := decide_eq_true c98
                      have c98b1 : decide (0 < t294.length) = true := decide_eq_true (by omega)
                      clear c98
                      obtain rfl := Option.some.inj H
                      try go_wp2_with (first | ((with_reducible refine gate_callee (f := 14) rfl ?_); refine goesL_ (some 114) rfl rfl Try.func14 (by kernel_rfl) rfl #[.string x10_2] rfl (by (try simp only [List.map_toArray, List.map_cons, List.map_nil]); first | done | rfl | (simp only [List.length_drop, List.length_take]; rfl)) ?_; (with_reducible refine (text_Read.calls x10_2 t294 t295 t296 _ A93.out).mono ?_); rintro e w99 ⟨v297, rfl, ho0, hb⟩; refine ⟨_, rfl, ?_⟩; have n0_ := Aside0.mk (Kd.R_below (by (with_reducible repeat (first | apply Kd.R_alloc | apply Kd.R_drewN | apply Kd.R_drew)); exact HO_9.out) hb); have n1_ := Aside0.mk (Kd.R_lower (Kd.R_newB ho0 (g := gb276) (o := .cells #[.string ((rd_T33 t272 0).f0), .int .i64 ((rd_T33 t272 0).f1), .int .i64 ((rd_T33 t272 0).f2), .int .i64 ((rd_T33 t272 0).f3), .int .i64 ((rd_T33 t272 0).f4), .int .i64 ((rd_T33 t272 0).f5), .int .i64 ((rd_T33 t272 0).f6)] 33 (0, 0)) (by (with_reducible repeat (first | refine blk_drewN ?_ _ | refine blk_drew ?_ | refine blk_alloc ?_ _)); exact BK276.out)) (below_size (by repeat (first | (with_reducible first | exact HB.out | apply below_alloc | apply pw_below_drewN | apply below_drew1 | refine below_set ?_ GE276.out) | exact HB.out)))); have n2_ := Aside0.mk (blk_below (g := gb276) (o := .cells #[.string ((rd_T33 t272 0).f0), .int .i64 ((rd_T33 t272 0).f1), .int .i64 ((rd_T33 t272 0).f2), .int .i64 ((rd_T33 t272 0).f3), .int .i64 ((rd_T33 t272 0).f4), .int .i64 ((rd_T33 t272 0).f5), .int .i64 ((rd_T33 t272 0).f6)] 33 (0, 0)) (by (with_reducible repeat (first | refine blk_drewN ?_ _ | refine blk_drew ?_ | refine blk_alloc ?_ _)); exact BK276.out) hb); have n3_ := Aside0.mk (below_step (by repeat (first | (with_reducible first | exact HB.out | apply below_alloc | apply pw_below_drewN | apply below_drew1 | refine below_set ?_ GE276.out) | exact HB.out)) hb); clear HO_9; clear BK276; clear HB; have HO_9 := n0_; have HO298 := n1_; have BK276 := n2_; have HB := n3_; clear n0_ n1_ n2_ n3_; (try clear hb); (try clear hb2); (try clear hk); (try clear hi); (try clear ho0)))
                      have n0_ := Aside0.mk (Kd.R_drew HO_9.out)
                      have n1_ := Aside0.mk (Kd.R_drew HO298.out)
                      have n2_ := Aside0.mk (blk_drew BK276.out)
                      have n3_ := Aside0.mk (below_drew1 HB.out)
                      clear HO_9
                      clear HO298
                      clear BK276
                      clear HB
                      have HO_9 := n0_
                      have HO298 := n1_
                      have BK276 := n2_
                      have HB := n3_
                      clear n0_ n1_ n2_ n3_
                      obtain ⟨Ao101, co101, eo101⟩ := Kd.R_slice HO298.out
                      (first | subst eo101 | (injection eo101 with f1_ f2_ f3_; have f4_ := f1_.symm; have f5_ := f3_.symm; clear f1_ f2_ f3_; subst f4_; subst f5_))
                      have p299 : 0 ≤ (0 : Int) := (by omega)
                      have q299 : 0 < (t294.length : Int) := of_decide_eq_true (by first | (with_reducible assumption) | assumption)
                      obtain ⟨ad299, e299, hx299_0, hx299_1, hx299_2, hx299_3, hx299_4, hx299_5, hx299_6⟩ := at_T33 (Kd.R_reads' HO298.out).2.2 0 p299 q299
                      cases e299
                      have qi299 : (0 < t294.length) = True := eq_true (by omega)
                      (try rw [show ((0 : Int)).toNat = 0 from rfl] at hx299_0)
                      (try rw [show 0 * 7 = 0 from rfl] at hx299_0)
                      (try rw [Addr.add_zero'] at hx299_0)
                      (try rw [show ((0 : Int)).toNat = 0 from rfl] at hx299_1)
                      (try rw [show 0 * 7 = 0 from rfl] at hx299_1)
                      (try rw [Addr.add_zero'] at hx299_1)
                      (try rw [show ((0 : Int)).toNat = 0 from rfl] at hx299_2)
                      (try rw [show 0 * 7 = 0 from rfl] at hx299_2)
                      (try rw [Addr.add_zero'] at hx299_2)
                      (try rw [show ((0 : Int)).toNat = 0 from rfl] at hx299_3)
                      (try rw [show 0 * 7 = 0 from rfl] at hx299_3)
                      (try rw [Addr.add_zero'] at hx299_3)
                      (try rw [show ((0 : Int)).toNat = 0 from rfl] at hx299_4)
                      (try rw [show 0 * 7 = 0 from rfl] at hx299_4)
                      (try rw [Addr.add_zero'] at hx299_4)
                      (try rw [show ((0 : Int)).toNat = 0 from rfl] at hx299_5)
                      (try rw [show 0 * 7 = 0 from rfl] at hx299_5)
                      (try rw [Addr.add_zero'] at hx299_5)
                      (try rw [show ((0 : Int)).toNat = 0 from rfl] at hx299_6)
                      (try rw [show 0 * 7 = 0 from rfl] at hx299_6)
                      (try rw [Addr.add_zero'] at hx299_6)
                      replace p299 := eq_true p299
                      replace q299 := eq_true q299
                      refine start_ (n := 24) (S := fun w' => w'.cell? ⟨gb276, 0, none⟩ = some (.string ((rd_T33 t272 0).f0)) ∧ w'.cell? ⟨gb276, 1, none⟩ = some (.int .i64 ((rd_T33 t272 0).f1)) ∧ w'.cell? ⟨gb276, 2, none⟩ = some (.int .i64 ((rd_T33 t272 0).f2)) ∧ w'.cell? ⟨gb276, 3, none⟩ = some (.int .i64 ((rd_T33 t272 0).f3)) ∧ w'.cell? ⟨gb276, 4, none⟩ = some (.int .i64 ((rd_T33 t272 0).f4)) ∧ w'.cell? ⟨gb276, 5, none⟩ = some (.int .i64 ((rd_T33 t272 0).f5)) ∧ w'.cell? ⟨gb276, 6, none⟩ = some (.int .i64 ((rd_T33 t272 0).f6)) ∧ w'.cell? ad299 = some (.string ((rd_T33 t294 0).f0)) ∧ w'.cell? ⟨ad299.block, ad299.off + 1, none⟩ = some (.int .i64 ((rd_T33 t294 0).f1)) ∧ w'.cell? ⟨ad299.block, ad299.off + 2, none⟩ = some (.int .i64 ((rd_T33 t294 0).f2)) ∧ w'.cell? ⟨ad299.block, ad299.off + 3, none⟩ = some (.int .i64 ((rd_T33 t294 0).f3)) ∧ w'.cell? ⟨ad299.block, ad299.off + 4, none⟩ = some (.int .i64 ((rd_T33 t294 0).f4)) ∧ w'.cell? ⟨ad299.block, ad299.off + 5, none⟩ = some (.int .i64 ((rd_T33 t294 0).f5)) ∧ w'.cell? ⟨ad299.block, ad299.off + 6, none⟩ = some (.int .i64 ((rd_T33 t294 0).f6))) (ds := []) #[false, false, false, false, false, false, false, false, false, false, false, false, false, false, false, false, false, false, false, false, false, false, false, false] (by kernel_rfl) rfl rfl ⟨(blk_cell BK276.out 0).trans rfl, (blk_cell BK276.out 1).trans rfl, (blk_cell BK276.out 2).trans rfl, (blk_cell BK276.out 3).trans rfl, (blk_cell BK276.out 4).trans rfl, (blk_cell BK276.out 5).trans rfl, (blk_cell BK276.out 6).trans rfl, hx299_0, hx299_1, hx299_2, hx299_3, hx299_4, hx299_5, hx299_6⟩ (fun hHeld => ?_); refine with_tabW cadencylaw05_TextFree.tab18 cadencylaw05_TextFree.bits18 (fun HT_ HW_ => ?_)
                      generalize w99.drew = w100 at HO_9 HO298 BK276 HB hx299_0 hx299_1 hx299_2 hx299_3 hx299_4 hx299_5 hx299_6 hHeld ⊢
                      refine pure_ (i := 0) (N := some 118) (v := ?_) (a' := ?_) #[true, false, false, false, false, false, false, false, false, false, false, false, false, false, false, false, false, false, false, false, false, false, false, false] rfl rfl (any_of HT_.out (by kernel_rfl)) (fun _ _ _ h => h) (Or.inl ⟨by rfl, ?_⟩) ?_ ?_
                      rotate_left
                      · intro w'
                        go_simp
                        with_reducible rfl
                      rotate_left
                      · simp only [Act.put, List.setIfInBounds_toArray, List.set_cons_zero, List.set_cons_succ, i64_w, i32_w]
                        rfl
                      refine pure_ (i := 1) (N := some 119) (v := ?_) (a' := ?_) #[true, true, false, false, false, false, false, false, false, false, false, false, false, false, false, false, false, false, false, false, false, false, false, false] rfl rfl (any_of HT_.out (by kernel_rfl)) (fun _ _ _ h => h) (Or.inl ⟨by rfl, ?_⟩) ?_ ?_
                      rotate_left
                      · intro w'
                        go_simp
                        with_reducible rfl
                      rotate_left
                      · simp only [Act.put, List.setIfInBounds_toArray, List.set_cons_zero, List.set_cons_succ, i64_w, i32_w]
                        rfl
                      refine pure_ (i := 2) (N := some 120) (v := ?_) (a' := ?_) #[true, true, true, false, false, false, false, false, false, false, false, false, false, false, false, false, false, false, false, false, false, false, false, false] rfl rfl (any_of HT_.out (by kernel_rfl)) (fun _ _ _ h => h) (Or.inl ⟨by rfl, ?_⟩) ?_ ?_
                      rotate_left
                      · intro w'
                        go_simp
                        with_reducible rfl
                      rotate_left
                      · simp only [Act.put, List.setIfInBounds_toArray, List.set_cons_zero, List.set_cons_succ, i64_w, i32_w]
                        rfl
                      refine pure_ (i := 3) (N := some 121) (v := ?_) (a' := ?_) #[true, true, true, true, false, false, false, false, false, false, false, false, false, false, false, false, false, false, false, false, false, false, false, false] rfl rfl (any_of HT_.out (by kernel_rfl)) (fun _ _ _ h => h) (Or.inl ⟨by rfl, ?_⟩) ?_ ?_
                      rotate_left
                      · intro w'
                        go_simp
                        with_reducible rfl
                      rotate_left
                      · simp only [Act.put, List.setIfInBounds_toArray, List.set_cons_zero, List.set_cons_succ, i64_w, i32_w]
                        rfl
                      refine pure_ (i := 4) (N := some 122) (v := ?_) (a' := ?_) #[true, true, true, true, true, false, false, false, false, false, false, false, false, false, false, false, false, false, false, false, false, false, false, false] rfl rfl (any_of HT_.out (by kernel_rfl)) (fun _ _ _ h => h) (Or.inl ⟨by rfl, ?_⟩) ?_ ?_
                      rotate_left
                      · intro w'
                        go_simp
                        with_reducible rfl
                      rotate_left
                      · simp only [Act.put, List.setIfInBounds_toArray, List.set_cons_zero, List.set_cons_succ, i64_w, i32_w]
                        rfl
                      refine pure_ (i := 5) (N := some 123) (v := ?_) (a' := ?_) #[true, true, true, true, true, true, false, false, false, false, false, false, false, false, false, false, false, false, false, false, false, false, false, false] rfl rfl (any_of HT_.out (by kernel_rfl)) (fun _ _ _ h => h) (Or.inl ⟨by rfl, ?_⟩) ?_ ?_
                      rotate_left
                      · intro w'
                        go_simp
                        with_reducible rfl
                      rotate_left
                      · simp only [Act.put, List.setIfInBounds_toArray, List.set_cons_zero, List.set_cons_succ, i64_w, i32_w]
                        rfl
                      refine pure_ (i := 6) (N := some 124) (v := ?_) (a' := ?_) #[true, true, true, true, true, true, true, false, false, false, false, false, false, false, false, false, false, false, false, false, false, false, false, false] rfl rfl (any_of HT_.out (by kernel_rfl)) (fun _ _ _ h => h) (Or.inl ⟨by rfl, ?_⟩) ?_ ?_
                      rotate_left
                      · intro w'
                        go_simp
                        with_reducible rfl
                      rotate_left
                      · simp only [Act.put, List.setIfInBounds_toArray, List.set_cons_zero, List.set_cons_succ, i64_w, i32_w]
                        rfl
                      refine pure_ (i := 7) (N := some 125) (v := ?_) (a' := ?_) #[true, true, true, true, true, true, true, true, false, false, false, false, false, false, false, false, false, false, false, false, false, false, false, false] rfl rfl (any_of HT_.out (by kernel_rfl)) (fun _ _ _ h => h) (Or.inl ⟨by rfl, ?_⟩) ?_ ?_
                      rotate_left
                      · intro w'
                        go_simp
                        with_reducible rfl
                      rotate_left
                      · simp only [Act.put, List.setIfInBounds_toArray, List.set_cons_zero, List.set_cons_succ, i64_w, i32_w]
                        rfl
                      refine pure_ (i := 8) (N := some 126) (v := ?_) (a' := ?_) #[true, true, true, true, true, true, true, true, true, false, false, false, false, false, false, false, false, false, false, false, false, false, false, false] rfl rfl (any_of HT_.out (by kernel_rfl)) (fun _ _ _ h => h) (Or.inl ⟨by rfl, ?_⟩) ?_ ?_
                      rotate_left
                      · intro w'
                        go_simp
                        with_reducible rfl
                      rotate_left
                      · simp only [Act.put, List.setIfInBounds_toArray, List.set_cons_zero, List.set_cons_succ, i64_w, i32_w]
                        rfl
                      refine pure_ (i := 9) (N := some 127) (v := ?_) (a' := ?_) #[true, true, true, true, true, true, true, true, true, true, false, false, false, false, false, false, false, false, false, false, false, false, false, false] rfl rfl (any_of HT_.out (by kernel_rfl)) (fun _ _ _ h => h) (Or.inl ⟨by rfl, ?_⟩) ?_ ?_
                      rotate_left
                      · intro w'
                        go_simp
                        with_reducible rfl
                      rotate_left
                      · simp only [Act.put, List.setIfInBounds_toArray, List.set_cons_zero, List.set_cons_succ, i64_w, i32_w]
                        rfl
                      refine pure_ (i := 10) (N := some 128) (v := ?_) (a' := ?_) #[true, true, true, true, true, true, true, true, true, true, true, false, false, false, false, false, false, false, false, false, false, false, false, false] rfl rfl (any_of HT_.out (by kernel_rfl)) (fun _ _ _ h => h) (Or.inl ⟨by rfl, ?_⟩) ?_ ?_
                      rotate_left
                      · intro w'
                        go_simp
                        with_reducible rfl
                      rotate_left
                      · simp only [Act.put, List.setIfInBounds_toArray, List.set_cons_zero, List.set_cons_succ, i64_w, i32_w]
                        rfl
                      refine pure_ (i := 11) (N := some 129) (v := ?_) (a' := ?_) #[true, true, true, true, true, true, true, true, true, true, true, true, false, false, false, false, false, false, false, false, false, false, false, false] rfl rfl (any_of HT_.out (by kernel_rfl)) (fun _ _ _ h => h) (Or.inl ⟨by rfl, ?_⟩) ?_ ?_
                      rotate_left
                      · intro w'
                        go_simp
                        with_reducible rfl
                      rotate_left
                      · simp only [Act.put, List.setIfInBounds_toArray, List.set_cons_zero, List.set_cons_succ, i64_w, i32_w]
                        rfl
                      refine pure_ (i := 12) (N := some 130) (v := ?_) (a' := ?_) #[true, true, true, true, true, true, true, true, true, true, true, true, true, false, false, false, false, false, false, false, false, false, false, false] rfl rfl (any_of HT_.out (by kernel_rfl)) (fun _ _ _ h => h) (Or.inl ⟨by rfl, ?_⟩) ?_ ?_
                      rotate_left
                      · intro w'
                        go_simp
                        with_reducible rfl
                      rotate_left
                      · simp only [Act.put, List.setIfInBounds_toArray, List.set_cons_zero, List.set_cons_succ, i64_w, i32_w]
                        rfl
                      refine pure_ (i := 13) (N := some 131) (v := ?_) (a' := ?_) #[true, true, true, true, true, true, true, true, true, true, true, true, true, true, false, false, false, false, false, false, false, false, false, false] rfl rfl (any_of HT_.out (by kernel_rfl)) (fun _ _ _ h => h) (Or.inl ⟨by rfl, ?_⟩) ?_ ?_
                      rotate_left
                      · intro w'
                        go_simp
                        with_reducible rfl
                      rotate_left
                      · simp only [Act.put, List.setIfInBounds_toArray, List.set_cons_zero, List.set_cons_succ, i64_w, i32_w]
                        rfl
                      refine pure_ (i := 14) (N := some 132) (v := ?_) (a' := ?_) #[true, true, true, true, true, true, true, true, true, true, true, true, true, true, true, false, false, false, false, false, false, false, false, false] rfl rfl (any_of HT_.out (by kernel_rfl)) (fun _ _ _ h => h) (Or.inl ⟨by rfl, ?_⟩) ?_ ?_
                      rotate_left
                      · intro w'
                        go_simp
                        with_reducible rfl
                      rotate_left
                      · simp only [Act.put, List.setIfInBounds_toArray, List.set_cons_zero, List.set_cons_succ, i64_w, i32_w]
                        rfl
                      refine pure_ (i := 15) (N := some 133) (v := ?_) (a' := ?_) #[true, true, true, true, true, true, true, true, true, true, true, true, true, true, true, true, false, false, false, false, false, false, false, false] rfl rfl (any_of HT_.out (by kernel_rfl)) (fun _ _ _ h => h) (Or.inl ⟨by rfl, ?_⟩) ?_ ?_
                      rotate_left
                      · intro w'
                        go_simp
                        with_reducible rfl
                      rotate_left
                      · simp only [Act.put, List.setIfInBounds_toArray, List.set_cons_zero, List.set_cons_succ, i64_w, i32_w]
                        rfl
                      refine pure_ (i := 16) (N := some 134) (v := ?_) (a' := ?_) #[true, true, true, true, true, true, true, true, true, true, true, true, true, true, true, true, true, false, false, false, false, false, false, false] rfl rfl (any_of HT_.out (by kernel_rfl)) (fun _ _ _ h => h) (Or.inl ⟨by rfl, ?_⟩) ?_ ?_
                      rotate_left
                      · intro w'
                        go_simp
                        with_reducible rfl
                      rotate_left
                      · simp only [Act.put, List.setIfInBounds_toArray, List.set_cons_zero, List.set_cons_succ, i64_w, i32_w]
                        rfl
                      refine pure_ (i := 17) (N := some 135) (v := ?_) (a' := ?_) #[true, true, true, true, true, true, true, true, true, true, true, true, true, true, true, true, true, true, false, false, false, false, false, false] rfl rfl (any_of HT_.out (by kernel_rfl)) (fun _ _ _ h => h) (Or.inl ⟨by rfl, ?_⟩) ?_ ?_
                      rotate_left
                      · intro w'
                        go_simp
                        with_reducible rfl
                      rotate_left
                      · simp only [Act.put, List.setIfInBounds_toArray, List.set_cons_zero, List.set_cons_succ, i64_w, i32_w]
                        rfl
                      refine pure_ (i := 18) (N := some 136) (v := ?_) (a' := ?_) #[true, true, true, true, true, true, true, true, true, true, true, true, true, true, true, true, true, true, true, false, false, false, false, false] rfl rfl (any_of HT_.out (by kernel_rfl)) (fun _ _ _ h => h) (Or.inl ⟨by rfl, ?_⟩) ?_ ?_
                      rotate_left
                      · intro w'
                        go_simp
                        with_reducible rfl
                      rotate_left
                      · simp only [Act.put, List.setIfInBounds_toArray, List.set_cons_zero, List.set_cons_succ, i64_w, i32_w]
                        rfl
                      refine take_ (i := 19) (N := some 137) (v := ?_) (a' := ?_) #[true, true, true, true, true, true, true, true, true, true, true, true, true, true, true, true, true, true, true, true, false, false, false, false] rfl rfl (take_ofW HT_.out HW_.out (by kernel_rfl)) (fun _ _ _ h => h) (Or.inl ⟨by rfl, ?_⟩) hHeld ?_ ?_
                      rotate_left
                      · rintro w' ⟨s0, s1, s2, s3, s4, s5, s6, s7, s8, s9, s10, s11, s12, s13⟩
                        go_simp
                        with_reducible rfl
                      rotate_left
                      · simp only [Act.put, List.setIfInBounds_toArray, List.set_cons_zero, List.set_cons_succ, i64_w, i32_w]
                        rfl
                      refine take_ (i := 20) (N := some 138) (v := ?_) (a' := ?_) #[true, true, true, true, true, true, true, true, true, true, true, true, true, true, true, true, true, true, true, true, true, false, false, false] rfl rfl (take_ofW HT_.out HW_.out (by kernel_rfl)) (fun _ _ _ h => h) (Or.inl ⟨by rfl, ?_⟩) hHeld ?_ ?_
                      rotate_left
                      · rintro w' ⟨s0, s1, s2, s3, s4, s5, s6, s7, s8, s9, s10, s11, s12, s13⟩
                        go_simp
                        with_reducible rfl
                      rotate_left
                      · simp only [Act.put, List.setIfInBounds_toArray, List.set_cons_zero, List.set_cons_succ, i64_w, i32_w]
                        rfl
                      refine pure_ (i := 21) (N := some 139) (v := ?_) (a' := ?_) #[true, true, true, true, true, true, true, true, true, true, true, true, true, true, true, true, true, true, true, true, true, true, false, false] rfl rfl (any_of HT_.out (by kernel_rfl)) (fun _ _ _ h => h) (Or.inl ⟨by rfl, ?_⟩) ?_ ?_
                      rotate_left
                      · intro w'
                        go_simp
                        with_reducible rfl
                      rotate_left
                      · simp only [Act.put, List.setIfInBounds_toArray, List.set_cons_zero, List.set_cons_succ, i64_w, i32_w]
                        rfl
                      refine pure_ (i := 22) (N := some 140) (v := ?_) (a' := ?_) #[true, true, true, true, true, true, true, true, true, true, true, true, true, true, true, true, true, true, true, true, true, true, true, false] rfl rfl (any_of HT_.out (by kernel_rfl)) (fun _ _ _ h => h) (Or.inl ⟨by rfl, ?_⟩) ?_ ?_
                      rotate_left
                      · intro w'
                        go_simp
                        with_reducible rfl
                      rotate_left
                      · simp only [Act.put, List.setIfInBounds_toArray, List.set_cons_zero, List.set_cons_succ, i64_w, i32_w]
                        rfl
                      refine pure_ (i := 23) (N := some 6) (v := ?_) (a' := ?_) #[true, true, true, true, true, true, true, true, true, true, true, true, true, true, true, true, true, true, true, true, true, true, true, true] rfl rfl (any_of HT_.out (by kernel_rfl)) (fun _ _ _ h => h) (Or.inl ⟨by rfl, ?_⟩) ?_ ?_
                      rotate_left
                      · intro w'
                        go_simp
                        with_reducible rfl
                      rotate_left
                      · simp only [Act.put, List.setIfInBounds_toArray, List.set_cons_zero, List.set_cons_succ, i64_w, i32_w]
                        rfl
                      refine done_ (done_of HT_.out (by kernel_rfl)) ?_
                      try go_wp2
                      go_ret
                      exact ⟨by first | rfl | (simp [errW_none, errW_some] <;> rfl) | (simp [*, errW_none, errW_some] <;> rfl), by repeat (first | (with_reducible first | exact HB.out | apply below_alloc | apply pw_below_drewN | apply below_drew1 | refine below_set ?_ GE276.out) | exact HB.out)⟩
                    · rw [if_neg c97] at H
                      have c97b0 : ((t294.length : Int) == 1) = false := beq_eq_false_iff_ne.mpr c97
                      have c97b1 : ((t294.length : Int) != 1) = true := bne_iff_ne.mpr c97
                      obtain rfl := Option.some.inj H
                      exact absurd hr.out (by decide)
                  · rw [if_neg c96] at H
                    have c96b0 : (t295 == (x10_2.size : Int)) = false := beq_eq_false_iff_ne.mpr c96
                    have c96b1 : (t295 != (x10_2.size : Int)) = true := bne_iff_ne.mpr c96
                    obtain rfl := Option.some.inj H
                    exact absurd hr.out (by decide)
                · rw [if_neg c95] at H
                  have c95b0 : (t296 == 0) = false := beq_eq_false_iff_ne.mpr c95
                  have c95b1 : (t296 != 0) = true := bne_iff_ne.mpr c95
                  obtain rfl := Option.some.inj H
                  exact absurd hr.out (by decide)
              · replace c94 := Bool.eq_false_iff.mpr c94
                subst c94
                have H1 : (some false) = some r := by rw [if_neg (show ¬ (false = true) by decide)] at H; exact H
                clear H
                have H := H1
                clear H1
                obtain rfl := Option.some.inj H
                exact absurd hr.out (by decide)
end Go.Proofs.Ytefdcjmfbjlinaa.A
