/- What the rows' listed variables give: strconv's table; a world for the witness. -/
import Derived.Test.YtefdcjmfbjlinaaDoorCards
import Derived.Test.YtefdcjmfbjlinaaDoorTie
import Derived.Test.YtefdcjmfbjlinaaDoorOpen
import Derived.Test.YtefdcjmfbjlinaaDoorPrint
import Derived.Test.YtefdcjmfbjlinaaDoorWMore
import Derived.Deep.DeepHandedRow
import Derived.Lib.LaidTab
import Derived.Stop.LaidErr
import Derived.SevenTiedAt
namespace Go.Proofs.YtefdcjmfbjlinaaDoor.A
open Go.ChangeShapes Go.WideShapes Go.ChangeAt Go.RowKit Go.Proofs.YtefdcjmfbjlinaaDoorW.PrintWords Go.Proofs.YtefdcjmfbjlinaaDoorW.PrintLast Go.Proofs.YtefdcjmfbjlinaaDoorW.PrintMore

theorem gPow : Tryd.prog.globalNamed "internal/strconv.uint64pow10" = some 0 := by kernel_rfl
theorem gPowType : (Tryd.prog.globals[0]?).map (·.type) = some 113 := by kernel_rfl
theorem cellsPow : Tryd.prog.cellsOf 113 = 20 := by kernel_rfl
theorem cellsU64 : Tryd.prog.cellsOf 94 = 1 := by kernel_rfl
def laid3 : List (String × DataW Unit) := [("math/bits.deBruijn32tab", Rows.laid_math_bits_deBruijn32tab), ("math/bits.deBruijn64tab", Rows.laid_math_bits_deBruijn64tab), ("internal/strconv.uint64pow10", Rows.laid_internal_strconv_uint64pow10)]
/-- What a row's list gives. -/
theorem tab_of {W : World} (h : laidMetH Tryd.prog laid3 W) : Sc.Tab W := by
  have h1 : laidMet Tryd.prog laid3 W := h
  have h2 : laidMet Tryd.prog [("internal/strconv.uint64pow10", Lib.tabData .u64 Lib.pow10Tab)] W := h1.tail.tail
  exact Lib.tabIs_of_head (rest := []) gPow gPowType Tryd.underlying113 Tryd.underlying94 cellsU64 cellsPow h2
theorem heap_tsk : Kd.Heap k29 := Kd.heap_iso _ (Kd.heap_pair Kd.heap_string (Kd.heap_pair (Kd.heap_int _) (Kd.heap_pair (Kd.heap_int _) (Kd.heap_pair (Kd.heap_int _) (Kd.heap_pair (Kd.heap_int _) (Kd.heap_pair (Kd.heap_int _) (Kd.heap_int _)))))))
theorem v_tsk {W : World} {A : Option Addr} {c : Nat} {l : List S29} (h : Kd.C k29 W A l.length l) (hl : l.length ≤ c) : Kd.V k29 29 W W.heap.size (fun k => k < W.heap.size) (.slice A l.length c) l := Kd.V_mk hl (Kd.C_F heap_tsk h)
def litV : DataW Unit → Value
  | .lit (.int k n) => .int k n
  | _ => .nilFunc
def partsV : DataW Unit → Array Value
  | .agg l => (l.map litV).toArray
  | _ => #[]
def layAt (w : World) (g : Nat) (d : DataW Unit) : World :=
  { w with heap := w.heap.modify g fun
      | .cells _ t frozen => .cells (partsV d) t frozen
      | o => o }
/-- A world for the witness: the settled one, the three tables as their initialisers lay them. -/
noncomputable def laidWorld (os : Os) : World :=
  layAt (layAt (layAt (World.holding Tryd.prog os ⟨#[], #[], []⟩) 0 Rows.laid_internal_strconv_uint64pow10) 2 Rows.laid_math_bits_deBruijn32tab) 3 Rows.laid_math_bits_deBruijn64tab
end Go.Proofs.YtefdcjmfbjlinaaDoor.A
