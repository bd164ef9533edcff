-- written by a program (wip/dev/print2.sh): functions of the program as plain Lean, with their contracts
import Derived.Test.YtefdcjmfbjlinaaAx0
import Derived.Test.YtefdcjmfbjlinaaAx5
import Derived.Test.YtefdcjmfbjlinaaGivA
namespace Go.Proofs.Ytefdcjmfbjlinaa.A
open Go.RowKit Go.Proofs.YtefdcjmfbjlinaaW.PrintWords Go.Proofs.YtefdcjmfbjlinaaW.PrintLast Go.Proofs.YtefdcjmfbjlinaaW.PrintMore
set_option linter.unusedVariables false
set_option linter.unusedSimpArgs false

/-! ### cadencyref03_Each: function 27 -/
def cadencyref03_Each.l0 : Nat → ByteArray → List (S56) → Int → Option ((List (S56)) × Int)
  | 0, _, _, _ => none
  | k + 1, x0, x181000, x181001 => if x181001 < (x0.size : Int) then ((cadencyref03_one.f x0 x181001).bind fun bt181 => (if bt181.1 = 0 then (some (x181000, x181001)) else (if x181000.length < 3518437208883 then ((cadencyref03_Skip.f k x0 (wrap64 (x181001 + (bt181.2.2.1.size : Int)))).bind fun t189 => (cadencyref03_Each.l0 k x0 (x181000 ++ [(⟨bt181.1, bt181.2.1, bt181.2.2.1, bt181.2.2.2⟩ : S56)]) t189)) else (none)))) else (some (x181000, x181001))
def cadencyref03_Each.f (k : Nat) (a0 : ByteArray) : Option ((List (S56)) × Int) := (cadencyref03_Skip.f k a0 0).bind fun t179 => (cadencyref03_Each.l0 k a0 ([] : List (S56)) t179)
/-- A state of type 69 at block g of W; what its slices lead to came in by w0. -/
def IsS69 (w0 W : World) (g : Nat) (f0 : List (S56)) (f1 : Int) (f2 : Int) : Prop := ∃ A0 c0, W.heap[g]? = some (.cells #[.slice A0 f0.length c0, .int .i64 f1, .int .i64 f2] 69 (0, 0)) ∧ w0.heap.size ≤ g ∧ Kd.C k56 w0 A0 f0.length f0
theorem IsS69.grown {w0 W : World} {g : Nat} {f0 : List (S56)} {f1 : Int} {f2 : Int} {W1 : World} {row : Option Nat} (h : IsS69 w0 W g f0 f1 f2) (hw : W.grownBy W1 row) (hne : some g ≠ row) : IsS69 w0 W1 g f0 f1 f2 := by
  obtain ⟨A0, c0, hb, hg, hr0⟩ := h
  exact ⟨A0, c0, blk_grown hb hw hne, hg, hr0⟩
theorem IsS69.kept {w0 W : World} {g : Nat} {f0 : List (S56)} {f1 : Int} {f2 : Int} {W1 : World} {S : Nat → Prop} (h : IsS69 w0 W g f0 f1 f2) (hk : Kept W W1 S) (hne : ¬ S g) : IsS69 w0 W1 g f0 f1 f2 := by
  obtain ⟨A0, c0, hb, hg, hr0⟩ := h
  exact ⟨A0, c0, blk_kept hb hk hne, hg, hr0⟩
theorem IsS69.below {w0 W : World} {g : Nat} {f0 : List (S56)} {f1 : Int} {f2 : Int} {W1 : World} (h : IsS69 w0 W g f0 f1 f2) (hw : Below W.heap.size W W1) : IsS69 w0 W1 g f0 f1 f2 := h.grown (grown_of_below hw none) (by simp)
theorem IsS69.alloc {w0 W : World} {g : Nat} {f0 : List (S56)} {f1 : Int} {f2 : Int} (h : IsS69 w0 W g f0 f1 f2) (o : Obj) : IsS69 w0 (W.alloc o) g f0 f1 f2 := h.below (below_alloc (Below.refl _ _) o)
theorem IsS69.drewN {w0 W : World} {g : Nat} {f0 : List (S56)} {f1 : Int} {f2 : Int} (h : IsS69 w0 W g f0 f1 f2) (m : Nat) : IsS69 w0 (W.drewN m) g f0 f1 f2 := h
theorem IsS69.drew {w0 W : World} {g : Nat} {f0 : List (S56)} {f1 : Int} {f2 : Int} (h : IsS69 w0 W g f0 f1 f2) : IsS69 w0 W.drew g f0 f1 f2 := h
theorem IsS69.at_ {w0 W : World} {g : Nat} {f0 : List (S56)} {f1 : Int} {f2 : Int} {w' : World} {m : Nat} (hq : W.drewN m = w') (h : IsS69 w0 W g f0 f1 f2) : IsS69 w0 w' g f0 f1 f2 := by subst hq; exact IsS69.drewN h m
theorem IsS69.apart {w0 W : World} {g : Nat} {f0 : List (S56)} {f1 : Int} {f2 : Int} {α : Type} {d : Kd α} {e : Nat} {base : Nat} {ok : Nat → Prop} {v : Value} {xs : List α} (h : IsS69 w0 W g f0 f1 f2) (ho : d.R e W base ok v xs) (ht : ∀ q, q ∈ e :: d.E → q ≠ 69) : d.R e W base (fun k => ok k ∧ k ≠ g) v xs := by
  obtain ⟨A0, c0, hb, hg, hr0⟩ := h
  exact Kd.R_types ho hb ht
theorem IsS69.new (w0 W : World) (A0 : Option Addr) (c0 : Nat) (f0 : List (S56)) (f1 : Int) (f2 : Int) (hB : Below w0.heap.size w0 W) (hr0 : Kd.C k56 w0 A0 f0.length f0) : IsS69 w0 (W.alloc (.cells #[.slice A0 f0.length c0, .int .i64 f1, .int .i64 f2] 69)) W.heap.size f0 f1 f2 := ⟨A0, c0, by simpa using heap_alloc_new W _, hB.size, hr0⟩

/-! ### cadencyref05_reader_kind: function 29 -/
def cadencyref05_reader_kind.f (s0_0 : List (S56)) (s0_1 : Int) (s0_2 : Int) : Option (Int × Int × Int) := if s0_1 ≥ (s0_0.length : Int) then (some (0, s0_1, s0_2)) else (if 0 ≤ s0_1 then (if s0_1 < (s0_0.length : Int) then (some ((rd_T56 s0_0 s0_1).f0, s0_1, s0_2)) else (none)) else (none))
/-! ### cadencyref05_reader_text: function 40 -/
def cadencyref05_reader_text.f (s0_0 : List (S56)) (s0_1 : Int) (s0_2 : Int) : Option (ByteArray × Int × Int) := if s0_1 ≥ (s0_0.length : Int) then (some ((⟨#[]⟩ : ByteArray), s0_1, s0_2)) else (if 0 ≤ s0_1 then (if s0_1 < (s0_0.length : Int) then (some ((rd_T56 s0_0 s0_1).f2, s0_1, s0_2)) else (none)) else (none))
-- NOT PRINTED: function 30 (cadencyref05_reader_task)

/-! ### cadencyref05_reader_place: function 31 -/
def cadencyref05_reader_place.f (s0_0 : List (S56)) (s0_1 : Int) (s0_2 : Int) : Option (Int × Int × Int) := if s0_1 ≥ (s0_0.length : Int) then (some (s0_2, s0_1, s0_2)) else (if 0 ≤ s0_1 then (if s0_1 < (s0_0.length : Int) then (some ((rd_T56 s0_0 s0_1).f1, s0_1, s0_2)) else (none)) else (none))
/-! ### cadencyref03_Word: function 57 -/
def cadencyref03_Word.f (a0 : ByteArray) : Option (Bool) := if a0.toList = ([] : List UInt8) then (some false) else ((cadencyref03_one.f a0 0).bind fun bt193 => (if bt193.1 = 1 then (some (bt193.2.2.1.toList == a0.toList)) else (some false)))
/-! ### cadencyref04_in: function 58 -/
def cadencyref04_in.f (a0 : Int) (a1 : Int) (a2 : Int) : Option (Bool) := if a0 ≥ a1 then (some (decide (a0 ≤ a2))) else (some false)
end Go.Proofs.Ytefdcjmfbjlinaa.A
