/- A region that only reads, in a round of a range over a function: one walk in the order of the text serves every order. -/
import Derived.Sort.QuietIn
import Derived.OwnWalkIn
import Derived.RangeFuncBox
import Derived.RangeFuncLeaves
import Derived.RangeFuncWrites
import Derived.Shelf.Abstract
import Derived.TacticsInMore
import Derived.LoopNIn
import Derived.LoopIn
import Derived.Test.YtefdcjmfbjlinaaDoorBase
import Derived.RangeFuncCalls
namespace Go.Proofs.YtefdcjmfbjlinaaDoor.Sc
section
variable {F : Fence} {n : Nat} {P : Program} {ops : Array Oper} {md : Region.Mode} {C : World → Prop}

end
end Go.Proofs.YtefdcjmfbjlinaaDoor.Sc
/- Ranges over a function: what a round keeps. -/
namespace Go.Proofs.YtefdcjmfbjlinaaDoor.Sc
open Go.RowKit Go.Shelf
attribute [local go_sem] Oper.semAt_some
/-- These blocks hold what they held. -/
def Same (G : List Nat) (W W' : World) : Prop := ∀ k ∈ G, W'.heap[k]? = W.heap[k]?
theorem Keeps.same {F G : List Nat} {a b : World} (h : Keeps F a b) (hG : ∀ k ∈ G, k < a.heap.size ∧ k ∉ F) : Same G a b := fun k hk => h.block k (hG k hk).1 (hG k hk).2

/-- Cells stay where only what is no cells has turned. -/
theorem cells_survive {W W' : World} {row : Option Nat} (hg : W.grownBy W' row) {B : Nat} (hr : ∀ r, row = some r → B ≤ r ∧ ∃ o : Obj, W.heap[r]? = some o ∧ o.isCells = false) {k : Nat} {cs : Array Value} {T : TypeId} {fr : Nat × Nat}
    (h : W.heap[k]? = some (.cells cs T fr)) : W'.heap[k]? = some (.cells cs T fr) :=
  blk_grown hg h (fun e => by
    obtain ⟨_, o, ho, hc⟩ := hr k e
    rw [h] at ho; cases ho; cases hc)
theorem keeps_survive {W W' w : World} {row : Option Nat} (hg : W.grownBy W' row) {B : Nat} (hr : ∀ r, row = some r → B ≤ r ∧ ∃ o : Obj, W.heap[r]? = some o ∧ o.isCells = false) {F : List Nat} (hB : w.heap.size ≤ B)
    (h : Keeps F w W) : Keeps F w W' := h.grown hg (fun k e => .inr (Nat.le_trans hB (hr k e).1))
theorem keeps_put {F : List Nat} {w W : World} (h : Keeps F w W) {D : Nat} (o : Obj) (hD : w.heap.size ≤ D) : Keeps F w (W.putObj D o) :=
  h.grown (grownBy_putObj' W D o) (fun k e => by cases e; exact .inr hD)
theorem others_keeps {F : List Nat} {W W' : World} (h : Keeps F W W') (hF : ∀ k ∈ F, ∃ cs T fr, W.heap[k]? = some (.cells cs T fr)) : KeepsOthers W W' :=
  ⟨h.size, fun k o hk hc => h.blk hk (fun hf => by
    obtain ⟨cs, T, fr, e⟩ := hF k hf
    rw [hk] at e; cases e; cases hc)⟩

end Go.Proofs.YtefdcjmfbjlinaaDoor.Sc
