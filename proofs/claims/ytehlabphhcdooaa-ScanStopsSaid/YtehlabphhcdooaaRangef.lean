/- Ranges over a function: what a round keeps. -/
import Derived.RangeFuncBox
import Derived.RangeFuncLeaves
import Derived.RangeFuncWrites
import Derived.Shelf.Abstract
import Derived.OwnWalkIn
import Derived.TacticsInMore
import Derived.LoopNIn
import Derived.LoopIn
import Derived.Test.YtehlabphhcdooaaBase
import Derived.RangeFuncCalls
import Derived.Test.YtehlabphhcdooaaQuiet
namespace Go.Proofs.Ytehlabphhcdooaa.Sc
open Go.RowKit Go.Shelf
attribute [local go_sem] Oper.semAt_some

/-- These blocks hold what they held. -/
def Same (G : List Nat) (W W' : World) : Prop := ∀ k ∈ G, W'.heap[k]? = W.heap[k]?
theorem same_t {G : List Nat} {A B C : World} (h : Same G A B) (k : Same G B C) : Same G A C := fun i hi => (k i hi).trans (h i hi)
theorem same_put {G : List Nat} {w : World} (hG : ∀ k ∈ G, k < w.heap.size) (W : World) (l : Nat) (o o' : Obj) (hl : w.heap.size ≤ l) (_ : W.heap[l]? = some o) (_ : o.isCells = false) (_ : o.isWalk = false) : Same G W (W.putObj l o') := by
  intro k hk
  exact World.putObj_heap_other (by have := hG k hk; omega)
theorem Keeps.same {F G : List Nat} {a b : World} (h : Keeps F a b) (hG : ∀ k ∈ G, k < a.heap.size ∧ k ∉ F) : Same G a b := fun k hk => h.block k (hG k hk).1 (hG k hk).2

/-- Cells stay where only what is no cells has turned. -/
theorem cells_survive {W W' : World} {row : Option Nat} (hg : W.grownBy W' row) {B : Nat} (hr : ∀ r, row = some r → B ≤ r ∧ ∃ o : Obj, W.heap[r]? = some o ∧ o.isCells = false) {k : Nat} {cs : Array Value} {T : TypeId} {fr : Nat × Nat}
    (h : W.heap[k]? = some (.cells cs T fr)) : W'.heap[k]? = some (.cells cs T fr) :=
  blk_grown hg h (fun e => by
    obtain ⟨_, o, ho, hc⟩ := hr k e
    rw [h] at ho; cases ho; cases hc)
theorem keeps_survive {W W' w : World} {row : Option Nat} (hg : W.grownBy W' row) {B : Nat} (hr : ∀ r, row = some r → B ≤ r ∧ ∃ o : Obj, W.heap[r]? = some o ∧ o.isCells = false) {F : List Nat} (hB : w.heap.size ≤ B)
    (h : Keeps F w W) : Keeps F w W' := h.grown hg (fun k e => .inr (Nat.le_trans hB (hr k e).1))
theorem keeps_put {F : List Nat} {w W : World} (h : Keeps F w W) {D : Nat} (o : Obj) (hD : w.heap.size ≤ D) : Keeps F w (W.putObj D o) :=
  h.grown (grownBy_putObj' W D o) (fun k e => by cases e; exact .inr hD)
theorem others_keeps {F : List Nat} {W W' : World} (h : Keeps F W W') (hF : ∀ k ∈ F, ∃ cs T fr, W.heap[k]? = some (.cells cs T fr)) : KeepsOthers W W' :=
  ⟨h.size, fun k o hk hc => h.blk hk (fun hf => by
    obtain ⟨cs, T, fr, e⟩ := hF k hf
    rw [hk] at e; cases e; cases hc)⟩

/-- A range over a function, for the plain walk. -/
theorem wp_range {P : Program} {α : Type} {g : Operand} {ps : Array Tmp} {assign body : Code} {Q : Exit → Act → World → Prop} {a : Act} {w : World}
    {gf : Nat} {lb : Array Value} (hg : a.eval g = .func (.func gf) #[] lb) (eg : ∀ args w, (callFunc gf args).run P w = .ok (.enter gf args) w)
    {encs : α → Array Value} {G : List Nat} {S Sp : List α → Prop} {N : Nat} (hseq : SeqStopsK Fence.wide 8 P gf lb encs (Same G) S Sp N w)
    (hG : ∀ k ∈ G, k < w.heap.size) (hps : ∀ x, (encs x).size = ps.size)
    (I : List α → World → Prop) (Ix : Code → List α → World → Prop) (hI : OwnFrom w.heap.size I) (hIx : ∀ c, OwnFrom w.heap.size (Ix c)) (h0 : I [] w) (a₁ : α → Act)
    (hassign : ∀ (l : Nat) (x : α) (W : World) (K : Act → World → Prop), K (a₁ x) W →
      assign.wpIn (Fence.wide.inRound l) 7 P (Exit.then K (fun _ _ _ => False)) { tmps := (ps.zip (encs x)).foldl (fun t (p, v) => t.setIfInBounds p v) a.tmps, defers := [] } W)
    (hbody : ∀ (l : Nat) (pre : List α) (x : α) (W : World), I pre W → pre.length < N → body.wpIn (Fence.wide.inRound l) 7 P (ownPostG w.heap.size (Same G) I Ix (pre ++ [x]) W) (a₁ x) W)
    (hdone : ∀ (D : Nat) (xs : List α) (W : World), w.heap.size ≤ D → S xs → I xs W → W.heap[D]? = some (.deferred (some [])) → Q .normal { a with defers := { target := .collected D, args := #[] } :: a.defers } W)
    (hstop : ∀ (D : Nat) (c : Code) (pre : List α) (W : World), w.heap.size ≤ D → Sp pre → Ix c pre W → W.heap[D]? = some (.deferred (some [])) → c.wp P Q { a with defers := { target := .collected D, args := #[] } :: a.defers } W) :
    (Code.rangeFunc g ps assign body).wp P Q a w :=
  wpIn_wide.1 (wpIn_rangeFunc_ownG (n := 9) rfl (by decide) hg trivial eg hseq same_t (same_put hG) (Below.refl _ _) hps I Ix hI hIx h0 a₁ hassign hbody hdone
    (fun D c pre W h1 h2 h3 h4 => wpIn_wide.2 (hstop D c pre W h1 h2 h3 h4)))
theorem blk_put_other {w : World} {b : Nat} {o : Obj} (h : w.heap[b]? = some o) {D : Nat} (o' : Obj) (hne : b ≠ D) : (w.putObj D o').heap[b]? = some o :=
  (World.putObj_heap_other hne).trans h
end Go.Proofs.Ytehlabphhcdooaa.Sc
