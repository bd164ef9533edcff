/- Small lemmas on blocks of memory: what a block holds behind a store, a new block, an append. -/
import Derived.WalkKit
import Derived.WalkLawsBesides
import Derived.WalkSpells
import Derived.Below
import Derived.OneCell
import Derived.Lib.Hide
import Derived.Deep.AppendLies
namespace Go.Proofs.YtefdcjmfbjlinaaDoor.Sc
open Go.RowKit

theorem blk_lt {w : World} {b : Nat} {o : Obj} (h : w.heap[b]? = some o) : b < w.heap.size := by
  rcases Nat.lt_or_ge b w.heap.size with h' | h'
  · exact h'
  · rw [Array.getElem?_eq_none h'] at h; cases h

theorem blk_grown {w w' : World} {b : Nat} {o : Obj} {row : Option Nat} (hg : w.grownBy w' row) (h : w.heap[b]? = some o) (hne : row ≠ some b) : w'.heap[b]? = some o :=
  (hg.block b (blk_lt h) (fun e => hne e.symm)).trans h

theorem blk_alloc {w : World} {b : Nat} {o : Obj} (h : w.heap[b]? = some o) (x : Obj) : (w.alloc x).heap[b]? = some o := by
  have := blk_lt h
  show (w.heap.push x)[b]? = _
  rw [Array.getElem?_push, if_neg (by omega)]; exact h

theorem blk_new (w : World) (x : Obj) : (w.alloc x).heap[w.heap.size]? = some x := by
  show (w.heap.push x)[w.heap.size]? = _
  simp

theorem blk_drew {w : World} {b : Nat} {o : Obj} (h : w.heap[b]? = some o) : w.drew.heap[b]? = some o := h

theorem blk_set_other {w : World} {b : Nat} {o : Obj} (h : w.heap[b]? = some o) (a : Addr) (v : Value) (hne : a.block ≠ b) : (w.setCell a v).heap[b]? = some o := by
  simp only [World.setCell, Array.getElem?_modify]
  rw [if_neg (by omega)]; exact h

theorem blk_set_same {w : World} {b : Nat} {cs : Array Value} {T : TypeId} {fr : Nat × Nat} (h : w.heap[b]? = some (.cells cs T fr)) (off : Nat) (v : Value) : (w.setCell ⟨b, off, none⟩ v).heap[b]? = some (.cells (cs.setIfInBounds off v) T fr) := by
  simp only [World.setCell, Array.getElem?_modify, h]
  simp

theorem blk_below {B b : Nat} {w w' : World} {o : Obj} (hb : Below B w w') (h : w.heap[b]? = some o) (hlt : b < B) : w'.heap[b]? = some o :=
  (hb.block b hlt).trans h

theorem cell_blk {w : World} {b : Nat} {cs : Array Value} {T : TypeId} {fr : Nat × Nat} (h : w.heap[b]? = some (.cells cs T fr)) (off : Nat) : w.cell? ⟨b, off, none⟩ = cs[off]? := by
  simp [World.cell?, h]

theorem free_blk {w : World} {b : Nat} {cs : Array Value} {T : TypeId} (h : w.heap[b]? = some (.cells cs T (0, 0))) (off : Nat) : w.frozen? ⟨b, off, none⟩ = false := by
  simp [World.frozen?, h]

/-- A struct of three cells, known whole. -/
theorem facts3 {w : World} {b : Nat} {x y z : Value} {T : TypeId} (h : w.heap[b]? = some (.cells #[x, y, z] T (0, 0))) :
    w.cell? ⟨b, 0, none⟩ = some x ∧ w.cell? ⟨b, 1, none⟩ = some y ∧ w.cell? ⟨b, 2, none⟩ = some z ∧ w.frozen? ⟨b, 0, none⟩ = false ∧ w.frozen? ⟨b, 1, none⟩ = false ∧ w.frozen? ⟨b, 2, none⟩ = false :=
  ⟨cell_blk h 0, cell_blk h 1, cell_blk h 2, free_blk h 0, free_blk h 1, free_blk h 2⟩

theorem addr_add (r o j : Nat) : (⟨r, o, none⟩ : Addr).add j = ⟨r, o + j, none⟩ := by
  unfold Addr.add; split <;> simp_all

/-- What a value of one cell or more owns, as a block. -/
theorem owns_block {w : World} {base : Nat} {e : TypeId} {g n cap : Nat} {xs : List Value} (h : w.ownsRow base e 1 (.slice (some ⟨g, 0, none⟩) n cap) n xs) :
    ∃ cs : List Value, w.heap[g]? = some (.cells cs.toArray e (0, 0)) ∧ cs.length = cap ∧ n ≤ cap ∧ cs.take n = xs ∧ base ≤ g := by
  rcases h.2 with ⟨h1, _⟩ | ⟨g', cap', cur, h1, h2, h3, h4, h5, h6, h7⟩
  · simp at h1
  · simp only [Value.slice.injEq, Option.some.injEq, Addr.mk.injEq, and_true, true_and] at h1
    obtain ⟨rfl, rfl⟩ := h1
    refine ⟨cur.toList, by simpa using h3, by simpa using h6, h4, by simpa using h7, h2⟩

theorem grown_trans {w w' w'' : World} {row : Option Nat} (h : w.grownBy w' row) (k : w'.grownBy w'' row) : w.grownBy w'' row :=
  ⟨k.os.trans h.os, k.tape.trans h.tape, k.output.trans h.output, Nat.le_trans h.size k.size, fun i hi hne => (k.block i (Nat.lt_of_lt_of_le hi h.size) hne).trans (h.block i hi hne)⟩

theorem grown_drew {w w' : World} {row : Option Nat} (h : w.grownBy w' row) : w.grownBy w'.drew row := ⟨h.os, h.tape, h.output, h.size, h.block⟩
theorem grown_refl (w : World) (row : Option Nat) : w.grownBy w row := ⟨rfl, rfl, rfl, Nat.le_refl _, fun _ _ _ => rfl⟩
theorem grown_alloc {w w' : World} {row : Option Nat} (h : w.grownBy w' row) (o : Obj) : w.grownBy (w'.alloc o) row :=
  grown_trans h (World.grownBy_alloc w' o row)
/-- But for the blocks in F, all that was there is as it was. -/
structure Keeps (F : List Nat) (w w' : World) : Prop where
  os : w'.os = w.os
  tape : w'.tape = w.tape
  output : w'.output = w.output
  size : w.heap.size ≤ w'.heap.size
  block : ∀ k, k < w.heap.size → k ∉ F → w'.heap[k]? = w.heap[k]?

namespace Keeps
theorem refl (F : List Nat) (w : World) : Keeps F w w := ⟨rfl, rfl, rfl, Nat.le_refl _, fun _ _ _ => rfl⟩
theorem trans {F : List Nat} {a b c : World} (h : Keeps F a b) (k : Keeps F b c) : Keeps F a c :=
  ⟨k.os.trans h.os, k.tape.trans h.tape, k.output.trans h.output, Nat.le_trans h.size k.size, fun i hi hn => (k.block i (Nat.lt_of_lt_of_le hi h.size) hn).trans (h.block i hi hn)⟩
/-- Two steps; the second one may write what was new behind the first one, too. -/
theorem andThen {F G : List Nat} {a b c : World} (h : Keeps F a b) (k : Keeps G b c) (hG : ∀ g ∈ G, g ∈ F ∨ a.heap.size ≤ g) : Keeps F a c :=
  ⟨k.os.trans h.os, k.tape.trans h.tape, k.output.trans h.output, Nat.le_trans h.size k.size, fun i hi hn => (k.block i (Nat.lt_of_lt_of_le hi h.size) (fun hg => by
    rcases hG i hg with h1 | h1
    · exact hn h1
    · omega)).trans (h.block i hi hn)⟩
theorem mono {F G : List Nat} {a b : World} (h : Keeps F a b) (hs : ∀ k ∈ F, k ∈ G ∨ a.heap.size ≤ k) : Keeps G a b :=
  ⟨h.os, h.tape, h.output, h.size, fun k hk hn => h.block k hk (fun hf => by
    rcases hs k hf with h1 | h1
    · exact hn h1
    · omega)⟩
theorem drew {F : List Nat} {a b : World} (h : Keeps F a b) : Keeps F a b.drew := ⟨h.os, h.tape, h.output, h.size, h.block⟩
theorem drewN {F : List Nat} {a b : World} (h : Keeps F a b) (n : Nat) : Keeps F a (b.drewN n) := ⟨h.os, h.tape, h.output, h.size, h.block⟩
theorem alloc {F : List Nat} {a b : World} (h : Keeps F a b) (o : Obj) : Keeps F a (b.alloc o) :=
  ⟨h.os, h.tape, h.output, by have := h.size; simp; omega, fun k hk hn => (Below.heap_alloc _ _ _ (Nat.lt_of_lt_of_le hk h.size)).trans (h.block k hk hn)⟩
theorem setCell {F : List Nat} {a b : World} (h : Keeps F a b) (g off : Nat) (v : Value) (hg : g ∈ F ∨ a.heap.size ≤ g) : Keeps F a (b.setCell ⟨g, off, none⟩ v) :=
  ⟨h.os, h.tape, h.output, by simpa using h.size, fun k hk hn => (Below.heap_setCell _ _ _ _ (by
    intro e
    rcases hg with h1 | h1
    · exact hn (e ▸ h1)
    · simp at e; omega)).trans (h.block k hk hn)⟩
theorem grown {F : List Nat} {a b c : World} {row : Option Nat} (h : Keeps F a b) (g : b.grownBy c row) (hr : ∀ k, row = some k → k ∈ F ∨ a.heap.size ≤ k) : Keeps F a c :=
  ⟨g.os.trans h.os, g.tape.trans h.tape, g.output.trans h.output, Nat.le_trans h.size g.size, fun k hk hn => (g.block k (Nat.lt_of_lt_of_le hk h.size) (fun e => by
    rcases hr k e.symm with h1 | h1
    · exact hn h1
    · omega)).trans (h.block k hk hn)⟩
theorem blk {F : List Nat} {a b : World} (h : Keeps F a b) {k : Nat} {o : Obj} (hk : a.heap[k]? = some o) (hn : k ∉ F) : b.heap[k]? = some o :=
  (h.block k (blk_lt hk) hn).trans hk
theorem below {F : List Nat} {a b : World} {B : Nat} (h : Keeps F a b) (hF : ∀ k ∈ F, B ≤ k) (hB : B ≤ a.heap.size) : Below B a b :=
  ⟨h.os, h.tape, h.output, h.size, fun k hk => h.block k (by omega) (fun hf => by have := hF k hf; omega)⟩
end Keeps

/-- Behind a draw: the world under a name. -/
theorem name_drew {P : Program} {c : Code} {Q : Exit → Act → World → Prop} {a : Act} {w : World} (h : ∀ w1, Keeps [] w w1 → w1.heap.size = w.heap.size → c.wp P Q a w1) : c.wp P Q a w.drew :=
  h _ ((Keeps.refl _ _).drew) rfl
theorem name_drew_list {P : Program} {ops : Array Oper} {l : List Oper} {Q : Exit → Act → World → Prop} {a : Act} {w : World} (h : ∀ w1, Keeps [] w w1 → w1.heap.size = w.heap.size → wpList P ops Q l a w1) : wpList P ops Q l a w.drew :=
  h _ ((Keeps.refl _ _).drew) rfl
end Go.Proofs.YtefdcjmfbjlinaaDoor.Sc
