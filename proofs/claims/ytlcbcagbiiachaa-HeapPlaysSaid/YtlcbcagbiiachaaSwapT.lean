/- swap of heaps of the document's things. -/
import Derived.Test.YtlcbcagbiiachaaSwap
namespace Go.Proofs.Ytlcbcagbiiachaa
open Go.RowKit

abbrev eiT : (Int × Int) × Nat → List Value := (fun p : (Int × Int) × Nat => [Value.int .i64 p.1.1, Value.int .i64 p.1.2, Value.int .u64 p.2])
theorem eiT_len (p : (Int × Int) × Nat) : (eiT p).length = 3 := rfl

set_option maxHeartbeats 8000000 in
theorem swapT_mem (b g n cap i k : Nat) (x y : (Int × Int)) (s t : Nat) (w : World) (hi : i < n) (hk : k < n) (_hn : n ≤ 1000000) (hik : i ≠ k) (hbg : b ≠ g)
    (h1 : w.cell? ⟨b, 1, none⟩ = some (.slice (some ⟨g, 0, none⟩) n cap))
    (a0 : w.cell? ⟨g, i * 3, none⟩ = some (.int .i64 x.1)) (a1 : w.cell? ⟨g, i * 3 + 1, none⟩ = some (.int .i64 x.2)) (a2 : w.cell? ⟨g, i * 3 + 2, none⟩ = some (.int .u64 s))
    (b0 : w.cell? ⟨g, k * 3, none⟩ = some (.int .i64 y.1)) (b1 : w.cell? ⟨g, k * 3 + 1, none⟩ = some (.int .i64 y.2)) (b2 : w.cell? ⟨g, k * 3 + 2, none⟩ = some (.int .u64 t))
    (f0 : w.frozen? ⟨g, i * 3, none⟩ = false) (f1 : w.frozen? ⟨g, i * 3 + 1, none⟩ = false) (f2 : w.frozen? ⟨g, i * 3 + 2, none⟩ = false) (f3 : w.frozen? ⟨g, k * 3, none⟩ = false) (f4 : w.frozen? ⟨g, k * 3 + 1, none⟩ = false) (f5 : w.frozen? ⟨g, k * 3 + 2, none⟩ = false) :
    Calls Try.prog 41 #[.pointer (some ⟨b, 0, none⟩), .int .i64 i, .int .i64 k] w fun e w' => e = .returned (.tuple #[]) ∧ AlikeT w' ((((((w.setCell ⟨g, i * 3, none⟩ (.int .i64 y.1)).setCell ⟨g, i * 3 + 1, none⟩ (.int .i64 y.2)).setCell ⟨g, i * 3 + 2, none⟩ (.int .u64 t)).setCell ⟨g, k * 3, none⟩ (.int .i64 x.1)).setCell ⟨g, k * 3 + 1, none⟩ (.int .i64 x.2)).setCell ⟨g, k * 3 + 2, none⟩ (.int .u64 s)) := by
  have hi' : (i : Int) < (n : Int) := by omega
  have hk' : (k : Int) < (n : Int) := by omega
  have i0 : (0 : Int) ≤ (i : Int) := by omega
  have k0 : (0 : Int) ≤ (k : Int) := by omega
  have d0 : ¬ i * 3 = k * 3 := by omega
  have d1 : ¬ i * 3 = k * 3 + 1 := by omega
  have d2 : ¬ i * 3 = k * 3 + 2 := by omega
  have d3 : ¬ i * 3 + 1 = k * 3 := by omega
  have d4 : ¬ i * 3 + 1 = k * 3 + 1 := by omega
  have d5 : ¬ i * 3 + 1 = k * 3 + 2 := by omega
  have d6 : ¬ i * 3 + 2 = k * 3 := by omega
  have d7 : ¬ i * 3 + 2 = k * 3 + 1 := by omega
  have d8 : ¬ i * 3 + 2 = k * 3 + 2 := by omega
  go_enter Try.func41, Try.ntmps41
  go_wp2_with fail
  go_region
  go_returns
  refine ⟨rfl, ?_⟩
  exact ⟨rfl, rfl, rfl, rfl⟩

set_option maxHeartbeats 8000000 in
theorem swapT_same (b g n cap i : Nat) (x : (Int × Int)) (s : Nat) (w : World) (hi : i < n) (_hn : n ≤ 1000000) (_ : b ≠ g)
    (h1 : w.cell? ⟨b, 1, none⟩ = some (.slice (some ⟨g, 0, none⟩) n cap))
    (a0 : w.cell? ⟨g, i * 3, none⟩ = some (.int .i64 x.1)) (a1 : w.cell? ⟨g, i * 3 + 1, none⟩ = some (.int .i64 x.2)) (a2 : w.cell? ⟨g, i * 3 + 2, none⟩ = some (.int .u64 s))
    (f0 : w.frozen? ⟨g, i * 3, none⟩ = false) (f1 : w.frozen? ⟨g, i * 3 + 1, none⟩ = false) (f2 : w.frozen? ⟨g, i * 3 + 2, none⟩ = false) :
    Calls Try.prog 41 #[.pointer (some ⟨b, 0, none⟩), .int .i64 i, .int .i64 i] w fun e w' => e = .returned (.tuple #[]) ∧ AlikeT w' ((((((w.setCell ⟨g, i * 3, none⟩ (.int .i64 x.1)).setCell ⟨g, i * 3 + 1, none⟩ (.int .i64 x.2)).setCell ⟨g, i * 3 + 2, none⟩ (.int .u64 s)).setCell ⟨g, i * 3, none⟩ (.int .i64 x.1)).setCell ⟨g, i * 3 + 1, none⟩ (.int .i64 x.2)).setCell ⟨g, i * 3 + 2, none⟩ (.int .u64 s)) := by
  have hi' : (i : Int) < (n : Int) := by omega
  have i0 : (0 : Int) ≤ (i : Int) := by omega
  go_enter Try.func41, Try.ntmps41
  go_wp2_with fail
  go_region
  go_returns
  refine ⟨rfl, ?_⟩
  exact ⟨rfl, rfl, rfl, rfl⟩

theorem swapT (b g n cap i k : Nat) (L : List ((Int × Int) × Nat)) (cur : Array Value) (c0 c2 : Value) (w : World) (hL : L.length = n) (hi : i < n) (hk : k < n) (hn : n ≤ 1000000) (hbg : b ≠ g) (hcap : n ≤ cap) (hcs : cur.size = cap * 3)
    (hb : w.heap[b]? = some (.cells #[c0, .slice (some ⟨g, 0, none⟩) n cap, c2] 80 (0, 0))) (hg : w.heap[g]? = some (.cells cur 82 (0, 0)))
    (ht : cur.toList.take (n * 3) = flat eiT L) :
    Calls Try.prog 41 #[.pointer (some ⟨b, 0, none⟩), .int .i64 i, .int .i64 k] w fun e w' => ∃ cur' : Array Value, e = .returned (.tuple #[]) ∧ w'.heap[g]? = some (.cells cur' 82 (0, 0)) ∧ cur'.size = cur.size ∧
      cur'.toList.take (n * 3) = flat eiT (sw L i k) ∧ Keeps [g] w w' := by
  subst hL
  have hle : L.length * 3 ≤ cur.size := by rw [hcs]; exact Nat.mul_le_mul_right _ hcap
  have hgi := fun r hr => take_get (ei := eiT) eiT_len ht i r hi hr
  have hgk := fun r hr => take_get (ei := eiT) eiT_len ht k r hk hr
  have hsw := swap_cells (ei := eiT) eiT_len (by decide) hle ht hi hk
  have fr := fun off => free_blk hg off
  have gi0 : w.cell? ⟨g, i * 3, none⟩ = some (.int .i64 L[i]!.1.1) := (cell_blk hg _).trans (by simpa using hgi 0 (by decide))
  have gi1 : w.cell? ⟨g, i * 3 + 1, none⟩ = some (.int .i64 L[i]!.1.2) := (cell_blk hg _).trans (by simpa using hgi 1 (by decide))
  have gi2 : w.cell? ⟨g, i * 3 + 2, none⟩ = some (.int .u64 L[i]!.2) := (cell_blk hg _).trans (by simpa using hgi 2 (by decide))
  have gk0 : w.cell? ⟨g, k * 3, none⟩ = some (.int .i64 L[k]!.1.1) := (cell_blk hg _).trans (by simpa using hgk 0 (by decide))
  have gk1 : w.cell? ⟨g, k * 3 + 1, none⟩ = some (.int .i64 L[k]!.1.2) := (cell_blk hg _).trans (by simpa using hgk 1 (by decide))
  have gk2 : w.cell? ⟨g, k * 3 + 2, none⟩ = some (.int .u64 L[k]!.2) := (cell_blk hg _).trans (by simpa using hgk 2 (by decide))
  have fin : ∀ w' : World, AlikeT w' ((((((w.setCell ⟨g, i * 3, none⟩ (.int .i64 L[k]!.1.1)).setCell ⟨g, i * 3 + 1, none⟩ (.int .i64 L[k]!.1.2)).setCell ⟨g, i * 3 + 2, none⟩ (.int .u64 L[k]!.2)).setCell ⟨g, k * 3, none⟩ (.int .i64 L[i]!.1.1)).setCell ⟨g, k * 3 + 1, none⟩ (.int .i64 L[i]!.1.2)).setCell ⟨g, k * 3 + 2, none⟩ (.int .u64 L[i]!.2)) → ∃ cur' : Array Value, w'.heap[g]? = some (.cells cur' 82 (0, 0)) ∧ cur'.size = cur.size ∧ cur'.toList.take (L.length * 3) = flat eiT (sw L i k) ∧ Keeps [g] w w' := by
    rintro w' ⟨e1, e2, e3, e4⟩
    refine ⟨putAt (putAt cur (i * 3) (eiT L[k]!)) (k * 3) (eiT L[i]!), ?_, by rw [size_putAt, size_putAt], hsw, ?_⟩
    · rw [e1]
      exact (blk_set_same (blk_set_same (blk_set_same (blk_set_same (blk_set_same (blk_set_same hg _ _) _ _) _ _) _ _) _ _) _ _)
    · have hk : Keeps [g] w ((((((w.setCell ⟨g, i * 3, none⟩ (.int .i64 L[k]!.1.1)).setCell ⟨g, i * 3 + 1, none⟩ (.int .i64 L[k]!.1.2)).setCell ⟨g, i * 3 + 2, none⟩ (.int .u64 L[k]!.2)).setCell ⟨g, k * 3, none⟩ (.int .i64 L[i]!.1.1)).setCell ⟨g, k * 3 + 1, none⟩ (.int .i64 L[i]!.1.2)).setCell ⟨g, k * 3 + 2, none⟩ (.int .u64 L[i]!.2)) := (((((((Keeps.refl _ _).setCell g _ _ (by simp)).setCell g _ _ (by simp)).setCell g _ _ (by simp)).setCell g _ _ (by simp)).setCell g _ _ (by simp)).setCell g _ _ (by simp))
      exact ⟨e2.trans hk.os, e4.trans hk.tape, e3.trans hk.output, by rw [e1]; exact hk.size, fun q hq hn => by rw [e1]; exact hk.block q hq hn⟩
  by_cases hik : i = k
  · subst hik
    refine (swapT_same b g _ cap i L[i]!.1 L[i]!.2 w hi hn hbg (cell_blk hb 1) gi0 gi1 gi2 (fr _) (fr _) (fr _)).mono ?_
    rintro e w' ⟨rfl, h⟩
    obtain ⟨cur', r1, r2, r3, r4⟩ := fin w' h
    exact ⟨cur', rfl, r1, r2, r3, r4⟩
  · refine (swapT_mem b g _ cap i k L[i]!.1 L[k]!.1 L[i]!.2 L[k]!.2 w hi hk hn hik hbg (cell_blk hb 1) gi0 gi1 gi2 gk0 gk1 gk2 (fr _) (fr _) (fr _) (fr _) (fr _) (fr _)).mono ?_
    rintro e w' ⟨rfl, h⟩
    obtain ⟨cur', r1, r2, r3, r4⟩ := fin w' h
    exact ⟨cur', rfl, r1, r2, r3, r4⟩

theorem lenNilT (w : World) : Calls Try.prog 25 #[.pointer none] w fun e w' => e = .returned (.int .i64 0) ∧ w = w' := by
  go_enter Try.func25, Try.ntmps25
  go_wp2
  go_ret
  exact ⟨rfl, rfl⟩

theorem lenT_mem (b n cap : Nat) (a : Option Addr) (w : World) (h1 : w.cell? ⟨b, 1, none⟩ = some (.slice a n cap)) :
    Calls Try.prog 25 #[.pointer (some ⟨b, 0, none⟩)] w fun e w' => e = .returned (.int .i64 n) ∧ w = w' := by
  go_enter Try.func25, Try.ntmps25
  go_wp2
  go_ret
  exact ⟨rfl, rfl⟩

end Go.Proofs.Ytlcbcagbiiachaa
