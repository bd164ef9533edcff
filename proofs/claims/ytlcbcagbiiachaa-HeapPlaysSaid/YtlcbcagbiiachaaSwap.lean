/- swap, Len and Peek of heaps. -/
import Derived.Test.YtlcbcagbiiachaaAhead
import Derived.Test.YtlcbcagbiiachaaFlat
import Derived.BigRegion
import Derived.ChangeAlike
namespace Go.Proofs.Ytlcbcagbiiachaa
open Go.RowKit

/-- As another world, but for how many draws there were. -/
def AlikeT (w' w : World) : Prop := w'.heap = w.heap ∧ w'.os = w.os ∧ w'.output = w.output ∧ w'.tape = w.tape

abbrev eiI : Int × Nat → List Value := (fun p : Int × Nat => [Value.int .i64 p.1, Value.int .u64 p.2])
theorem eiI_len (p : Int × Nat) : (eiI p).length = 2 := rfl

set_option maxHeartbeats 1000000 in
theorem swapI_mem (b g n cap i k : Nat) (x y : Int) (s t : Nat) (w : World) (hi : i < n) (hk : k < n) (_hn : n ≤ 1000000) (hik : i ≠ k) (hbg : b ≠ g)
    (h1 : w.cell? ⟨b, 1, none⟩ = some (.slice (some ⟨g, 0, none⟩) n cap))
    (a0 : w.cell? ⟨g, i * 2, none⟩ = some (.int .i64 x)) (a1 : w.cell? ⟨g, i * 2 + 1, none⟩ = some (.int .u64 s))
    (b0 : w.cell? ⟨g, k * 2, none⟩ = some (.int .i64 y)) (b1 : w.cell? ⟨g, k * 2 + 1, none⟩ = some (.int .u64 t))
    (f0 : w.frozen? ⟨g, i * 2, none⟩ = false) (f1 : w.frozen? ⟨g, i * 2 + 1, none⟩ = false) (f2 : w.frozen? ⟨g, k * 2, none⟩ = false) (f3 : w.frozen? ⟨g, k * 2 + 1, none⟩ = false) :
    Calls Try.prog 35 #[.pointer (some ⟨b, 0, none⟩), .int .i64 i, .int .i64 k] w fun e w' => e = .returned (.tuple #[]) ∧ AlikeT w' ((((w.setCell ⟨g, i * 2, none⟩ (.int .i64 y)).setCell ⟨g, i * 2 + 1, none⟩ (.int .u64 t)).setCell ⟨g, k * 2, none⟩ (.int .i64 x)).setCell ⟨g, k * 2 + 1, none⟩ (.int .u64 s)) := by
  have hi' : (i : Int) < (n : Int) := by omega
  have hk' : (k : Int) < (n : Int) := by omega
  have i0 : (0 : Int) ≤ (i : Int) := by omega
  have k0 : (0 : Int) ≤ (k : Int) := by omega
  have d0 : ¬ i * 2 = k * 2 := by omega
  have d1 : ¬ i * 2 = k * 2 + 1 := by omega
  have d2 : ¬ i * 2 + 1 = k * 2 := by omega
  have d3 : ¬ i * 2 + 1 = k * 2 + 1 := by omega
  go_enter Try.func35, Try.ntmps35
  go_wp2_with fail
  go_region
  go_returns
  refine ⟨rfl, ?_⟩
  exact ⟨rfl, rfl, rfl, rfl⟩

set_option maxHeartbeats 1000000 in
theorem swapI_same (b g n cap i : Nat) (x : Int) (s : Nat) (w : World) (hi : i < n) (_hn : n ≤ 1000000) (_ : b ≠ g)
    (h1 : w.cell? ⟨b, 1, none⟩ = some (.slice (some ⟨g, 0, none⟩) n cap))
    (a0 : w.cell? ⟨g, i * 2, none⟩ = some (.int .i64 x)) (a1 : w.cell? ⟨g, i * 2 + 1, none⟩ = some (.int .u64 s))
    (f0 : w.frozen? ⟨g, i * 2, none⟩ = false) (f1 : w.frozen? ⟨g, i * 2 + 1, none⟩ = false) :
    Calls Try.prog 35 #[.pointer (some ⟨b, 0, none⟩), .int .i64 i, .int .i64 i] w fun e w' => e = .returned (.tuple #[]) ∧ AlikeT w' ((((w.setCell ⟨g, i * 2, none⟩ (.int .i64 x)).setCell ⟨g, i * 2 + 1, none⟩ (.int .u64 s)).setCell ⟨g, i * 2, none⟩ (.int .i64 x)).setCell ⟨g, i * 2 + 1, none⟩ (.int .u64 s)) := by
  have hi' : (i : Int) < (n : Int) := by omega
  have i0 : (0 : Int) ≤ (i : Int) := by omega
  go_enter Try.func35, Try.ntmps35
  go_wp2_with fail
  go_region
  go_returns
  refine ⟨rfl, ?_⟩
  exact ⟨rfl, rfl, rfl, rfl⟩

theorem swapI (b g n cap i k : Nat) (L : List (Int × Nat)) (cur : Array Value) (c0 c2 : Value) (w : World) (hL : L.length = n) (hi : i < n) (hk : k < n) (hn : n ≤ 1000000) (hbg : b ≠ g) (hcap : n ≤ cap) (hcs : cur.size = cap * 2)
    (hb : w.heap[b]? = some (.cells #[c0, .slice (some ⟨g, 0, none⟩) n cap, c2] 71 (0, 0))) (hg : w.heap[g]? = some (.cells cur 84 (0, 0)))
    (ht : cur.toList.take (n * 2) = flat eiI L) :
    Calls Try.prog 35 #[.pointer (some ⟨b, 0, none⟩), .int .i64 i, .int .i64 k] w fun e w' => ∃ cur' : Array Value, e = .returned (.tuple #[]) ∧ w'.heap[g]? = some (.cells cur' 84 (0, 0)) ∧ cur'.size = cur.size ∧
      cur'.toList.take (n * 2) = flat eiI (sw L i k) ∧ Keeps [g] w w' := by
  subst hL
  have hle : L.length * 2 ≤ cur.size := by rw [hcs]; exact Nat.mul_le_mul_right _ hcap
  have hgi := fun r hr => take_get (ei := eiI) eiI_len ht i r hi hr
  have hgk := fun r hr => take_get (ei := eiI) eiI_len ht k r hk hr
  have hsw := swap_cells (ei := eiI) eiI_len (by decide) hle ht hi hk
  have fr := fun off => free_blk hg off
  have gi0 : w.cell? ⟨g, i * 2, none⟩ = some (.int .i64 L[i]!.1) := (cell_blk hg _).trans (by simpa using hgi 0 (by decide))
  have gi1 : w.cell? ⟨g, i * 2 + 1, none⟩ = some (.int .u64 L[i]!.2) := (cell_blk hg _).trans (by simpa using hgi 1 (by decide))
  have gk0 : w.cell? ⟨g, k * 2, none⟩ = some (.int .i64 L[k]!.1) := (cell_blk hg _).trans (by simpa using hgk 0 (by decide))
  have gk1 : w.cell? ⟨g, k * 2 + 1, none⟩ = some (.int .u64 L[k]!.2) := (cell_blk hg _).trans (by simpa using hgk 1 (by decide))
  have fin : ∀ w' : World, AlikeT w' ((((w.setCell ⟨g, i * 2, none⟩ (.int .i64 L[k]!.1)).setCell ⟨g, i * 2 + 1, none⟩ (.int .u64 L[k]!.2)).setCell ⟨g, k * 2, none⟩ (.int .i64 L[i]!.1)).setCell ⟨g, k * 2 + 1, none⟩ (.int .u64 L[i]!.2)) → ∃ cur' : Array Value, w'.heap[g]? = some (.cells cur' 84 (0, 0)) ∧ cur'.size = cur.size ∧ cur'.toList.take (L.length * 2) = flat eiI (sw L i k) ∧ Keeps [g] w w' := by
    rintro w' ⟨e1, e2, e3, e4⟩
    refine ⟨putAt (putAt cur (i * 2) (eiI L[k]!)) (k * 2) (eiI L[i]!), ?_, by rw [size_putAt, size_putAt], hsw, ?_⟩
    · rw [e1]
      exact (blk_set_same (blk_set_same (blk_set_same (blk_set_same hg _ _) _ _) _ _) _ _)
    · have hk : Keeps [g] w ((((w.setCell ⟨g, i * 2, none⟩ (.int .i64 L[k]!.1)).setCell ⟨g, i * 2 + 1, none⟩ (.int .u64 L[k]!.2)).setCell ⟨g, k * 2, none⟩ (.int .i64 L[i]!.1)).setCell ⟨g, k * 2 + 1, none⟩ (.int .u64 L[i]!.2)) := (((((Keeps.refl _ _).setCell g _ _ (by simp)).setCell g _ _ (by simp)).setCell g _ _ (by simp)).setCell g _ _ (by simp))
      exact ⟨e2.trans hk.os, e4.trans hk.tape, e3.trans hk.output, by rw [e1]; exact hk.size, fun q hq hn => by rw [e1]; exact hk.block q hq hn⟩
  by_cases hik : i = k
  · subst hik
    refine (swapI_same b g _ cap i L[i]!.1 L[i]!.2 w hi hn hbg (cell_blk hb 1) gi0 gi1 (fr _) (fr _)).mono ?_
    rintro e w' ⟨rfl, h⟩
    obtain ⟨cur', r1, r2, r3, r4⟩ := fin w' h
    exact ⟨cur', rfl, r1, r2, r3, r4⟩
  · refine (swapI_mem b g _ cap i k L[i]!.1 L[k]!.1 L[i]!.2 L[k]!.2 w hi hk hn hik hbg (cell_blk hb 1) gi0 gi1 gk0 gk1 (fr _) (fr _) (fr _) (fr _)).mono ?_
    rintro e w' ⟨rfl, h⟩
    obtain ⟨cur', r1, r2, r3, r4⟩ := fin w' h
    exact ⟨cur', rfl, r1, r2, r3, r4⟩

theorem lenNilI (w : World) : Calls Try.prog 14 #[.pointer none] w fun e w' => e = .returned (.int .i64 0) ∧ w = w' := by
  go_enter Try.func14, Try.ntmps14
  go_wp2
  go_ret
  exact ⟨rfl, rfl⟩

theorem lenI_mem (b n cap : Nat) (a : Option Addr) (w : World) (h1 : w.cell? ⟨b, 1, none⟩ = some (.slice a n cap)) :
    Calls Try.prog 14 #[.pointer (some ⟨b, 0, none⟩)] w fun e w' => e = .returned (.int .i64 n) ∧ w = w' := by
  go_enter Try.func14, Try.ntmps14
  go_wp2
  go_ret
  exact ⟨rfl, rfl⟩

abbrev eiS : ByteArray × Nat → List Value := (fun p : ByteArray × Nat => [Value.string p.1, Value.int .u64 p.2])
theorem eiS_len (p : ByteArray × Nat) : (eiS p).length = 2 := rfl

set_option maxHeartbeats 1000000 in
theorem swapS_mem (b g n cap i k : Nat) (x y : ByteArray) (s t : Nat) (w : World) (hi : i < n) (hk : k < n) (_hn : n ≤ 1000000) (hik : i ≠ k) (hbg : b ≠ g)
    (h1 : w.cell? ⟨b, 1, none⟩ = some (.slice (some ⟨g, 0, none⟩) n cap))
    (a0 : w.cell? ⟨g, i * 2, none⟩ = some (.string x)) (a1 : w.cell? ⟨g, i * 2 + 1, none⟩ = some (.int .u64 s))
    (b0 : w.cell? ⟨g, k * 2, none⟩ = some (.string y)) (b1 : w.cell? ⟨g, k * 2 + 1, none⟩ = some (.int .u64 t))
    (f0 : w.frozen? ⟨g, i * 2, none⟩ = false) (f1 : w.frozen? ⟨g, i * 2 + 1, none⟩ = false) (f2 : w.frozen? ⟨g, k * 2, none⟩ = false) (f3 : w.frozen? ⟨g, k * 2 + 1, none⟩ = false) :
    Calls Try.prog 34 #[.pointer (some ⟨b, 0, none⟩), .int .i64 i, .int .i64 k] w fun e w' => e = .returned (.tuple #[]) ∧ AlikeT w' ((((w.setCell ⟨g, i * 2, none⟩ (.string y)).setCell ⟨g, i * 2 + 1, none⟩ (.int .u64 t)).setCell ⟨g, k * 2, none⟩ (.string x)).setCell ⟨g, k * 2 + 1, none⟩ (.int .u64 s)) := by
  have hi' : (i : Int) < (n : Int) := by omega
  have hk' : (k : Int) < (n : Int) := by omega
  have i0 : (0 : Int) ≤ (i : Int) := by omega
  have k0 : (0 : Int) ≤ (k : Int) := by omega
  have d0 : ¬ i * 2 = k * 2 := by omega
  have d1 : ¬ i * 2 = k * 2 + 1 := by omega
  have d2 : ¬ i * 2 + 1 = k * 2 := by omega
  have d3 : ¬ i * 2 + 1 = k * 2 + 1 := by omega
  go_enter Try.func34, Try.ntmps34
  go_wp2_with fail
  go_region
  go_returns
  refine ⟨rfl, ?_⟩
  exact ⟨rfl, rfl, rfl, rfl⟩

set_option maxHeartbeats 1000000 in
theorem swapS_same (b g n cap i : Nat) (x : ByteArray) (s : Nat) (w : World) (hi : i < n) (_hn : n ≤ 1000000) (_ : b ≠ g)
    (h1 : w.cell? ⟨b, 1, none⟩ = some (.slice (some ⟨g, 0, none⟩) n cap))
    (a0 : w.cell? ⟨g, i * 2, none⟩ = some (.string x)) (a1 : w.cell? ⟨g, i * 2 + 1, none⟩ = some (.int .u64 s))
    (f0 : w.frozen? ⟨g, i * 2, none⟩ = false) (f1 : w.frozen? ⟨g, i * 2 + 1, none⟩ = false) :
    Calls Try.prog 34 #[.pointer (some ⟨b, 0, none⟩), .int .i64 i, .int .i64 i] w fun e w' => e = .returned (.tuple #[]) ∧ AlikeT w' ((((w.setCell ⟨g, i * 2, none⟩ (.string x)).setCell ⟨g, i * 2 + 1, none⟩ (.int .u64 s)).setCell ⟨g, i * 2, none⟩ (.string x)).setCell ⟨g, i * 2 + 1, none⟩ (.int .u64 s)) := by
  have hi' : (i : Int) < (n : Int) := by omega
  have i0 : (0 : Int) ≤ (i : Int) := by omega
  go_enter Try.func34, Try.ntmps34
  go_wp2_with fail
  go_region
  go_returns
  refine ⟨rfl, ?_⟩
  exact ⟨rfl, rfl, rfl, rfl⟩

theorem swapS (b g n cap i k : Nat) (L : List (ByteArray × Nat)) (cur : Array Value) (c0 c2 : Value) (w : World) (hL : L.length = n) (hi : i < n) (hk : k < n) (hn : n ≤ 1000000) (hbg : b ≠ g) (hcap : n ≤ cap) (hcs : cur.size = cap * 2)
    (hb : w.heap[b]? = some (.cells #[c0, .slice (some ⟨g, 0, none⟩) n cap, c2] 74 (0, 0))) (hg : w.heap[g]? = some (.cells cur 76 (0, 0)))
    (ht : cur.toList.take (n * 2) = flat eiS L) :
    Calls Try.prog 34 #[.pointer (some ⟨b, 0, none⟩), .int .i64 i, .int .i64 k] w fun e w' => ∃ cur' : Array Value, e = .returned (.tuple #[]) ∧ w'.heap[g]? = some (.cells cur' 76 (0, 0)) ∧ cur'.size = cur.size ∧
      cur'.toList.take (n * 2) = flat eiS (sw L i k) ∧ Keeps [g] w w' := by
  subst hL
  have hle : L.length * 2 ≤ cur.size := by rw [hcs]; exact Nat.mul_le_mul_right _ hcap
  have hgi := fun r hr => take_get (ei := eiS) eiS_len ht i r hi hr
  have hgk := fun r hr => take_get (ei := eiS) eiS_len ht k r hk hr
  have hsw := swap_cells (ei := eiS) eiS_len (by decide) hle ht hi hk
  have fr := fun off => free_blk hg off
  have gi0 : w.cell? ⟨g, i * 2, none⟩ = some (.string L[i]!.1) := (cell_blk hg _).trans (by simpa using hgi 0 (by decide))
  have gi1 : w.cell? ⟨g, i * 2 + 1, none⟩ = some (.int .u64 L[i]!.2) := (cell_blk hg _).trans (by simpa using hgi 1 (by decide))
  have gk0 : w.cell? ⟨g, k * 2, none⟩ = some (.string L[k]!.1) := (cell_blk hg _).trans (by simpa using hgk 0 (by decide))
  have gk1 : w.cell? ⟨g, k * 2 + 1, none⟩ = some (.int .u64 L[k]!.2) := (cell_blk hg _).trans (by simpa using hgk 1 (by decide))
  have fin : ∀ w' : World, AlikeT w' ((((w.setCell ⟨g, i * 2, none⟩ (.string L[k]!.1)).setCell ⟨g, i * 2 + 1, none⟩ (.int .u64 L[k]!.2)).setCell ⟨g, k * 2, none⟩ (.string L[i]!.1)).setCell ⟨g, k * 2 + 1, none⟩ (.int .u64 L[i]!.2)) → ∃ cur' : Array Value, w'.heap[g]? = some (.cells cur' 76 (0, 0)) ∧ cur'.size = cur.size ∧ cur'.toList.take (L.length * 2) = flat eiS (sw L i k) ∧ Keeps [g] w w' := by
    rintro w' ⟨e1, e2, e3, e4⟩
    refine ⟨putAt (putAt cur (i * 2) (eiS L[k]!)) (k * 2) (eiS L[i]!), ?_, by rw [size_putAt, size_putAt], hsw, ?_⟩
    · rw [e1]
      exact (blk_set_same (blk_set_same (blk_set_same (blk_set_same hg _ _) _ _) _ _) _ _)
    · have hk : Keeps [g] w ((((w.setCell ⟨g, i * 2, none⟩ (.string L[k]!.1)).setCell ⟨g, i * 2 + 1, none⟩ (.int .u64 L[k]!.2)).setCell ⟨g, k * 2, none⟩ (.string L[i]!.1)).setCell ⟨g, k * 2 + 1, none⟩ (.int .u64 L[i]!.2)) := (((((Keeps.refl _ _).setCell g _ _ (by simp)).setCell g _ _ (by simp)).setCell g _ _ (by simp)).setCell g _ _ (by simp))
      exact ⟨e2.trans hk.os, e4.trans hk.tape, e3.trans hk.output, by rw [e1]; exact hk.size, fun q hq hn => by rw [e1]; exact hk.block q hq hn⟩
  by_cases hik : i = k
  · subst hik
    refine (swapS_same b g _ cap i L[i]!.1 L[i]!.2 w hi hn hbg (cell_blk hb 1) gi0 gi1 (fr _) (fr _)).mono ?_
    rintro e w' ⟨rfl, h⟩
    obtain ⟨cur', r1, r2, r3, r4⟩ := fin w' h
    exact ⟨cur', rfl, r1, r2, r3, r4⟩
  · refine (swapS_mem b g _ cap i k L[i]!.1 L[k]!.1 L[i]!.2 L[k]!.2 w hi hk hn hik hbg (cell_blk hb 1) gi0 gi1 gk0 gk1 (fr _) (fr _) (fr _) (fr _)).mono ?_
    rintro e w' ⟨rfl, h⟩
    obtain ⟨cur', r1, r2, r3, r4⟩ := fin w' h
    exact ⟨cur', rfl, r1, r2, r3, r4⟩

theorem lenNilS (w : World) : Calls Try.prog 18 #[.pointer none] w fun e w' => e = .returned (.int .i64 0) ∧ w = w' := by
  go_enter Try.func18, Try.ntmps18
  go_wp2
  go_ret
  exact ⟨rfl, rfl⟩

theorem lenS_mem (b n cap : Nat) (a : Option Addr) (w : World) (h1 : w.cell? ⟨b, 1, none⟩ = some (.slice a n cap)) :
    Calls Try.prog 18 #[.pointer (some ⟨b, 0, none⟩)] w fun e w' => e = .returned (.int .i64 n) ∧ w = w' := by
  go_enter Try.func18, Try.ntmps18
  go_wp2
  go_ret
  exact ⟨rfl, rfl⟩

end Go.Proofs.Ytlcbcagbiiachaa
