/- HeapPlays: what is in it from the beginning; plain words. -/
import Derived.Test.YtlcbcagbiiachaaDoes
import Derived.Test.YtlcbcagbiiachaaNewRow
namespace Go.Proofs.Ytlcbcagbiiachaa
open Go.RowKit

/-- The things of the beginning. -/
def fi (xs : List Int) : Nat → List (Int × Int)
  | 0 => []
  | k + 1 => fi xs k ++ [(xs[k]! % 6, -1 - (k : Int))]
theorem fi_len (xs : List Int) : ∀ k, (fi xs k).length = k
  | 0 => rfl
  | k + 1 => by simp [fi, fi_len xs k]
def ml (l : List (Int × Int)) : List (Int × Int) := l.foldl (fun L x => insR x L) []
theorem ml_snoc (l : List (Int × Int)) (x : Int × Int) : ml (l ++ [x]) = insR x (ml l) := by simp [ml, List.foldl_append]
theorem insR_length (x : Int × Int) (L : List (Int × Int)) : (insR x L).length = L.length + 1 := by
  unfold insR
  have := insAt_le x L L.length
  simp; omega
theorem ml_length (xs : List Int) : ∀ k, (ml (fi xs k)).length = k
  | 0 => rfl
  | k + 1 => by rw [fi, ml_snoc, insR_length, ml_length xs k]
theorem ins_mem {x y : (Int × Int) × Nat} {S : List ((Int × Int) × Nat)} (h : y ∈ ins keyT x S) : y = x ∨ y ∈ S := by
  have := (ins_perm (key := keyT) x S).mem_iff.1 h
  simpa using this
theorem pour_facts (xs : List Int) : ∀ k, Ord keyT (pour keyT 0 [] (fi xs k)) ∧ (∀ y ∈ pour keyT 0 [] (fi xs k), y.2 < k) ∧ (pour keyT 0 [] (fi xs k)).map Prod.fst = ml (fi xs k)
  | 0 => ⟨List.Pairwise.nil, by simp [pour, fi], rfl⟩
  | k + 1 => by
    obtain ⟨h1, h2, h3⟩ := pour_facts xs k
    rw [fi, pour_snoc, fi_len]
    refine ⟨ins_ord h1 (fun y hy => by have := h2 y hy; simpa using this), fun y hy => ?_, ?_⟩
    · rcases ins_mem hy with rfl | hy
      · simp
      · have := h2 y hy; omega
    · rw [ins_insR _ _ _ h1, h3, ml_snoc]
theorem row_own {w : World} {g c base n : Nat} {L : List (Int × Int)} (hl : L.length = n) (ho : w.ownsRow base 45 2 (.slice (some ⟨g, 0, none⟩) n c) n (flat ei2 L)) :
    ∀ i x, L[i]? = some x → w.cell? ⟨g, i * 2, none⟩ = some (.int .i64 x.1) ∧ w.cell? ⟨g, i * 2 + 1, none⟩ = some (.int .i64 x.2) := by
  subst hl
  obtain ⟨cur, h1, h2, h3, h4, h5⟩ := owns_row ho
  intro i x hx
  have hi : i < L.length := by
    rcases Nat.lt_or_ge i L.length with h | h
    · exact h
    · rw [List.getElem?_eq_none h] at hx; cases hx
  have hxe : L[i]! = x := by rw [List.getElem!_eq_getElem?_getD, hx]; rfl
  have e0 := take_get (ei := ei2) ei2_len h5 i 0 hi (by decide)
  have e1 := take_get (ei := ei2) ei2_len h5 i 1 hi (by decide)
  rw [hxe] at e0 e1
  rw [cell_blk h1, cell_blk h1]
  exact ⟨by simpa using e0, by simpa using e1⟩
theorem new_any (v : Value) (xs : List Int) (i base : Nat) (w : World) (hi : i ≤ 12) (ho : w.ownsRow base 45 2 v i (flat ei2 (fi xs i))) (hn : i = 0 → v = .slice none 0 0) :
    Calls Try.prog 20 #[.func (.func 21) #[] #[], v] w fun e w' => ∃ F : List Nat, e = .returned (.pointer (some ⟨w.heap.size, 0, none⟩)) ∧ HT w' w.heap.size F i (pour keyT 0 [] (fi xs i)) ∧ Keeps [] w w' ∧ (∀ k ∈ F, w.heap.size ≤ k) := by
  by_cases h0 : i = 0
  · subst h0
    rw [hn rfl]
    exact newT_nil w
  · rcases ho.2 with ⟨_, he⟩ | ⟨g, c, cur, rfl, _⟩
    · exact absurd he h0
    · have h := newT_row g c (fi xs i) w (by rw [fi_len]; omega) (row_own (fi_len xs i) ho)
      rw [fi_len] at h
      exact h
end Go.Proofs.Ytlcbcagbiiachaa
