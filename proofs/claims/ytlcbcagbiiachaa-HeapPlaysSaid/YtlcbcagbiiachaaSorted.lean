/- The document's heap and the heap's order put a thing at the same place. -/
import Derived.Test.YtlcbcagbiiachaaRefheap
import Derived.Test.YtlcbcagbiiachaaDownT
namespace Go.Proofs.Ytlcbcagbiiachaa

/-- Keys in order. -/
def KeyOrd (L : List (Int × Int)) : Prop := L.Pairwise fun a b => a.1 ≤ b.1
theorem Ord.keys {S : List ((Int × Int) × Nat)} (h : Ord keyT S) : KeyOrd (S.map Prod.fst) := by
  unfold KeyOrd
  rw [List.pairwise_map]
  refine List.Pairwise.imp ?_ h
  intro a b hab
  unfold ahead at hab
  show a.1.1 ≤ b.1.1
  have : keyT a.1 = a.1.1 ∧ keyT b.1 = b.1.1 := ⟨rfl, rfl⟩
  omega
def cntLe (x : Int × Int) (L : List (Int × Int)) : Nat := L.countP fun y => decide (y.1 ≤ x.1)
theorem cntLe_all {x : Int × Int} {L : List (Int × Int)} (h : ∀ y ∈ L, y.1 ≤ x.1) : cntLe x L = L.length := by
  unfold cntLe
  rw [List.countP_eq_length]
  intro y hy
  exact decide_eq_true (h y hy)
theorem cntLe_none {x : Int × Int} {L : List (Int × Int)} (h : ∀ y ∈ L, x.1 < y.1) : cntLe x L = 0 := by
  unfold cntLe
  rw [List.countP_eq_zero]
  intro y hy
  have := h y hy
  simp
  omega
theorem insAt_cnt (x : Int × Int) (L : List (Int × Int)) (h : KeyOrd L) : ∀ n, n ≤ L.length → insAt x L n = cntLe x (L.take n)
  | 0, _ => by simp [insAt, cntLe]
  | n + 1, hn => by
    have hlt : n < L.length := by omega
    have e : L[n]! = L[n] := getElem!_pos L n hlt
    have et : L.take (n + 1) = L.take n ++ [L[n]] := by rw [List.take_add_one, List.getElem?_eq_getElem hlt]; rfl
    unfold insAt
    rw [e, insAt_cnt x L h n (by omega), et]
    split
    · rename_i hx
      unfold cntLe
      rw [List.countP_append]
      have : ¬ L[n].1 ≤ x.1 := by omega
      simp [this]
    · rename_i hx
      have hall : ∀ y ∈ L.take n ++ [L[n]], y.1 ≤ x.1 := by
        intro y hy
        rw [← et] at hy
        have hp : (L.take (n + 1)).Pairwise fun a b => a.1 ≤ b.1 := h.sublist (List.take_sublist _ _)
        rw [et] at hp hy
        rw [List.pairwise_append] at hp
        rcases List.mem_append.1 hy with hy | hy
        · have := hp.2.2 y hy L[n] (by simp)
          omega
        · simp at hy
          rw [hy]
          omega
      rw [cntLe_all hall]
      simp
      omega
theorem insR_cnt (x : Int × Int) (L : List (Int × Int)) (h : KeyOrd L) : insR x L = L.take (cntLe x L) ++ x :: L.drop (cntLe x L) := by
  unfold insR
  rw [insAt_cnt x L h L.length (Nat.le_refl _), List.take_length]
theorem ins_insR (x : Int × Int) (c : Nat) : ∀ (S : List ((Int × Int) × Nat)), Ord keyT S → (ins keyT (x, c) S).map Prod.fst = insR x (S.map Prod.fst)
  | [], _ => rfl
  | y :: t, h => by
    have hk := Ord.keys h
    have ht : Ord keyT t := (List.pairwise_cons.1 h).2
    rw [insR_cnt x _ hk]
    unfold ins
    by_cases hy : keyT y.1 ≤ keyT x
    · rw [if_pos hy]
      have ec : cntLe x ((y :: t).map Prod.fst) = cntLe x (t.map Prod.fst) + 1 := by
        have hy' : y.1.1 ≤ x.1 := hy
        unfold cntLe
        rw [List.map_cons, List.countP_cons]
        simp [hy']
      rw [ec, List.map_cons, ins_insR x c t ht, insR_cnt x _ (Ord.keys ht)]
      simp
    · rw [if_neg hy]
      have e0 : cntLe x ((y :: t).map Prod.fst) = 0 := by
        refine cntLe_none (fun z hz => ?_)
        have hy' : ¬ y.1.1 ≤ x.1 := hy
        have hk2 : KeyOrd (y.1 :: t.map Prod.fst) := hk
        rcases List.mem_cons.1 hz with rfl | hz
        · omega
        · have := (List.pairwise_cons.1 hk2).1 z hz
          omega
      rw [e0]
      simp
end Go.Proofs.Ytlcbcagbiiachaa
