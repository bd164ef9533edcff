/- New of a heap of the document's things, of a row. -/
import Derived.Test.YtlcbcagbiiachaaNewT
namespace Go.Proofs.Ytlcbcagbiiachaa
open Go.RowKit

theorem newT_row (g cap : Nat) (xs : List (Int × Int)) (w : World) (hlen : xs.length ≤ 1000) (hcell : ∀ i x, xs[i]? = some x → w.cell? ⟨g, i * 2, none⟩ = some (.int .i64 x.1) ∧ w.cell? ⟨g, i * 2 + 1, none⟩ = some (.int .i64 x.2)) :
    Calls Try.prog 20 #[.func (.func 21) #[] #[], .slice (some ⟨g, 0, none⟩) xs.length cap] w fun e w' => ∃ F : List Nat, e = .returned (.pointer (some ⟨w.heap.size, 0, none⟩)) ∧ HT w' w.heap.size F xs.length (pour keyT 0 [] xs) ∧ Keeps [] w w' ∧ (∀ k ∈ F, w.heap.size ≤ k) := by
  have HC := Lib.hid hcell
  clear hcell
  have HL := Lib.hid hlen
  clear hlen
  go_enter Try.func20, Try.ntmps20
  go_wp2_with fail
  have q0 : HT (w.alloc (.cells #[.func (.func 21) #[] #[], .slice none 0 0, .int .u64 (0 : Nat)] 80)) w.heap.size [w.heap.size] 0 [] := ⟨List.Pairwise.nil, by simp, .inl ⟨rfl, rfl, blk_new _ _⟩⟩
  have k0 : Keeps [] w (w.alloc (.cells #[.func (.func 21) #[] #[], .slice none 0 0, .int .u64 0] 80)) := (Keeps.refl _ _).alloc _
  simp only [Int.natCast_zero] at q0
  obtain ⟨b, hb⟩ : ∃ b, b = w.heap.size := ⟨_, rfl⟩
  rw [← hb]
  rw [← hb] at q0
  have HB := Lib.hid hb
  clear hb
  generalize (w.alloc (.cells #[.func (.func 21) #[] #[], .slice none 0 0, .int .u64 0] 80)) = w0 at q0 k0 ⊢
  go_loopw [13] (fun i wr => ∃ (k : Nat) (F : List Nat), k ≤ xs.length ∧ i = .int .i64 k ∧ HT wr b F k (pour keyT 0 [] (xs.take k)) ∧ Keeps [] w wr ∧ (∀ k ∈ F, w.heap.size ≤ k)) (fun i _ => xs.length - (intOf i).toNat)
  case atStart => exact ⟨0, [b], by omega, rfl, by simpa [pour] using q0, k0, by simp [HB.out]⟩
  case round =>
    obtain ⟨k, F, hk, rfl, hq, hK, hF⟩ := hrel
    have HQ := Lib.hid hq
    have HF := Lib.hid hF
    clear hq hF q0 k0
    by_cases hlt : k < xs.length
    · obtain ⟨x, hx⟩ : ∃ x, xs[k]? = some x := ⟨xs[k], by simp [hlt]⟩
      have hcx := HC.out k x hx
      have hcr : wr.cell? ⟨g, k * 2, none⟩ = some (.int .i64 x.1) := by
        rw [← hcx.1]
        exact World.cell?_of_block (hK.block g (World.block_lt_of_cell? _ _ hcx.1) (by simp))
      have hcr2 : wr.cell? ⟨g, k * 2 + 1, none⟩ = some (.int .i64 x.2) := by
        rw [← hcx.2]
        exact World.cell?_of_block (hK.block g (World.block_lt_of_cell? _ _ hcx.2) (by simp))
      have hKA := hK.alloc (.cells #[.int .i64 x.1, .int .i64 x.2] 45)
      have HQA := Lib.hid (HQ.out.kept ((Keeps.refl [] wr).alloc (.cells #[.int .i64 x.1, .int .i64 x.2] 45)) (by simp))
      have HKA := Lib.hid hKA
      clear hKA
      have HX := Lib.hid hx
      clear hcx hx
      have hlt' : (k : Int) < (xs.length : Int) := by omega
      go_wp2_with fail
      refine (pushT b F k (pour keyT 0 [] (xs.take k)) x _ HQA.out (by rw [pour_length]; have := HL.out; simp; omega) (by have := HL.out; omega)).mono ?_
      rintro e w' ⟨rfl, F', hq', hK', hF'⟩
      have HQ' := Lib.hid hq'
      have HF' := Lib.hid hF'
      clear hq' hF'
      have hk9 : (k : Int) ≤ 1000 := by have := HL.out; omega
      go_wp2
      go_roundw
      case rel =>
        have e : xs.take (k + 1) = xs.take k ++ [x] := by
          rw [List.take_add_one, HX.out]; rfl
        have hl : (xs.take k).length = k := by simp; omega
        have hq' := HQ'.out
        have hl1 := HL.out
        have e2 := pour_snoc keyT x (xs.take k) 0 []
        rw [hl, Nat.zero_add] at e2
        refine ⟨k + 1, F', by omega, by go_num, by rw [e, e2]; exact hq', HKA.out.andThen hK' (fun g hg => .inr (HF.out g hg)), ?_⟩
        intro g hg
        rcases HF'.out g hg with h | h
        · exact HF.out g h
        · have := HKA.out.size; omega
      case measure =>
        have hl1 := HL.out
        simp [intOf]; omega
    · obtain rfl : k = xs.length := by omega
      go_wp2
      go_ret
      exact ⟨F, by rw [HB.out]; rfl, by rw [← HB.out]; simpa using HQ.out, hK, HF.out⟩


end Go.Proofs.Ytlcbcagbiiachaa
