/- New of a heap. -/
import Derived.Test.YtlcbcagbiiachaaPush
namespace Go.Proofs.Ytlcbcagbiiachaa
open Go.RowKit

section
variable {α : Type} (key : α → Int)
/-- A row pushed, thing by thing. -/
def pour : Nat → List (α × Nat) → List α → List (α × Nat)
  | _, S, [] => S
  | c, S, x :: xs => pour (c + 1) (ins key (x, c) S) xs
theorem pour_snoc (x : α) : ∀ (xs : List α) (c : Nat) (S : List (α × Nat)), pour key c S (xs ++ [x]) = ins key (x, c + xs.length) (pour key c S xs)
  | [], c, S => by simp [pour]
  | y :: ys, c, S => by
    simp only [List.cons_append, pour, List.length_cons]
    rw [pour_snoc x ys]
    congr 2
    omega
theorem ins_length (x : α × Nat) (S : List (α × Nat)) : (ins key x S).length = S.length + 1 := by
  have := (ins_perm (key := key) x S).length_eq
  simpa using this
theorem pour_length : ∀ (xs : List α) (c : Nat) (S : List (α × Nat)), (pour key c S xs).length = S.length + xs.length
  | [], c, S => by simp [pour]
  | y :: ys, c, S => by
    rw [pour, pour_length ys, ins_length]
    simp only [List.length_cons]; omega
theorem pour_perm : ∀ (xs : List α) (c : Nat) (S : List (α × Nat)), ((pour key c S xs).map Prod.fst).Perm (xs ++ S.map Prod.fst)
  | [], c, S => List.Perm.refl _
  | y :: ys, c, S => by
    rw [pour]
    refine (pour_perm ys _ _).trans ?_
    refine (((ins_perm (key := key) (y, c) S).map Prod.fst).append_left ys).trans ?_
    simp only [List.map_cons, List.cons_append]
    exact List.perm_middle
end

/-- A slice value that reads as this row. -/
def RowAt {α : Type} (enc : α → Value) (w : World) (v : Value) (xs : List α) : Prop :=
  ∃ a cap, v = .slice a xs.length cap ∧ xs.length ≤ cap ∧ (xs ≠ [] → ∃ b o, a = some ⟨b, o, none⟩ ∧ ∀ i x, xs[i]? = some x → w.cell? ⟨b, o + i, none⟩ = some (enc x))

theorem newI (v : Value) (xs : List Int) (w : World) (hlen : xs.length ≤ 1000) (hv : RowAt (fun x : Int => .int .i64 x) w v xs) :
    Calls Try.prog 9 #[.func (.func 10) #[] #[], v] w fun e w' => ∃ F : List Nat, e = .returned (.pointer (some ⟨w.heap.size, 0, none⟩)) ∧ HI w' w.heap.size F xs.length (pour keyI 0 [] xs) ∧ Keeps [] w w' ∧ (∀ k ∈ F, w.heap.size ≤ k) := by
  obtain ⟨a, cap, rfl, -, hcell⟩ := hv
  have HC := Lib.hid hcell
  clear hcell
  have HL := Lib.hid hlen
  clear hlen
  go_enter Try.func9, Try.ntmps9
  go_wp2_with fail
  have q0 : HI (w.alloc (.cells #[.func (.func 10) #[] #[], .slice none 0 0, .int .u64 (0 : Nat)] 71)) w.heap.size [w.heap.size] 0 [] := ⟨List.Pairwise.nil, by simp, .inl ⟨rfl, rfl, blk_new _ _⟩⟩
  have k0 : Keeps [] w (w.alloc (.cells #[.func (.func 10) #[] #[], .slice none 0 0, .int .u64 0] 71)) := (Keeps.refl _ _).alloc _
  simp only [Int.natCast_zero] at q0
  obtain ⟨b, hb⟩ : ∃ b, b = w.heap.size := ⟨_, rfl⟩
  rw [← hb]
  rw [← hb] at q0
  have HB := Lib.hid hb
  clear hb
  generalize (w.alloc (.cells #[.func (.func 10) #[] #[], .slice none 0 0, .int .u64 0] 71)) = w0 at q0 k0 ⊢
  go_loopw [13] (fun i wr => ∃ (k : Nat) (F : List Nat), k ≤ xs.length ∧ i = .int .i64 k ∧ HI wr b F k (pour keyI 0 [] (xs.take k)) ∧ Keeps [] w wr ∧ (∀ k ∈ F, w.heap.size ≤ k)) (fun i _ => xs.length - (intOf i).toNat)
  case atStart => exact ⟨0, [b], by omega, rfl, by simpa [pour] using q0, k0, by simp [HB.out]⟩
  case round =>
    obtain ⟨k, F, hk, rfl, hq, hK, hF⟩ := hrel
    have HQ := Lib.hid hq
    have HF := Lib.hid hF
    clear hq hF q0 k0
    by_cases hlt : k < xs.length
    · obtain ⟨x, hx⟩ : ∃ x, xs[k]? = some x := ⟨xs[k], by simp [hlt]⟩
      obtain ⟨b0, o0, ha, hc⟩ := HC.out (by intro e; rw [e] at hlt; simp at hlt)
      subst ha
      have hcx := hc k x hx
      have hcr : wr.cell? ⟨b0, o0 + k, none⟩ = some (.int .i64 x) := by
        rw [← hcx]
        exact World.cell?_of_block (hK.block b0 (World.block_lt_of_cell? _ _ hcx) (by simp))
      have HX := Lib.hid hx
      clear hc hcx hx
      have hlt' : (k : Int) < (xs.length : Int) := by omega
      go_wp2_with fail
      refine (pushI b F k (pour keyI 0 [] (xs.take k)) x _ HQ.out (by rw [pour_length]; have := HL.out; simp; omega) (by have := HL.out; omega)).mono ?_
      rintro e w' ⟨rfl, F', hq', hK', hF'⟩
      have HQ' := Lib.hid hq'
      have HF' := Lib.hid hF'
      clear hq' hF'
      have hk9 : (k : Int) ≤ 1000 := by have := HL.out; omega
      go_wp2
      go_roundw
      case rel =>
        have e : xs.take (k + 1) = xs.take k ++ [x] := by
          rw [List.take_add_one, HX.out]; rfl
        have hl : (xs.take k).length = k := by simp; omega
        have hq' := HQ'.out
        have hl1 := HL.out
        have e2 := pour_snoc keyI x (xs.take k) 0 []
        rw [hl, Nat.zero_add] at e2
        refine ⟨k + 1, F', by omega, by go_num, by rw [e, e2]; exact hq', hK.andThen hK' (fun g hg => .inr (HF.out g hg)), ?_⟩
        intro g hg
        rcases HF'.out g hg with h | h
        · exact HF.out g h
        · have := hK.size; omega
      case measure =>
        have hl1 := HL.out
        simp [intOf]; omega
    · obtain rfl : k = xs.length := by omega
      go_wp2
      go_ret
      exact ⟨F, by rw [HB.out]; rfl, by rw [← HB.out]; simpa using HQ.out, hK, HF.out⟩

theorem newS (v : Value) (xs : List ByteArray) (w : World) (hlen : xs.length ≤ 1000) (hv : RowAt (fun x : ByteArray => .string x) w v xs) :
    Calls Try.prog 11 #[.func (.func 12) #[] #[], v] w fun e w' => ∃ F : List Nat, e = .returned (.pointer (some ⟨w.heap.size, 0, none⟩)) ∧ HS w' w.heap.size F xs.length (pour keyS 0 [] xs) ∧ Keeps [] w w' ∧ (∀ k ∈ F, w.heap.size ≤ k) := by
  obtain ⟨a, cap, rfl, -, hcell⟩ := hv
  have HC := Lib.hid hcell
  clear hcell
  have HL := Lib.hid hlen
  clear hlen
  go_enter Try.func11, Try.ntmps11
  go_wp2_with fail
  have q0 : HS (w.alloc (.cells #[.func (.func 12) #[] #[], .slice none 0 0, .int .u64 (0 : Nat)] 74)) w.heap.size [w.heap.size] 0 [] := ⟨List.Pairwise.nil, by simp, .inl ⟨rfl, rfl, blk_new _ _⟩⟩
  have k0 : Keeps [] w (w.alloc (.cells #[.func (.func 12) #[] #[], .slice none 0 0, .int .u64 0] 74)) := (Keeps.refl _ _).alloc _
  simp only [Int.natCast_zero] at q0
  obtain ⟨b, hb⟩ : ∃ b, b = w.heap.size := ⟨_, rfl⟩
  rw [← hb]
  rw [← hb] at q0
  have HB := Lib.hid hb
  clear hb
  generalize (w.alloc (.cells #[.func (.func 12) #[] #[], .slice none 0 0, .int .u64 0] 74)) = w0 at q0 k0 ⊢
  go_loopw [13] (fun i wr => ∃ (k : Nat) (F : List Nat), k ≤ xs.length ∧ i = .int .i64 k ∧ HS wr b F k (pour keyS 0 [] (xs.take k)) ∧ Keeps [] w wr ∧ (∀ k ∈ F, w.heap.size ≤ k)) (fun i _ => xs.length - (intOf i).toNat)
  case atStart => exact ⟨0, [b], by omega, rfl, by simpa [pour] using q0, k0, by simp [HB.out]⟩
  case round =>
    obtain ⟨k, F, hk, rfl, hq, hK, hF⟩ := hrel
    have HQ := Lib.hid hq
    have HF := Lib.hid hF
    clear hq hF q0 k0
    by_cases hlt : k < xs.length
    · obtain ⟨x, hx⟩ : ∃ x, xs[k]? = some x := ⟨xs[k], by simp [hlt]⟩
      obtain ⟨b0, o0, ha, hc⟩ := HC.out (by intro e; rw [e] at hlt; simp at hlt)
      subst ha
      have hcx := hc k x hx
      have hcr : wr.cell? ⟨b0, o0 + k, none⟩ = some (.string x) := by
        rw [← hcx]
        exact World.cell?_of_block (hK.block b0 (World.block_lt_of_cell? _ _ hcx) (by simp))
      have HX := Lib.hid hx
      clear hc hcx hx
      have hlt' : (k : Int) < (xs.length : Int) := by omega
      go_wp2_with fail
      refine (pushS b F k (pour keyS 0 [] (xs.take k)) x _ HQ.out (by rw [pour_length]; have := HL.out; simp; omega) (by have := HL.out; omega)).mono ?_
      rintro e w' ⟨rfl, F', hq', hK', hF'⟩
      have HQ' := Lib.hid hq'
      have HF' := Lib.hid hF'
      clear hq' hF'
      have hk9 : (k : Int) ≤ 1000 := by have := HL.out; omega
      go_wp2
      go_roundw
      case rel =>
        have e : xs.take (k + 1) = xs.take k ++ [x] := by
          rw [List.take_add_one, HX.out]; rfl
        have hl : (xs.take k).length = k := by simp; omega
        have hq' := HQ'.out
        have hl1 := HL.out
        have e2 := pour_snoc keyS x (xs.take k) 0 []
        rw [hl, Nat.zero_add] at e2
        refine ⟨k + 1, F', by omega, by go_num, by rw [e, e2]; exact hq', hK.andThen hK' (fun g hg => .inr (HF.out g hg)), ?_⟩
        intro g hg
        rcases HF'.out g hg with h | h
        · exact HF.out g h
        · have := hK.size; omega
      case measure =>
        have hl1 := HL.out
        simp [intOf]; omega
    · obtain rfl : k = xs.length := by omega
      go_wp2
      go_ret
      exact ⟨F, by rw [HB.out]; rfl, by rw [← HB.out]; simpa using HQ.out, hK, HF.out⟩

end Go.Proofs.Ytlcbcagbiiachaa
