/- count; sums that wrap; New of no texts. -/
import Derived.Test.YtlcbcagbiiachaaLeast
namespace Go.Proofs.Ytlcbcagbiiachaa
open Go.RowKit

theorem wrap64_val (a : Int) : IntKind.i64.wrap a = (a + 9223372036854775808) % 18446744073709551616 - 9223372036854775808 := by
  simp [IntKind.wrap, IntKind.bits, IntKind.signed]
  omega
theorem wrap64_add (a b : Int) : IntKind.i64.wrap (IntKind.i64.wrap a + b) = IntKind.i64.wrap (a + b) := by
  rw [wrap64_val, wrap64_val a, wrap64_val (a + b)]; omega
theorem wrap64_sub (a b : Int) : IntKind.i64.wrap (IntKind.i64.wrap a - b) = IntKind.i64.wrap (a - b) := by
  rw [wrap64_val, wrap64_val a, wrap64_val (a - b)]; omega

/-- How often a number is there. -/
def times (l : List Int) (x : Int) : Nat := (l.filter (fun y => y == x)).length
theorem times_snoc (l : List Int) (x y : Int) : times (l ++ [y]) x = if y = x then times l x + 1 else times l x := by
  unfold times
  rw [List.filter_append]
  by_cases h : y = x <;> simp [h]
theorem times_pos {l : List Int} {x : Int} (h : x ∈ l) : 0 < times l x := by
  unfold times
  exact List.length_pos_of_mem (List.mem_filter.2 ⟨h, by simp⟩)
theorem times_le (l : List Int) (x : Int) : times l x ≤ l.length := List.length_filter_le _ _

theorem count_any (v : Value) (xs : List Int) (x : Int) (w : World) (hlen : xs.length ≤ 1000) (hv : RowAt (fun x : Int => .int .i64 x) w v xs) :
    Calls Try.prog 16 #[v, .int .i64 x] w fun e w' => e = .returned (.int .i64 (times xs x)) ∧ w = w' := by
  obtain ⟨a, cap, rfl, -, hcell⟩ := hv
  have HC := Lib.hid hcell
  have HL := Lib.hid hlen
  clear hcell hlen
  go_enter Try.func16, Try.ntmps16
  go_wp2_with fail
  go_loopw [5, 6] (fun c i wr => ∃ k : Nat, k ≤ xs.length ∧ i = .int .i64 k ∧ c = .int .i64 (times (xs.take k) x) ∧ wr = w) (fun _ i _ => xs.length - (intOf i).toNat)
  case atStart => exact ⟨0, by omega, rfl, rfl, rfl⟩
  case round =>
    obtain ⟨k, hk, rfl, rfl, rfl⟩ := hrel
    have h1 := HL.out
    have h2 := times_le (xs.take k) x
    rw [List.length_take] at h2
    have hk9 : (k : Int) ≤ 1000 := by omega
    have ht9 : (times (xs.take k) x : Int) ≤ 1000 := by omega
    clear h1 h2
    by_cases hlt : k < xs.length
    · obtain ⟨y, hy⟩ : ∃ y, xs[k]? = some y := ⟨xs[k], by simp⟩
      obtain ⟨b0, o0, ha, hc⟩ := HC.out (by intro e; rw [e] at hlt; simp at hlt)
      subst ha
      have hcx := hc k y hy
      have e : xs.take (k + 1) = xs.take k ++ [y] := by rw [List.take_add_one, hy]; rfl
      have HY := Lib.hid hy
      have HE := Lib.hid (times_snoc (xs.take k) x y)
      have HEE := Lib.hid e
      clear hc hy e
      by_cases hxy : y = x
      · have t1 : (y == x) = true := by simpa using hxy
        go_wp2
        go_roundw
        case rel => exact ⟨k + 1, by omega, by go_num, by rw [HEE.out, HE.out, if_pos hxy]; go_num, by trivial⟩
        case measure => simp [intOf]; omega
      · have t1 : (y == x) = false := by simpa using hxy
        go_wp2
        go_roundw
        case rel => exact ⟨k + 1, by omega, by go_num, by rw [HEE.out, HE.out, if_neg hxy], by trivial⟩
        case measure => simp [intOf]; omega
    · obtain rfl : k = xs.length := by omega
      go_wp2
      go_ret
      exact ⟨by simp, rfl⟩

theorem newS_nil (w : World) :
    Calls Try.prog 11 #[.func (.func 12) #[] #[], .slice none 0 0] w fun e w' => ∃ F : List Nat, e = .returned (.pointer (some ⟨w.heap.size, 0, none⟩)) ∧ HS w' w.heap.size F 0 [] ∧ Keeps [] w w' ∧ (∀ k ∈ F, w.heap.size ≤ k) :=
  newS _ [] w (by decide) ⟨none, 0, rfl, by decide, by simp⟩
end Go.Proofs.Ytlcbcagbiiachaa
