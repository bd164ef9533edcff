/- The walk of FifoNil. -/
import Derived.Test.YtoecfimmgiajpaaRange
namespace Go.Proofs.Ytoecfimmgiajpaa
open Go.RowKit Go.Shelf
attribute [local go_sem] Oper.semAt_some

theorem pushNil (x : Int) (w : World) : Calls Try.prog 15 #[.pointer none, .int .i64 x] w fun e w' => e = .returned (.tuple #[]) ∧ w = w' := by
  go_enter Try.func15, Try.ntmps15
  go_wp2
  go_returns
  exact ⟨rfl, rfl⟩

theorem atNil (i : Int) (hi : 0 ≤ i) (w : World) : Calls Try.prog 20 #[.pointer none, .int .i64 i] w fun e w' => e = .returned (.tuple #[.int .i64 0, .bool false]) ∧ w = w' := by
  go_enter Try.func20, Try.ntmps20
  go_wp2_with (go_at_call 16; refine (lenNilI _).mono ?_; rintro e w' ⟨rfl, rfl⟩)
  go_ret2
  exact ⟨rfl, rfl⟩

theorem popNil (w : World) : Calls Try.prog 17 #[.pointer none] w fun e w' => e = .returned (.tuple #[.int .i64 0, .bool false]) ∧ w = w' := by
  go_enter Try.func17, Try.ntmps17
  go_wp2_with (go_at_call 20; refine (atNil 0 (by decide) _).mono ?_; rintro e w' ⟨rfl, rfl⟩)
  go_ret2
  exact ⟨rfl, rfl⟩

theorem roomNil (w : World) : Calls Try.prog 18 #[.pointer none] w fun e w' => e = .returned (.int .i64 0) ∧ w = w' := by
  go_enter Try.func18, Try.ntmps18
  go_wp2
  go_ret
  exact ⟨rfl, rfl⟩

theorem allNotNil (v : Value) (w : World) : (binOp .eql 41 (.func (.func 27) #[] #[v]) .nilFunc).run Try.prog w = .ok (.bool false) w := by kernel_rfl

theorem nil_walk (n : Int) (w : World) :
    Calls Try.prog 6 #[.int .i64 n] w fun e w' => e = .returned (.bool true) ∧ Keeps [] w w' := by
  have hfn := allNotNil
  refine (callsIn_wide (n := 9)).1 ?_
  refine callsIn_of_wp_marks Try.func6 rfl trivial ?_ rfl
  simp only [Try.ntmps6, List.size_toArray, List.length_cons, List.length_nil, Nat.reduceAdd, Nat.reduceSub, Array.replicate_succ, Array.replicate_zero, List.push_toArray, List.append_toArray, List.nil_append, List.cons_append]
  refine wpIn_wide.2 ?_
  go_wp2_with (first | (go_at_call 15; refine (pushNil _ _).mono ?_; rintro e w' ⟨rfl, rfl⟩) | (go_at_call 17; refine (popNil _).mono ?_; rintro e w' ⟨rfl, rfl⟩) | (go_at_call 20; refine (atNil 0 (by decide) _).mono ?_; rintro e w' ⟨rfl, rfl⟩) | (go_at_call 19; refine (allI _ _).mono ?_; rintro e w' ⟨rfl, rfl⟩))
  have K0 : Keeps [] w (((w.alloc (.cells #[.bool false] 4)).alloc (.cells #[.slice none 0 0, .int .i64 0, .int .i64 0] 45)).alloc (.cells #[.pointer none] 33)) := (((Keeps.refl _ _).alloc _).alloc _).alloc _
  have r0 : (((w.alloc (.cells #[.bool false] 4)).alloc (.cells #[.slice none 0 0, .int .i64 0, .int .i64 0] 45)).alloc (.cells #[.pointer none] 33)).heap[w.heap.size]? = some (.cells #[.bool false] 4 (0, 0)) := blk_alloc (blk_alloc (blk_new _ _) _) _
  have q0 : QI (((w.alloc (.cells #[.bool false] 4)).alloc (.cells #[.slice none 0 0, .int .i64 0, .int .i64 0] 45)).alloc (.cells #[.pointer none] 33)) (w.heap.size + 1) [w.heap.size + 1] 0 [] := .inl ⟨rfl, rfl, rfl, blk_alloc (by simpa using blk_new (w.alloc _) _) _⟩
  have x0 : (((w.alloc (.cells #[.bool false] 4)).alloc (.cells #[.slice none 0 0, .int .i64 0, .int .i64 0] 45)).alloc (.cells #[.pointer none] 33)).heap[w.heap.size + 1 + 1]? = some (.cells #[.pointer none] 33 (0, 0)) := by simpa using blk_new ((w.alloc _).alloc _) _
  have z0 : (((w.alloc (.cells #[.bool false] 4)).alloc (.cells #[.slice none 0 0, .int .i64 0, .int .i64 0] 45)).alloc (.cells #[.pointer none] 33)).heap.size = w.heap.size + 1 + 1 + 1 := by simp
  generalize (((w.alloc (.cells #[.bool false] 4)).alloc (.cells #[.slice none 0 0, .int .i64 0, .int .i64 0] 45)).alloc (.cells #[.pointer none] 33)) = w0 at K0 r0 q0 x0 z0 ⊢
  refine wp_range (gf := 27) rfl (enters_of Try.func27 (by kernel_rfl) rfl) (allI_nil_stops 8 (by decide) _ _ x0) (by simp; omega) (fun _ => rfl)
    (fun _ W => Keeps [] w W ∧ W.heap[w.heap.size]? = some (.cells #[.bool false] 4 (0, 0)) ∧ QI W (w.heap.size + 1) [w.heap.size + 1] 0 []) (fun _ _ _ => False)
    (fun s A B row hs hg hr => ⟨keeps_survive hg hr (by omega) hs.1, cells_survive hg hr hs.2.1, isq_survive hg hr hs.2.2⟩) (fun _ _ _ _ _ hs _ _ => hs)
    ⟨K0, r0, q0⟩ ?a1 ?assign ?body ?done ?stop
  case assign =>
    intro l x W K hK
    gi_wp2
    exact hK
  case body =>
    rintro l pre x W _ hlen
    omega
  case stop =>
    rintro D c pre W _ h
    exact h.elim
  case done =>
    rintro D ys W hD - ⟨hK, hr, hq⟩ hDb
    have HR := Lib.hid hr
    have HD := Lib.hid hDb
    clear hr hDb r0 x0 q0 K0
    have hk : w.heap.size < W.heap.size := blk_lt HR.out
    go_wp2_with fail
    refine (lenI _ _ _ _ _ hq).mono ?_
    rintro e w' ⟨rfl, rfl⟩
    go_wp2_with fail
    refine (pushI _ _ _ _ n _ hq (by omega)).mono ?_
    rintro e w1 ⟨F1, rfl, q1, K1, hF1⟩
    go_wp2_with fail
    refine (popI_some _ _ _ n [] _ q1 (by simp)).mono ?_
    rintro e w2 ⟨rfl, q2, K2⟩
    go_wp2_with fail
    refine (awake_true _).mono ?_
    rintro e w3 ⟨rfl, K3⟩
    have hF1' : ∀ k, k < w.heap.size + 1 → k ∉ F1 := fun k hk hf => by
      rcases hF1 k hf with h | h
      · simp at h; omega
      · omega
    have hDF : D ∉ F1 := fun hf => by
      rcases hF1 D hf with h | h
      · simp at h; omega
      · have := blk_lt HD.out; omega
    have hr3 := K3.blk (K2.blk (K1.blk HR.out (by simp)) (hF1' _ (by omega))) (by simp)
    have hD3 := K3.blk (K2.blk (K1.blk HD.out (by simp; omega)) hDF) (by simp)
    have c3 := cell_blk hr3 0
    have f3 := free_blk hr3 0
    have HD3 := Lib.hid hD3
    have HR3 := Lib.hid hr3
    have KK : Keeps [] w w3 := ((hK.andThen K1 (by simp)).andThen K2 (fun g hg => by
      rcases hF1 g hg with h | h
      · simp at h; omega
      · have := hK.size; omega)).andThen K3 (by simp)
    clear hD3 hr3 q1 q2 K1 K2 K3 hq hK
    go_wp2_with (first | (go_at_call 16; refine (lenNilI _).mono ?_; rintro e w' ⟨rfl, rfl⟩) | (go_at_call 18; refine (roomNil _).mono ?_; rintro e w' ⟨rfl, rfl⟩))
    refine ⟨by simp, .inl ⟨_, _, rfl, run_takeDeferred (blk_set_other HD3.out ⟨w.heap.size, 0, none⟩ _ (by simp; omega)), ?_⟩⟩
    have hcell : _ = some (Value.bool true) := cell_blk (blk_put_other (blk_set_same HR3.out 0 (.bool true)) (.deferred none) (show w.heap.size ≠ D by omega)) 0
    refine ⟨.bool true, ?_, rfl, ?_⟩
    · simp [results, Try.results6, go_sem, hcell]
    · exact keeps_put (KK.setCell _ 0 _ (by simp)) _ (by omega)
end Go.Proofs.Ytoecfimmgiajpaa
