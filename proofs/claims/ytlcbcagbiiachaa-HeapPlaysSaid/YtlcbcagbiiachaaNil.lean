/- The walk of HeapNil. -/
import Derived.Test.YtlcbcagbiiachaaAwake
namespace Go.Proofs.Ytlcbcagbiiachaa
open Go.RowKit Go.Shelf
attribute [local go_sem] Oper.semAt_some

theorem pushNilI (x : Int) (w : World) : Calls Try.prog 26 #[.pointer none, .int .i64 x] w fun e w' => e = .returned (.tuple #[]) ∧ w = w' := by
  go_enter Try.func26, Try.ntmps26
  go_wp2
  go_returns
  exact ⟨rfl, rfl⟩

theorem peekNilI (w : World) : Calls Try.prog 27 #[.pointer none] w fun e w' => e = .returned (.tuple #[.int .i64 0, .bool false]) ∧ w = w' := by
  go_enter Try.func27, Try.ntmps27
  go_wp2_with (go_at_call 14; refine (lenNilI _).mono ?_; rintro e w' ⟨rfl, rfl⟩)
  go_ret2
  exact ⟨rfl, rfl⟩

theorem popNilI (w : World) : Calls Try.prog 15 #[.pointer none] w fun e w' => e = .returned (.tuple #[.int .i64 0, .bool false]) ∧ w = w' := by
  go_enter Try.func15, Try.ntmps15
  go_wp2_with (go_at_call 27; refine (peekNilI _).mono ?_; rintro e w' ⟨rfl, rfl⟩)
  go_ret2
  exact ⟨rfl, rfl⟩

/-- The iterator of no heap: nothing comes. -/
theorem drainI_nil_over (n : Nat) (hn : 1 ≤ n) (Bx : Nat) (w : World) (hx : w.heap[Bx]? = some (.cells #[.pointer none] 25 (0, 0))) :
    SeqOver n Try.prog 37 #[.pointer (some ⟨Bx, 0, none⟩)] (fun x : Int => #[Value.int .i64 x]) (Keeps []) (Same []) (fun _ _ => False) (fun xs _ => xs = []) 0 w := by
  intro lp J Jx W hW hJ hY h0
  have cx : W.cell? ⟨Bx, 0, none⟩ = some (.pointer none) := cell_blk (blk_below hW hx (blk_lt hx)) 0
  have H0 := Lib.hid h0
  clear hJ hY h0 hW hx
  refine callsIn_of_wp Try.func37 rfl trivial ?_ rfl
  simp only [Try.ntmps37, List.size_toArray, List.length_cons, List.length_nil, Nat.reduceAdd, Nat.reduceSub, Array.replicate_succ, Array.replicate_zero, List.push_toArray, List.append_toArray, List.nil_append, List.cons_append]
  gi_wp2_with fail
  gi_loopw [3] (fun _ wr => wr = W) (fun _ _ => 0)
  case atStart => rfl
  case round =>
    subst hrel
    gi_wp2_with fail
    refine ⟨trivial, ?_⟩
    refine (callsIn_wide.2 (lenNilI _)).mono ?_
    rintro e w' ⟨rfl, rfl⟩
    gi_wp2
    go_end0
    exact ⟨⟨_, rfl⟩, .inl ⟨_, rfl, H0.out⟩⟩

theorem nil_walk (n : Int) (w : World) :
    Calls Try.prog 6 #[.int .i64 n] w fun e w' => e = .returned (.bool true) ∧ Keeps [] w w' := by
  have hfn := drainNotNilI
  refine (callsIn_wide (n := 9)).1 ?_
  refine callsIn_of_wp_marks Try.func6 rfl trivial ?_ rfl
  simp only [Try.ntmps6, List.size_toArray, List.length_cons, List.length_nil, Nat.reduceAdd, Nat.reduceSub, Array.replicate_succ, Array.replicate_zero, List.push_toArray, List.append_toArray, List.nil_append, List.cons_append]
  refine wpIn_wide.2 ?_
  go_wp2_with (first | (go_at_call 26; refine (pushNilI _ _).mono ?_; rintro e w' ⟨rfl, rfl⟩) | (go_at_call 15; refine (popNilI _).mono ?_; rintro e w' ⟨rfl, rfl⟩) | (go_at_call 27; refine (peekNilI _).mono ?_; rintro e w' ⟨rfl, rfl⟩) | (go_at_call 17; refine (drainI _ _).mono ?_; rintro e w' ⟨rfl, rfl⟩))
  have K0 : Keeps [] w ((w.alloc (.cells #[.bool false] 4)).alloc (.cells #[.pointer none] 25)) := ((Keeps.refl _ _).alloc _).alloc _
  have r0 : ((w.alloc (.cells #[.bool false] 4)).alloc (.cells #[.pointer none] 25)).heap[w.heap.size]? = some (.cells #[.bool false] 4 (0, 0)) := blk_alloc (blk_new _ _) _
  have x0 : ((w.alloc (.cells #[.bool false] 4)).alloc (.cells #[.pointer none] 25)).heap[w.heap.size + 1]? = some (.cells #[.pointer none] 25 (0, 0)) := by simpa using blk_new (w.alloc _) _
  have z0 : ((w.alloc (.cells #[.bool false] 4)).alloc (.cells #[.pointer none] 25)).heap.size = w.heap.size + 1 + 1 := by simp
  generalize ((w.alloc (.cells #[.bool false] 4)).alloc (.cells #[.pointer none] 25)) = w0 at K0 r0 x0 z0 ⊢
  refine wp_over (gf := 37) rfl (enters_of Try.func37 (by kernel_rfl) rfl) (drainI_nil_over 8 (by decide) _ w0 x0) (fun _ => rfl)
    same_t (fun W l o hl => same_put (w := w0) (by simp) W l o hl)
    (fun A B k o hR hk ho _ => hR.blk ho (by simp))
    (fun _ _ _ _ hs _ _ => hs) (fun _ _ _ _ hs _ _ => hs)
    (fun _ W => Keeps [] w W ∧ W.heap[w.heap.size]? = some (.cells #[.bool false] 4 (0, 0))) (fun _ _ _ => False)
    (fun s A B row hs hg hr => ⟨keeps_survive hg hr (by omega) hs.1, cells_survive hg hr hs.2⟩)
    (fun s A B hs hR => ⟨hs.1.andThen hR (by simp), hR.blk hs.2 (by simp)⟩)
    (fun _ _ _ _ _ hs _ _ => hs)
    ⟨K0, r0⟩ ?a1 ?assign ?body ?done ?stop
  case assign =>
    intro l x W K hK
    gi_wp2
    exact hK
  case body =>
    rintro l pre x W _ hlen
    omega
  case stop =>
    rintro D c pre W _ h
    exact h.elim
  case done =>
    rintro D ys W hD - ⟨hK, hr⟩ hDb
    have HR := Lib.hid hr
    have HD := Lib.hid hDb
    clear hr hDb r0 x0 K0
    have hk : w.heap.size < W.heap.size := blk_lt HR.out
    go_wp2_with fail
    refine (awake_true _).mono ?_
    rintro e w3 ⟨rfl, K3⟩
    have hr3 := K3.blk HR.out (by simp)
    have hD3 := K3.blk HD.out (by simp)
    have c3 := cell_blk hr3 0
    have f3 := free_blk hr3 0
    have HD3 := Lib.hid hD3
    have HR3 := Lib.hid hr3
    have KK : Keeps [] w w3 := hK.andThen K3 (by simp)
    clear hD3 hr3 K3 hK
    go_wp2_with (go_at_call 14; refine (lenNilI _).mono ?_; rintro e w' ⟨rfl, rfl⟩)
    refine ⟨by simp, .inl ⟨_, _, rfl, run_takeDeferred (blk_set_other HD3.out ⟨w.heap.size, 0, none⟩ _ (by simp; omega)), ?_⟩⟩
    have hcell : _ = some (Value.bool true) := cell_blk (blk_put_other (blk_set_same HR3.out 0 (.bool true)) (.deferred none) (show w.heap.size ≠ D by omega)) 0
    refine ⟨.bool true, ?_, rfl, ?_⟩
    · simp [results, Try.results6, go_sem, hcell]
    · exact keeps_put (KK.setCell _ 0 _ (by simp)) _ (by omega)
end Go.Proofs.Ytlcbcagbiiachaa
