/- awake: the chapter's example. -/
import Derived.Test.YtlcbcagbiiachaaDrain
namespace Go.Proofs.Ytlcbcagbiiachaa
open Go.RowKit Go.Shelf
attribute [local go_sem] Oper.semAt_some

theorem snoc_take {α : Type} {l pre : List α} {x : α} {k : Nat} (hk : k < l.length) (h : pre ++ [x] = l.take (k + 1)) : pre = l.take k ∧ l[k]? = some x := by
  rw [List.take_add_one, List.getElem?_eq_getElem hk, Option.toList_some] at h
  obtain ⟨h1, h2⟩ := List.append_inj' h rfl
  simp only [List.cons.injEq, and_true] at h2
  exact ⟨h1, by rw [h2, List.getElem?_eq_getElem hk]⟩

/-- The digits told so far. -/
def digits (l : List Int) : Int := l.foldl (fun n x => 10 * n + x) 0
theorem digits_snoc (l : List Int) (x : Int) : digits (l ++ [x]) = 10 * digits l + x := by simp [digits]

theorem pour_awake : pour keyI 0 [] [5, 1, 4, 1] = [(1, 1), (1, 3), (4, 2), (5, 0)] := by decide

theorem drainNotNilI (v : Value) (w : World) : (binOp .eql 37 (.func (.func 37) #[] #[v]) .nilFunc).run Try.prog w = .ok (.bool false) w := by kernel_rfl

theorem awake_true (w : World) : Calls Try.prog 8 #[] w fun e w' => e = .returned (.bool true) ∧ Keeps [] w w' := by
  have hfn := drainNotNilI
  refine (callsIn_wide (n := 9)).1 ?_
  refine callsIn_of_wp_marks Try.func8 rfl trivial ?_ rfl
  simp only [Try.ntmps8, List.size_toArray, List.length_nil, Nat.reduceSub, Array.replicate_succ, Array.replicate_zero, List.push_toArray, List.append_toArray, List.nil_append, List.cons_append]
  refine wpIn_wide.2 ?_
  go_wp2_with fail
  refine (newI _ [5, 1, 4, 1] _ (by decide) ⟨_, 4, rfl, by decide, fun _ => ⟨_, _, rfl, fun i x hx => ?_⟩⟩).mono ?_
  · rw [cell_blk (blk_new w _)]
    match i with
    | 0 => cases hx; rfl
    | 1 => cases hx; rfl
    | 2 => cases hx; rfl
    | 3 => cases hx; rfl
    | i + 4 => simp at hx
  rintro e w1 ⟨F, rfl, q1, K1, hF1⟩
  have k1 : Keeps [] w w1 := ((Keeps.refl _ _).alloc _).andThen K1 (by simp)
  have hF : ∀ k ∈ F, w.heap.size ≤ k := fun k hk => by have := hF1 k hk; simp at this; omega
  clear K1 hF1
  rw [pour_awake] at q1
  simp only [World.size_alloc] at q1 ⊢
  have HQ1 := Lib.hid q1
  clear q1
  go_wp2_with fail
  refine (drainI w1 _).mono ?_
  rintro e w2 ⟨rfl, rfl⟩
  go_wp2_with fail
  have hlt1 := HQ1.out.lt
  have K0 : Keeps [] w ((w1.alloc (.cells #[.pointer (some ⟨w.heap.size + 1, 0, none⟩)] 25)).alloc (.cells #[.int .i64 0] 3)) := (k1.alloc _).alloc _
  have q0 : HI ((w1.alloc (.cells #[.pointer (some ⟨w.heap.size + 1, 0, none⟩)] 25)).alloc (.cells #[.int .i64 0] 3)) (w.heap.size + 1) F [5, 1, 4, 1].length [(1, 1), (1, 3), (4, 2), (5, 0)] := HQ1.out.kept (((Keeps.refl [] w1).alloc _).alloc _) (by simp)
  have x0 : ((w1.alloc (.cells #[.pointer (some ⟨w.heap.size + 1, 0, none⟩)] 25)).alloc (.cells #[.int .i64 0] 3)).heap[w1.heap.size]? = some (.cells #[.pointer (some ⟨w.heap.size + 1, 0, none⟩)] 25 (0, 0)) := blk_alloc (blk_new _ _) _
  have n0 : ((w1.alloc (.cells #[.pointer (some ⟨w.heap.size + 1, 0, none⟩)] 25)).alloc (.cells #[.int .i64 0] 3)).heap[w1.heap.size + 1]? = some (.cells #[.int .i64 0] 3 (0, 0)) := by simpa using blk_new (w1.alloc _) _
  have z0 : ((w1.alloc (.cells #[.pointer (some ⟨w.heap.size + 1, 0, none⟩)] 25)).alloc (.cells #[.int .i64 0] 3)).heap.size = w1.heap.size + 2 := by simp
  have hs1 := k1.size
  obtain ⟨n, hn⟩ : ∃ n, n = w1.heap.size := ⟨_, rfl⟩
  rw [← hn] at hlt1 x0 n0 z0 hs1 ⊢
  generalize hw0 : ((w1.alloc (.cells #[.pointer (some ⟨w.heap.size + 1, 0, none⟩)] 25)).alloc (.cells #[.int .i64 0] 3)) = w0 at K0 q0 x0 n0 z0 ⊢
  clear hw0 HQ1 k1 hn
  clear w1
  have hFn : n ∉ F := fun h => by have := hlt1 n h; omega
  have hFn1 : n + 1 ∉ F := fun h => by have := hlt1 _ h; omega
  refine wp_over (gf := 37) rfl (enters_of Try.func37 (by kernel_rfl) rfl) (drainI_over 8 (by decide) n _ F _ _ w0 q0 (by decide) hFn x0) (fun _ => rfl)
    same_t (fun W l o hl => same_put (w := w0) (by simp; exact ⟨by omega, fun k hk => by have := hlt1 k hk; omega⟩) W l o hl)
    (fun A B k o hR hk ho _ => hR.blk ho (fun h => by have := hlt1 k h; omega))
    (fun s A B row hs hg hr => by obtain ⟨k, h1, h2, h3⟩ := hs; exact ⟨k, h1, h2, heap_survive hg hr h3⟩)
    (fun s A B row hs hg hr => ⟨hs.1, heap_survive hg hr hs.2⟩)
    (fun pre W => Keeps [] w W ∧ W.heap[n + 1]? = some (.cells #[.int .i64 (digits pre)] 3 (0, 0))) (fun _ _ _ => False)
    (fun s A B row hs hg hr => ⟨keeps_survive hg hr (by omega) hs.1, cells_survive hg hr hs.2⟩)
    (fun s A B hs hR => ⟨hs.1.andThen hR (fun g hg => .inr (hF g hg)), hR.blk hs.2 hFn1⟩)
    (fun _ _ _ _ _ hs _ _ => hs)
    ⟨K0, n0⟩ ?a1 ?assign ?body ?done ?stop
  case assign =>
    intro l x W K hK
    gi_wp2
    exact hK
  case body =>
    rintro l pre x W ⟨hK, hn⟩ hlen ⟨k, hk, hpre, hq⟩
    have hx := snoc_take (by simpa using hk) hpre
    have hk4 : k < 4 := hk
    have hd : digits (pre ++ [x]) = 10 * digits pre + x := digits_snoc pre x
    have hb : -100000 ≤ digits pre ∧ digits pre ≤ 100000 ∧ -100 ≤ x ∧ x ≤ 100 := by
      obtain ⟨rfl, hx⟩ := hx
      match k with
      | 0 => cases hx; decide
      | 1 => cases hx; decide
      | 2 => cases hx; decide
      | 3 => cases hx; decide
      | k + 4 => omega
    have c := cell_blk hn 0
    have f := free_blk hn 0
    have HN := Lib.hid hn
    have HD := Lib.hid hd
    have HK := Lib.hid hK
    clear hn hd hK hpre hx hq
    gi_wp2
    have kk : Keeps [n + 1] W (W.setCell ⟨n + 1, 0, none⟩ (.int .i64 (10 * digits pre + x))) := (Keeps.refl _ _).setCell _ 0 _ (.inl (by simp))
    refine ⟨(others_keeps kk (by simp; exact ⟨_, _, _, _, HN.out⟩)).from _, kk.same ?_, HK.out.setCell _ 0 _ (.inr (by omega)), ?_⟩
    · have hlW : n + 2 ≤ W.heap.size := by have := blk_lt HN.out; omega
      intro k hk
      simp only [List.mem_cons] at hk
      rcases hk with rfl | hk
      · exact ⟨by omega, by simp⟩
      · exact ⟨by have := hlt1 k hk; omega, by simp; intro h; exact hFn1 (h ▸ hk)⟩
    · rw [HD.out]
      have := blk_set_same HN.out 0 (.int .i64 (10 * digits pre + x))
      simpa using this
  case stop =>
    rintro D c pre W _ h
    exact h.elim
  case done =>
    rintro D ys W hD ⟨rfl, hq⟩ ⟨hK, hn⟩ hDb
    have HN := Lib.hid hn
    have c := cell_blk hn 0
    have HD := Lib.hid hDb
    clear hn hDb x0 n0 q0 K0
    go_wp2_with fail
    refine (lenI _ F _ [] _ hq).mono ?_
    rintro e w' ⟨rfl, rfl⟩
    go_wp2
    refine ⟨by simp, .inl ⟨_, _, rfl, run_takeDeferred HD.out, ?_⟩⟩
    refine ⟨.bool true, ?_, rfl, ?_⟩
    · simp [results, Try.results8, go_sem]
    · exact keeps_put hK _ (by omega)
end Go.Proofs.Ytlcbcagbiiachaa
