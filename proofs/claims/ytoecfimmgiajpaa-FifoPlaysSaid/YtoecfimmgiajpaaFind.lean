/- Find, of the first even number. -/
import Derived.Test.YtoecfimmgiajpaaRefq
import Derived.RangeFuncCalls
namespace Go.Proofs.Ytoecfimmgiajpaa
open Go.RowKit Go.Shelf
attribute [local go_sem] Oper.semAt_some

/-- Is a number even, as the program asks? -/
def isEven (x : Int) : Bool := x.tmod 2 == 0

theorem even_any (x : Int) (w : World) : Calls Try.prog 29 #[.int .i64 x] w fun e w' => e = .returned (.bool (isEven x)) ∧ w = w' := by
  go_enter Try.func29, Try.ntmps29
  go_wp2
  go_ret
  exact ⟨rfl, rfl⟩

/-- What Find tells. -/
def found (l : List Int) : Int × Bool := match l.find? isEven with | some x => (x, true) | none => (0, false)

theorem pairs_snd (l : List Int) : (pairs l).map Prod.snd = l := by
  unfold pairs
  apply List.ext_getElem?
  intro i
  simp only [List.getElem?_map, List.getElem?_mapIdx]
  cases l[i]? <;> rfl

theorem find_prefix {l : List Int} {pre : List (Nat × Int)} {p : Nat × Int} {k : Nat} (h : pre ++ [p] = pairs (l.take k)) (hpre : ∀ y ∈ pre, isEven y.2 = false) (hx : isEven p.2 = true) : found l = (p.2, true) := by
  have e : l.take k = pre.map Prod.snd ++ [p.2] := by
    rw [← pairs_snd (l.take k), ← h]; simp
  have e2 : l = pre.map Prod.snd ++ ([p.2] ++ l.drop k) := by rw [← List.append_assoc, ← e, List.take_append_drop]
  unfold found
  rw [e2, List.find?_append, List.find?_eq_none.2 (by simp; exact fun x n h => hpre (n, x) h)]
  simp [hx]

theorem find_none {l : List Int} (h : ∀ y ∈ pairs l, isEven y.2 = false) : found l = (0, false) := by
  unfold found
  rw [List.find?_eq_none.2]
  intro x hx
  have h2 : x ∈ (pairs l).map Prod.snd := by rw [pairs_snd]; exact hx
  obtain ⟨y, hy, rfl⟩ := List.mem_map.1 h2
  simp [h y hy]

theorem findI (b : Nat) (F : List Nat) (size : Nat) (l : List Int) (w : World) (hq : QI w b F size l) (hsz : size ≤ 3000000) :
    Calls Try.prog 28 #[.pointer (some ⟨b, 0, none⟩), .func (.func 29) #[] #[]] w fun e w' => e = .returned (.tuple #[.int .i64 (found l).1, .bool (found l).2]) ∧ Keeps [] w w' := by
  have HQ := Lib.hid hq
  clear hq
  refine (callsIn_wide (n := 9)).1 ?_
  refine callsIn_of_wp_marks Try.func28 rfl trivial ?_ rfl
  simp only [Try.ntmps28, List.size_toArray, List.length_cons, List.length_nil, Nat.reduceAdd, Nat.reduceSub, Array.replicate_succ, Array.replicate_zero, List.push_toArray, List.append_toArray, List.nil_append, List.cons_append]
  refine wpIn_wide.2 ?_
  go_wp2_with fail
  refine (allI _ _).mono ?_
  rintro e w' ⟨rfl, rfl⟩
  go_wp2_with fail
  obtain ⟨B, hB⟩ : ∃ B, B = w.heap.size := ⟨_, rfl⟩
  have K0 : Keeps [] w ((((w.alloc (.cells #[.func (.func 29) #[] #[]] 47)).alloc (.cells #[.int .i64 0] 3)).alloc (.cells #[.bool false] 4)).alloc (.cells #[.pointer (some ⟨b, 0, none⟩)] 33)) := ((((Keeps.refl _ _).alloc _).alloc _).alloc _).alloc _
  have s0 : ((((w.alloc (.cells #[.func (.func 29) #[] #[]] 47)).alloc (.cells #[.int .i64 0] 3)).alloc (.cells #[.bool false] 4)).alloc (.cells #[.pointer (some ⟨b, 0, none⟩)] 33)).heap[w.heap.size]? = some (.cells #[.func (.func 29) #[] #[]] 47 (0, 0)) := blk_alloc (blk_alloc (blk_alloc (blk_new _ _) _) _) _
  have v0 : ((((w.alloc (.cells #[.func (.func 29) #[] #[]] 47)).alloc (.cells #[.int .i64 0] 3)).alloc (.cells #[.bool false] 4)).alloc (.cells #[.pointer (some ⟨b, 0, none⟩)] 33)).heap[w.heap.size + 1]? = some (.cells #[.int .i64 0] 3 (0, 0)) := blk_alloc (blk_alloc (by simpa using blk_new (w.alloc _) _) _) _
  have r0 : ((((w.alloc (.cells #[.func (.func 29) #[] #[]] 47)).alloc (.cells #[.int .i64 0] 3)).alloc (.cells #[.bool false] 4)).alloc (.cells #[.pointer (some ⟨b, 0, none⟩)] 33)).heap[w.heap.size + 1 + 1]? = some (.cells #[.bool false] 4 (0, 0)) := blk_alloc (by simpa using blk_new ((w.alloc _).alloc _) _) _
  have x0 : ((((w.alloc (.cells #[.func (.func 29) #[] #[]] 47)).alloc (.cells #[.int .i64 0] 3)).alloc (.cells #[.bool false] 4)).alloc (.cells #[.pointer (some ⟨b, 0, none⟩)] 33)).heap[w.heap.size + 1 + 1 + 1]? = some (.cells #[.pointer (some ⟨b, 0, none⟩)] 33 (0, 0)) := by simpa using blk_new (((w.alloc _).alloc _).alloc _) _
  have z0 : ((((w.alloc (.cells #[.func (.func 29) #[] #[]] 47)).alloc (.cells #[.int .i64 0] 3)).alloc (.cells #[.bool false] 4)).alloc (.cells #[.pointer (some ⟨b, 0, none⟩)] 33)).heap.size = w.heap.size + 4 := by simp
  have q0 : QI ((((w.alloc (.cells #[.func (.func 29) #[] #[]] 47)).alloc (.cells #[.int .i64 0] 3)).alloc (.cells #[.bool false] 4)).alloc (.cells #[.pointer (some ⟨b, 0, none⟩)] 33)) b F size l := HQ.out.kept K0 (by simp)
  have hF := HQ.out.lt
  rw [← hB] at s0 v0 r0 x0 z0 hF ⊢
  have HB := Lib.hid hB
  clear hB
  generalize ((((w.alloc (.cells #[.func (.func 29) #[] #[]] 47)).alloc (.cells #[.int .i64 0] 3)).alloc (.cells #[.bool false] 4)).alloc (.cells #[.pointer (some ⟨b, 0, none⟩)] 33)) = w0 at K0 s0 v0 r0 x0 z0 q0 ⊢
  refine wp_range (gf := 27) rfl (enters_of Try.func27 (by kernel_rfl) rfl) (allI_stops 8 (by decide) _ b F size l w0 q0 hsz x0) (by intro k hk; simp at hk; rcases hk with rfl | hk; (· omega); (· have := hF k hk; omega)) (fun _ => rfl)
    (fun pre W => Keeps [] w W ∧ W.heap[B]? = some (.cells #[.func (.func 29) #[] #[]] 47 (0, 0)) ∧ W.heap[B + 1]? = some (.cells #[.int .i64 0] 3 (0, 0)) ∧ W.heap[B + 1 + 1]? = some (.cells #[.bool false] 4 (0, 0)) ∧ ∀ y ∈ pre, isEven y.2 = false)
    (fun c pre W => c = .ret ∧ ∃ pre0 p, pre = pre0 ++ [p] ∧ (∀ y ∈ pre0, isEven y.2 = false) ∧ isEven p.2 = true ∧ Keeps [] w W ∧ W.heap[B + 1]? = some (.cells #[.int .i64 p.2] 3 (0, 0)) ∧ W.heap[B + 1 + 1]? = some (.cells #[.bool true] 4 (0, 0)))
    (fun s A B' row hs hg hr => ⟨keeps_survive hg hr (by have := HB.out; omega) hs.1, cells_survive hg hr hs.2.1, cells_survive hg hr hs.2.2.1, cells_survive hg hr hs.2.2.2.1, hs.2.2.2.2⟩)
    (fun c s A B' row hs hg hr => by
      obtain ⟨h1, pre0, p, h2, h3, h4, h5, h6, h7⟩ := hs
      exact ⟨h1, pre0, p, h2, h3, h4, keeps_survive hg hr (by have := HB.out; omega) h5, cells_survive hg hr h6, cells_survive hg hr h7⟩)
    ⟨K0, s0, v0, r0, by simp⟩ ?a1 ?assign ?body ?done ?stop
  case assign =>
    intro l x W K hK
    gi_wp2
    exact hK
  case body =>
    rintro lp pre x W ⟨hK, hs, hv, hr, hpre⟩ hlen
    have cs := cell_blk hs 0
    have fv := free_blk hv 0
    have fr := free_blk hr 0
    have cv := cell_blk hv 0
    have cr := cell_blk hr 0
    have HS := Lib.hid hs
    have HV := Lib.hid hv
    have HR := Lib.hid hr
    have HK := Lib.hid hK
    clear hs hv hr hK s0 v0 r0 x0 q0 K0
    gi_wp2_with fail
    refine ⟨trivial, ?_⟩
    refine (CallsIn.inRound lp (callsIn_wide.2 (even_any x.2 _))).mono ?_
    rintro e w' ⟨rfl, rfl⟩
    cases he : isEven x.2
    · gi_wp2
      have kk := Keeps.refl [] W
      refine ⟨(others_keeps kk (by simp)).from _, fun _ _ => rfl, HK.out, HS.out, HV.out, HR.out, ?_⟩
      intro y hy
      simp at hy
      rcases hy with hy | rfl
      · exact hpre _ hy
      · exact he
    · gi_wp2
      have kk : Keeps [B + 1, B + 1 + 1] W ((W.setCell ⟨B + 1, 0, none⟩ (.int .i64 x.2)).setCell ⟨B + 1 + 1, 0, none⟩ (.bool true)) := ((Keeps.refl _ _).setCell _ 0 _ (.inl (by simp))).setCell _ 0 _ (.inl (by simp))
      refine ⟨(others_keeps kk (by simp; exact ⟨⟨_, _, _, _, HV.out⟩, ⟨_, _, _, _, HR.out⟩⟩)).from _, rfl, pre, x, rfl, hpre, he, HK.out.andThen kk ?_, ?_, ?_⟩
      · have := HB.out
        intro g hg
        simp at hg
        rcases hg with rfl | rfl <;> right <;> omega
      · have := blk_set_other (blk_set_same HV.out 0 (.int .i64 x.2)) ⟨B + 1 + 1, 0, none⟩ (.bool true) (by simp)
        simpa using this
      · have := blk_set_same (blk_set_other HR.out ⟨B + 1, 0, none⟩ (.int .i64 x.2) (by simp)) 0 (.bool true)
        simpa using this
  case stop =>
    rintro D c pre W hD ⟨k, hk, hp⟩ ⟨rfl, pre0, p, rfl, hpre, hp1, hK, hv, hr⟩ hDb
    have hf := find_prefix hp hpre hp1
    have HV := Lib.hid hv
    have HR := Lib.hid hr
    have HK := Lib.hid hK
    have HD := Lib.hid hDb
    have HF := Lib.hid hf
    clear hv hr hK s0 v0 r0 x0 q0 K0 hDb hf hpre hp hp1
    go_wp2
    refine ⟨by simp, .inl ⟨_, _, rfl, run_takeDeferred HD.out, ?_⟩⟩
    have hcv : _ = some (Value.int .i64 p.2) := cell_blk (blk_put_other HV.out (.deferred none) (show B + 1 ≠ D by omega)) 0
    have hcr : _ = some (Value.bool true) := cell_blk (blk_put_other HR.out (.deferred none) (show B + 1 + 1 ≠ D by omega)) 0
    refine ⟨.tuple #[.int .i64 p.2, .bool true], ?_, by rw [HF.out], ?_⟩
    · simp [results, Try.results28, go_sem, hcv, hcr]
    · exact keeps_put HK.out _ (by have := HB.out; omega)
  case done =>
    rintro D ys W hD rfl ⟨hK, hs, hv, hr, hpre⟩ hDb
    have hf := find_none hpre
    have fv := free_blk hv 0
    have fr := free_blk hr 0
    have cv := cell_blk hv 0
    have cr := cell_blk hr 0
    have HV := Lib.hid hv
    have HR := Lib.hid hr
    have HK := Lib.hid hK
    have HD := Lib.hid hDb
    have HF := Lib.hid hf
    clear hs hv hr hK s0 v0 r0 x0 q0 K0 hDb hf hpre
    go_wp2
    have hDv : ((W.setCell ⟨B + 1, 0, none⟩ (.int .i64 0)).setCell ⟨B + 1 + 1, 0, none⟩ (.bool false)).heap[D]? = some (.deferred (some [])) := blk_set_other (blk_set_other HD.out _ _ (by simp; omega)) _ _ (by simp; omega)
    refine ⟨by simp, .inl ⟨_, _, rfl, run_takeDeferred hDv, ?_⟩⟩
    have b1 := blk_set_other (blk_set_same HV.out 0 (.int .i64 0)) ⟨B + 1 + 1, 0, none⟩ (.bool false) (by simp)
    have b2 := blk_set_same (blk_set_other HR.out ⟨B + 1, 0, none⟩ (.int .i64 0) (by simp)) 0 (.bool false)
    have hcv : _ = some (Value.int .i64 0) := cell_blk (blk_put_other b1 (.deferred none) (show B + 1 ≠ D by omega)) 0
    have hcr : _ = some (Value.bool false) := cell_blk (blk_put_other b2 (.deferred none) (show B + 1 + 1 ≠ D by omega)) 0
    refine ⟨.tuple #[.int .i64 0, .bool false], ?_, by rw [HF.out], ?_⟩
    · simp [results, Try.results28, go_sem, hcv, hcr]
    · have := HB.out
      exact keeps_put ((HK.out.setCell _ 0 _ (.inr (by omega))).setCell _ 0 _ (.inr (by omega))) _ (by omega)
end Go.Proofs.Ytoecfimmgiajpaa
