/- Each: all that is in it, in order, told to see. -/
import Derived.Test.YtlcbcagbiiachaaClone
import Derived.Test.YtlcbcagbiiachaaPushT
import Derived.Test.YtlcbcagbiiachaaRefheap
import Derived.Test.YtlcbcagbiiachaaAwake
import Derived.Test.YtlcbcagbiiachaaRange2
import Derived.ArgAppend
namespace Go.Proofs.Ytlcbcagbiiachaa
open Go.RowKit Go.Shelf
attribute [local go_sem] Oper.semAt_some

theorem Seen.kept {w w' : World} {s : Nat} {G F : List Nat} {l : List (Int × Int)} (h : Seen w s G l) (k : Keeps F w w') (hs : s ∉ F) (hG : ∀ g ∈ G, g ∉ F) : Seen w' s G l := by
  obtain ⟨v, h1, h2, h3⟩ := h
  refine ⟨v, k.blk h1 hs, ownsRow_same h2 (fun g hg => ?_), h3⟩
  rcases h2.2 with ⟨rfl, _⟩ | ⟨g', cap, cur, rfl, _, h4, _⟩
  · cases hg
  · have e : g' = g := by simpa [Value.ownBlock] using hg
    subst e
    exact k.block g' (blk_lt h4) (hG g' (h3.1 g' hg).1)
theorem wp_norm {P : Program} {c : Code} {K : Act → World → Prop} {Q : Exit → Act → World → Prop} {a : Act} {w : World} (h : c.wp P (Exit.then K (fun _ _ _ => False)) a w) : c.wp P (Exit.then K Q) a w :=
  Go.wp_mono h (fun e a w h => by cases e <;> first | exact h | exact h.elim)
theorem Seen.survive {W W' : World} {row : Option Nat} (hg : W.grownBy W' row) {B s : Nat} {G : List Nat} {l : List (Int × Int)} (hr : ∀ r, row = some r → B ≤ r ∧ ∃ o : Obj, W.heap[r]? = some o ∧ o.isCells = false) (h : Seen W s G l) : Seen W' s G l := by
  obtain ⟨v, h1, h2, h3⟩ := h
  refine ⟨v, cells_survive hg hr h1, ownsRow_same h2 (fun g hg' => ?_), h3⟩
  rcases h2.2 with ⟨rfl, _⟩ | ⟨g', cap, cur, rfl, _, h4, _⟩
  · cases hg'
  · have e : g' = g := by simpa [Value.ownBlock] using hg'
    subst e
    rw [h4]
    exact cells_survive hg hr h4
theorem Seen.put {W : World} {s : Nat} {G : List Nat} {l : List (Int × Int)} {D : Nat} {o o' : Obj} (h : Seen W s G l) (hD : W.heap[D]? = some o) (ho : o.isCells = false) : Seen (W.putObj D o') s G l := h.same (fun g hg => World.putObj_heap_other (by
  intro e
  subst e
  obtain ⟨cs, T, fr, hc⟩ := h.cells g (by simpa using hg)
  rw [hD] at hc
  cases hc
  cases ho))
/-- What follows Each's clone: its range. -/
def EachPost (w : World) (s : Nat) (l : List (Int × Int)) (e : Ending) (w' : World) : Prop := e = .returned (.tuple #[]) ∧ ∃ G : List Nat, Seen w' s G l ∧ Keeps [s] w w'

set_option maxHeartbeats 1000000 in
theorem each_any (b s : Nat) (F : List Nat) (came : Nat) (S : List ((Int × Int) × Nat)) (w : World) (h : HT w b F came S) (hs : Seen w s [] []) (hsF : s ∉ F) (hn : S.length < 1000) :
    Calls Try.prog 31 #[.pointer (some ⟨b, 0, none⟩), .func (.func 32) #[.pointer (some ⟨s, 0, none⟩)] #[]] w (EachPost w s (S.map Prod.fst)) := by
  obtain ⟨v, hs1, -, -, -⟩ := id hs
  have hsl := blk_lt hs1
  obtain ⟨i0, hi, hz0, hz1, hz2⟩ := info_parts infoET
  refine (callsIn_wide (n := 9)).1 ?_
  refine callsIn_of_wp_marks Try.func31 rfl trivial ?_ rfl
  simp only [Try.ntmps31, List.size_toArray, List.length_cons, List.length_nil, Nat.reduceAdd, Nat.reduceSub, Array.replicate_succ, Array.replicate_zero, List.push_toArray, List.append_toArray, List.nil_append, List.cons_append]
  refine wpIn_wide.2 ?_
  go_wp2_with fail
  have K0 : Keeps [] w (w.alloc (.cells #[.func (.func 32) #[.pointer (some ⟨s, 0, none⟩)] #[]] 48)) := (Keeps.refl _ _).alloc _
  have hfb := blk_new w (.cells #[.func (.func 32) #[.pointer (some ⟨s, 0, none⟩)] #[]] 48)
  have HS := Lib.hid (hs.kept K0 (by simp) (by simp))
  have H := Lib.hid (h.kept K0 (by simp))
  obtain ⟨n, hnw⟩ : ∃ n, n = w.heap.size := ⟨_, rfl⟩
  rw [← hnw] at hfb ⊢
  have HNW := Lib.hid hnw
  have hnF : n ∉ F := fun hf => by have := h.lt n hf; omega
  clear hs h hs1 hnw v
  generalize w.alloc (.cells #[.func (.func 32) #[.pointer (some ⟨s, 0, none⟩)] #[]] 48) = w0 at K0 hfb HS H ⊢
  refine wp_norm ?_
  obtain ⟨v, L, hp, hh, hb, hown, hv⟩ := H.out.owns eiT_len
  have hlen : L.length = S.length := hp.length_eq
  have HLEN := Lib.hid hlen
  have hll : L.length < 1000 := by omega
  clear hlen
  have hord := H.out.1
  have HORD := Lib.hid hord
  have HP := Lib.hid hp
  have HH := Lib.hid hh
  have HFB := Lib.hid hfb
  have m0 := cell_blk hb 0
  have m1 := cell_blk hb 1
  have hbl := blk_lt hb
  have n0 := World.new_ne w0 _ m0
  have HBB := Lib.hid hb
  clear hp hh hfb hord hb hv
  rcases Nat.eq_zero_or_pos L.length with hl0 | hl0
  · have hL : L = [] := List.eq_nil_of_length_eq_zero hl0
    have hS : S = [] := List.eq_nil_of_length_eq_zero (by have := HLEN.out; omega)
    subst hL hS
    obtain ⟨vo, vc, rfl⟩ : ∃ vo vc, v = .slice vo 0 vc := by
      rcases hown.2 with ⟨rfl, _⟩ | ⟨g', cap, cur, rfl, _⟩
      · exact ⟨_, _, rfl⟩
      · exact ⟨_, _, rfl⟩
    have HOWN := Lib.hid hown
    clear hown
    go_region_law
      ((refine step_append_zero _ (by rfl) (.const (.slice none 0 0)) (.tmp 15) 78 (by rfl) 82 i0 Try.underlying78 hi none _ 0 0 _ (by rfl) (by rfl) (Nat.le_refl _) (fun _ => rfl) ?_))
    all_goals
      go_wp2_with fail
      have hwm : w0.drew.heap.size = w0.heap.size := rfl
      obtain ⟨cb, FC, W4, hcb, hW4, HC4, K04, HFC⟩ : ∃ cb FC W4, cb = w0.heap.size ∧ W4 = (w0.alloc (.cells #[.func (.func 21) #[] #[], .slice none 0 0, .int .u64 0] 80)).drew ∧ Hid (HC W4 cb FC (.int .u64 0) []) ∧ Keeps [] w0 W4 ∧ Hid (∀ k ∈ FC, w0.heap.size ≤ k) :=
        ⟨w0.heap.size, [w0.heap.size], _, rfl, rfl, Lib.hid ⟨List.Pairwise.nil, .inl ⟨rfl, rfl, blk_new w0 _⟩⟩, ((Keeps.refl [] w0).alloc _).drew, Lib.hid (by simp)⟩
      rw [← hcb]
      first | rw [← hW4] | (have hW5 : W4 = (w0.drew.alloc (.cells #[.func (.func 21) #[] #[], .slice none 0 0, .int .u64 0] 80)) := hW4; rw [← hW5]; clear hW5)
      clear hW4 hwm
      clear hcb
      have K4 : Keeps [] w W4 := K0.trans K04
      refine (drainT _ _).mono ?_
      rintro e w5 ⟨rfl, rfl⟩
      go_wp2_with fail
      have hq6 := HC4.out.kept ((Keeps.refl [] W4).alloc (.cells #[.pointer (some ⟨cb, 0, none⟩)] 42)) (by simp)
      have K6 := K4.alloc (.cells #[.pointer (some ⟨cb, 0, none⟩)] 42)
      have x6 := blk_new W4 (.cells #[.pointer (some ⟨cb, 0, none⟩)] 42)
      have K46 : Keeps [] w0 (W4.alloc (.cells #[.pointer (some ⟨cb, 0, none⟩)] 42)) := K04.alloc _
      have hlt4 := HC4.out.lt
      have fb6 := K46.blk HFB.out (by simp)
      have hs6 := HS.out.kept K46 (by simp) (by simp)
      have hsz6 : (W4.alloc (.cells #[.pointer (some ⟨cb, 0, none⟩)] 42)).heap.size = W4.heap.size + 1 := by simp
      have hsz0 := K0.size
      have hsz4 := K04.size
      obtain ⟨Bx, hBx⟩ : ∃ Bx, Bx = W4.heap.size := ⟨_, rfl⟩
      rw [← hBx] at x6 hsz6 hlt4 hsz4 ⊢
      generalize (W4.alloc (.cells #[.pointer (some ⟨cb, 0, none⟩)] 42)) = w6 at hq6 K6 x6 K46 fb6 hs6 hsz6 ⊢
      have hnl : n < w6.heap.size := blk_lt fb6
      have hn0 : n < w0.heap.size := blk_lt HFB.out
      clear HC4 K4 K04 hBx
      clear W4
      have hBF : Bx ∉ FC := fun hf => by have := hlt4 _ hf; omega
      have hsC : s ∉ FC := fun hf => by have := HFC.out s hf; omega
      have hnC : n ∉ FC := fun hf => by have := HFC.out n hf; omega
      refine wp_over2 (gf := 46) rfl (enters_of Try.func46 (by kernel_rfl) rfl) (drainC_over 8 (by decide) Bx cb FC _ [] w6 hq6 (by omega) hBF x6) (fun _ => rfl)
        same_t (fun W l o hl => same_put (w := w6) (by intro k hk; simp at hk; rcases hk with rfl | hk; (· omega); (· have := hlt4 k hk; omega)) W l o hl)
        (fun A B k o hR hk ho _ => hR.blk ho (fun h => by have := hlt4 k h; omega))
        (fun s A B row hs hg hr => by obtain ⟨k, h1, h2, h3⟩ := hs; exact ⟨k, h1, h2, hc_survive hg hr h3⟩)
        (fun s A B row hs hg hr => ⟨hs.1, hc_survive hg hr hs.2⟩)
        (fun pre W => Keeps [s] w W ∧ W.heap[n]? = some (.cells #[.func (.func 32) #[.pointer (some ⟨s, 0, none⟩)] #[]] 48 (0, 0)) ∧ ∃ G, Seen W s G pre ∧ ∀ k ∈ G, w6.heap.size ≤ k) (fun _ _ _ => False)
        (fun l A B row hs hg hr => ⟨keeps_survive hg hr (by omega) hs.1, cells_survive hg hr hs.2.1, by obtain ⟨G, q1, q2⟩ := hs.2.2; exact ⟨G, Seen.survive hg hr q1, q2⟩⟩)
        (fun l A B hs hR => ⟨hs.1.andThen hR (fun g hg => .inr (by have := HFC.out g hg; omega)), hR.blk hs.2.1 hnC, by obtain ⟨G, q1, q2⟩ := hs.2.2; exact ⟨G, q1.kept hR hsC (fun g hg hf => by have := q2 g hg; have := hlt4 g hf; omega), q2⟩⟩)
        (fun _ _ _ _ _ hs _ _ => hs)
        ⟨K6.mono (by simp), fb6, [], hs6, by simp⟩ ?_ (fun x : Int × Int => .cells #[.int .i64 x.1, .int .i64 x.2] 45 (0, 0))
        (fun W o hl k hk => Below.heap_alloc _ _ _ (by simp at hk; rcases hk with rfl | hk; (· omega); (· have := hlt4 k hk; omega))) ?_ ?_ ?_ ?_
      rotate_left
      · intro l x p W K hp hK
        gi_wp2
        rw [← hp]
        exact hK
      · rintro l pre x p W ⟨hK, hnb, G, hsn, hG⟩ hlen ⟨k, hk, hpre, hq⟩ hpl hpb
        exact absurd hlen (by simp)
      · rintro D ys W hD ⟨rfl, hq⟩ ⟨hK, hnb, G, hsn, hG⟩ hDb
        have HD := Lib.hid hDb
        clear hDb
        go_wp2
        refine ⟨by simp, .inl ⟨_, _, rfl, run_takeDeferred HD.out, ?_⟩⟩
        refine ⟨.tuple #[], ?_, rfl, ?_⟩
        · simp [results, Try.results31, go_sem]
        · exact ⟨G, hsn.put HD.out rfl, keeps_put hK _ (by have := K6.size; omega)⟩
      · rintro D c pre W _ h
        exact h.elim
  · obtain ⟨g, cap, rfl, -, hgl⟩ := hown.form hl0
    have hnews := own_cells hown
    have hfl : (flat eiT L).length = L.length * 3 := length_flat eiT_len L
    have h1c : ∀ u ∈ flat eiT L, u.oneCell' = true := by
      intro u hu
      simp [flat, eiT] at hu
      obtain ⟨_, _, _, _, h⟩ := hu
      rcases h with rfl | rfl | rfl <;> rfl
    have HNEWS := Lib.hid hnews
    have HOWN := Lib.hid hown
    clear hnews hown
    go_region_law
      ((refine step_append_grows (by rfl) (.const (.slice none 0 0)) (.tmp 15) 78 (by rfl) 82 i0 _ 3 24 Try.underlying78 hi hz0 hz1 hz2 (by rfl) (by decide) none 0 0 [] (by rfl) (fun _ => ⟨rfl, rfl⟩) (by rfl) (fun _ h => by cases h) ⟨g, 0, none⟩ L.length cap (flat eiT L) (by rfl) hfl (by exact HNEWS.out) h1c (by omega) (by unfold maxLen; omega) (by omega) ?_; intro v3 w3 hown3 hgrow3; obtain ⟨g3, cap3, rfl, hg3, hg3l⟩ := hown3.form (by omega); simp at hg3; rw [Nat.zero_add, List.nil_append] at hown3; have hb3 := blk_grown hgrow3 (blk_drew HBB.out) (by simp); have m2 := cell_blk hb3 0; have m3 := cell_blk hb3 1))
    all_goals
      go_wp2_with fail
      have hgs := hgrow3.size
      simp at hgs
      obtain ⟨cb, FC, W4, hcb, hW4, HC4, K04, HFC⟩ : ∃ cb FC W4, cb = w3.heap.size ∧ W4 = (w3.alloc (.cells #[.func (.func 21) #[] #[], .slice (some ⟨g3, 0, none⟩) L.length cap3, .int .u64 0] 80)) ∧ Hid (HC W4 cb FC (.int .u64 0) S) ∧ Keeps [] w0 W4 ∧ Hid (∀ k ∈ FC, w0.heap.size ≤ k) := by
        obtain ⟨cur, q1, q2, q3, q4, q5⟩ := owns_row hown3
        refine ⟨w3.heap.size, [w3.heap.size, g3], _, rfl, rfl, Lib.hid ⟨HORD.out, .inr ⟨g3, cap3, L, rfl, q4, HP.out, HH.out, ⟨blk_new w3 _, ⟨cur, blk_alloc q1 _, q2, q5⟩, by have := blk_lt q1; omega, q3⟩⟩⟩, (((Keeps.refl [] w0).drew.grown hgrow3 (fun k e => by cases e)).alloc _), Lib.hid ?_⟩
        intro k hk
        simp at hk
        rcases hk with rfl | rfl <;> omega
      rw [← hcb]
      first | rw [← hW4] | skip
      clear hW4 hcb
      have K4 : Keeps [] w W4 := K0.trans K04
      refine (drainT _ _).mono ?_
      rintro e w5 ⟨rfl, rfl⟩
      go_wp2_with fail
      have hq6 := HC4.out.kept ((Keeps.refl [] W4).alloc (.cells #[.pointer (some ⟨cb, 0, none⟩)] 42)) (by simp)
      have K6 := K4.alloc (.cells #[.pointer (some ⟨cb, 0, none⟩)] 42)
      have x6 := blk_new W4 (.cells #[.pointer (some ⟨cb, 0, none⟩)] 42)
      have K46 : Keeps [] w0 (W4.alloc (.cells #[.pointer (some ⟨cb, 0, none⟩)] 42)) := K04.alloc _
      have hlt4 := HC4.out.lt
      have fb6 := K46.blk HFB.out (by simp)
      have hs6 := HS.out.kept K46 (by simp) (by simp)
      have hsz6 : (W4.alloc (.cells #[.pointer (some ⟨cb, 0, none⟩)] 42)).heap.size = W4.heap.size + 1 := by simp
      have hsz0 := K0.size
      have hsz4 := K04.size
      obtain ⟨Bx, hBx⟩ : ∃ Bx, Bx = W4.heap.size := ⟨_, rfl⟩
      rw [← hBx] at x6 hsz6 hlt4 hsz4 ⊢
      generalize (W4.alloc (.cells #[.pointer (some ⟨cb, 0, none⟩)] 42)) = w6 at hq6 K6 x6 K46 fb6 hs6 hsz6 ⊢
      have hnl : n < w6.heap.size := blk_lt fb6
      have hn0 : n < w0.heap.size := blk_lt HFB.out
      clear HC4 K4 K04 hBx
      clear W4
      have hBF : Bx ∉ FC := fun hf => by have := hlt4 _ hf; omega
      have hsC : s ∉ FC := fun hf => by have := HFC.out s hf; omega
      have hnC : n ∉ FC := fun hf => by have := HFC.out n hf; omega
      refine wp_over2 (gf := 46) rfl (enters_of Try.func46 (by kernel_rfl) rfl) (drainC_over 8 (by decide) Bx cb FC _ S w6 hq6 (by omega) hBF x6) (fun _ => rfl)
        same_t (fun W l o hl => same_put (w := w6) (by intro k hk; simp at hk; rcases hk with rfl | hk; (· omega); (· have := hlt4 k hk; omega)) W l o hl)
        (fun A B k o hR hk ho _ => hR.blk ho (fun h => by have := hlt4 k h; omega))
        (fun s A B row hs hg hr => by obtain ⟨k, h1, h2, h3⟩ := hs; exact ⟨k, h1, h2, hc_survive hg hr h3⟩)
        (fun s A B row hs hg hr => ⟨hs.1, hc_survive hg hr hs.2⟩)
        (fun pre W => Keeps [s] w W ∧ W.heap[n]? = some (.cells #[.func (.func 32) #[.pointer (some ⟨s, 0, none⟩)] #[]] 48 (0, 0)) ∧ ∃ G, Seen W s G pre ∧ ∀ k ∈ G, w6.heap.size ≤ k) (fun _ _ _ => False)
        (fun l A B row hs hg hr => ⟨keeps_survive hg hr (by omega) hs.1, cells_survive hg hr hs.2.1, by obtain ⟨G, q1, q2⟩ := hs.2.2; exact ⟨G, Seen.survive hg hr q1, q2⟩⟩)
        (fun l A B hs hR => ⟨hs.1.andThen hR (fun g hg => .inr (by have := HFC.out g hg; omega)), hR.blk hs.2.1 hnC, by obtain ⟨G, q1, q2⟩ := hs.2.2; exact ⟨G, q1.kept hR hsC (fun g hg hf => by have := q2 g hg; have := hlt4 g hf; omega), q2⟩⟩)
        (fun _ _ _ _ _ hs _ _ => hs)
        ⟨K6.mono (by simp), fb6, [], hs6, by simp⟩ ?_ (fun x : Int × Int => .cells #[.int .i64 x.1, .int .i64 x.2] 45 (0, 0))
        (fun W o hl k hk => Below.heap_alloc _ _ _ (by simp at hk; rcases hk with rfl | hk; (· omega); (· have := hlt4 k hk; omega))) ?_ ?_ ?_ ?_
      rotate_left
      · intro l x p W K hp hK
        gi_wp2
        rw [← hp]
        exact hK
      · rintro l pre x p W ⟨hK, hnb, G, hsn, hG⟩ hlen ⟨k, hk, hpre, hq⟩ hpl hpb
        have c := cell_blk hnb 0
        have d0 := cell_blk hpb 0
        have d1 := cell_blk hpb 1
        have hWl := blk_lt hpb
        have hWL := Lib.hid (show w6.heap.size ≤ W.heap.size by omega)
        clear hWl
        have HNB := Lib.hid hnb
        have HSN := Lib.hid hsn
        have HK := Lib.hid hK
        have HG := Lib.hid hG
        clear hnb hsn hK hG hpb hpre hq hk
        gi_wp2_with fail
        refine ⟨trivial, ?_⟩
        refine (callsIn_wide.2 (see_any s G pre x _ HSN.out (by have := HLEN.out; omega))).mono ?_
        rintro e w2 ⟨rfl, G', hs2, K2, hG2⟩
        have HS2 := Lib.hid hs2
        have HK2 := Lib.hid K2
        have HG2 := Lib.hid hG2
        clear hs2 K2 hG2
        gi_wp2
        have hK := HK.out
        have hnw := HNW.out
        have hsz := hK.size
        have hns : n ≠ s := by omega
        have hnG : n ∉ G := fun h => by have := HG.out n h; omega
        refine ⟨(others_keeps HK2.out HSN.out.cells).from _, HK2.out.same ?_, hK.andThen HK2.out ?_, HK2.out.blk HNB.out (by simp; exact ⟨hns, hnG⟩), G', HS2.out, ?_⟩
        · intro q hq
          have hl1 := hWL.out
          rcases List.mem_cons.1 hq with rfl | hq
          · refine ⟨by omega, fun hf => ?_⟩
            rcases List.mem_cons.1 hf with rfl | hf
            · omega
            · have := HG.out _ hf; omega
          · have hq2 := hlt4 q hq
            refine ⟨by omega, fun hf => ?_⟩
            rcases List.mem_cons.1 hf with rfl | hf
            · exact hsC hq
            · have := HG.out _ hf; omega
        · intro q hq
          rcases List.mem_cons.1 hq with rfl | hq
          · exact .inl (by simp)
          · have := HG.out q hq; exact .inr (by have := K6.size; omega)
        · intro q hq
          rcases HG2.out q hq with h | h
          · exact HG.out q h
          · have := hWL.out; omega
      · rintro D ys W hD ⟨rfl, hq⟩ ⟨hK, hnb, G, hsn, hG⟩ hDb
        have HD := Lib.hid hDb
        clear hDb
        go_wp2
        refine ⟨by simp, .inl ⟨_, _, rfl, run_takeDeferred HD.out, ?_⟩⟩
        refine ⟨.tuple #[], ?_, rfl, ?_⟩
        · simp [results, Try.results31, go_sem]
        · exact ⟨G, hsn.put HD.out rfl, keeps_put hK _ (by have := K6.size; omega)⟩
      · rintro D c pre W _ h
        exact h.elim
end Go.Proofs.Ytlcbcagbiiachaa
