/- Drain of a heap, and its iterator. -/
import Derived.Test.YtlcbcagbiiachaaRange
namespace Go.Proofs.Ytlcbcagbiiachaa
open Go.RowKit Go.Shelf
attribute [local go_sem] Oper.semAt_some

/-- These blocks hold what they held. -/
def Same (G : List Nat) (W W' : World) : Prop := ∀ k ∈ G, W'.heap[k]? = W.heap[k]?
theorem same_t {G : List Nat} {A B C : World} (h : Same G A B) (k : Same G B C) : Same G A C := fun i hi => (k i hi).trans (h i hi)
theorem same_put {G : List Nat} {w : World} (hG : ∀ k ∈ G, k < w.heap.size) (W : World) (l : Nat) (o' : Obj) (hl : w.heap.size ≤ l) : Same G W (W.putObj l o') := by
  intro k hk
  exact World.putObj_heap_other (by have := hG k hk; omega)
theorem Keeps.same {F G : List Nat} {a b : World} (h : Keeps F a b) (hG : ∀ k ∈ G, k < a.heap.size ∧ k ∉ F) : Same G a b := fun k hk => h.block k (hG k hk).1 (hG k hk).2
theorem IsHeap.same {α : Type} [Inhabited α] {key : α → Int} {ei : α × Nat → List Value} {sz less T E : Nat} {w w' : World} {b : Nat} {F : List Nat} {came : Nat} {S : List (α × Nat)}
    (h : IsHeap key ei sz less T E w b F came S) (k : Same F w w') : IsHeap key ei sz less T E w' b F came S := by
  obtain ⟨h1, h2, h3⟩ := h
  refine ⟨h1, h2, ?_⟩
  rcases h3 with ⟨h3, rfl, h5⟩ | ⟨g, cap, L, rfl, h4, h5, h6, h7⟩
  · exact .inl ⟨h3, rfl, (k b (by simp)).trans h5⟩
  · obtain ⟨cur, hg, hcs, ht⟩ := h7.hg
    exact .inr ⟨g, cap, L, rfl, h4, h5, h6, ⟨(k b (by simp)).trans h7.hb, ⟨cur, (k g (by simp)).trans hg, hcs, ht⟩, h7.hbg, h7.hcap⟩⟩
/-- A heap's blocks are cells: what turns no cells lets it be. -/
theorem IsHeap.cells {α : Type} [Inhabited α] {key : α → Int} {ei : α × Nat → List Value} {sz less T E : Nat} {w : World} {b : Nat} {F : List Nat} {came : Nat} {S : List (α × Nat)}
    (h : IsHeap key ei sz less T E w b F came S) : ∀ k ∈ F, ∃ cs t fr, w.heap[k]? = some (.cells cs t fr) := by
  obtain ⟨h1, h2, h3⟩ := h
  rcases h3 with ⟨h3, rfl, h5⟩ | ⟨g, cap, L, rfl, h4, h5, h6, h7⟩
  · intro k hk; simp at hk; subst hk; exact ⟨_, _, _, h5⟩
  · obtain ⟨cur, hg, hcs, ht⟩ := h7.hg
    intro k hk; simp at hk; rcases hk with rfl | rfl
    · exact ⟨_, _, _, h7.hb⟩
    · exact ⟨_, _, _, hg⟩
theorem cells_survive {W W' : World} {row : Option Nat} (hg : W.grownBy W' row) {B : Nat} (hr : ∀ r, row = some r → B ≤ r ∧ ∃ o : Obj, W.heap[r]? = some o ∧ o.isCells = false) {k : Nat} {cs : Array Value} {T : TypeId} {fr : Nat × Nat}
    (h : W.heap[k]? = some (.cells cs T fr)) : W'.heap[k]? = some (.cells cs T fr) :=
  blk_grown hg h (fun e => by
    obtain ⟨_, o, ho, hc⟩ := hr k e
    rw [h] at ho; cases ho; cases hc)
theorem keeps_survive {W W' w : World} {row : Option Nat} (hg : W.grownBy W' row) {B : Nat} (hr : ∀ r, row = some r → B ≤ r ∧ ∃ o : Obj, W.heap[r]? = some o ∧ o.isCells = false) {F : List Nat} (hB : w.heap.size ≤ B)
    (h : Keeps F w W) : Keeps F w W' := h.grown hg (fun k e => .inr (Nat.le_trans hB (hr k e).1))
theorem heap_survive {α : Type} [Inhabited α] {key : α → Int} {ei : α × Nat → List Value} {sz less T E : Nat} {W W' : World} {b : Nat} {F : List Nat} {came : Nat} {S : List (α × Nat)} {row : Option Nat} (hg : W.grownBy W' row) {B : Nat}
    (hr : ∀ r, row = some r → B ≤ r ∧ ∃ o : Obj, W.heap[r]? = some o ∧ o.isCells = false) (h : IsHeap key ei sz less T E W b F came S) : IsHeap key ei sz less T E W' b F came S :=
  h.same (fun k hk => by obtain ⟨cs, t, fr, e⟩ := h.cells k hk; rw [e]; exact cells_survive hg hr e)
theorem keeps_put {F : List Nat} {w W : World} (h : Keeps F w W) {D : Nat} (o : Obj) (hD : w.heap.size ≤ D) : Keeps F w (W.putObj D o) :=
  h.grown (grownBy_putObj' W D o) (fun k e => by cases e; exact .inr hD)
theorem others_keeps {F : List Nat} {W W' : World} (h : Keeps F W W') (hF : ∀ k ∈ F, ∃ cs T fr, W.heap[k]? = some (.cells cs T fr)) : KeepsOthers W W' :=
  ⟨h.size, fun k o hk hc => h.blk hk (fun hf => by
    obtain ⟨cs, T, fr, e⟩ := hF k hf
    rw [hk] at e; cases e; cases hc)⟩
theorem blk_put_other {w : World} {b : Nat} {o : Obj} (h : w.heap[b]? = some o) {D : Nat} (o' : Obj) (hne : b ≠ D) : (w.putObj D o').heap[b]? = some o :=
  (World.putObj_heap_other hne).trans h

/-- How long the slice of a heap is. -/
def sliceLen (w : World) (b : Nat) : Nat := match w.cell? ⟨b, 1, none⟩ with | some (.slice _ n _) => n | _ => 0
theorem IsHeap.sliceLen {α : Type} [Inhabited α] {key : α → Int} {ei : α × Nat → List Value} {sz less T E : Nat} {w : World} {b : Nat} {F : List Nat} {came : Nat} {S : List (α × Nat)} (h : IsHeap key ei sz less T E w b F came S) : Ytlcbcagbiiachaa.sliceLen w b = S.length := by
  obtain ⟨a, cap, h1⟩ := h.slice
  simp [Ytlcbcagbiiachaa.sliceLen, h1]

theorem drainI (w : World) (p : Option Addr) : Calls Try.prog 17 #[.pointer p] w fun e w' => e = .returned (.func (.func 37) #[] #[.pointer (some ⟨w.heap.size, 0, none⟩)]) ∧ w' = w.alloc (.cells #[.pointer p] 25) := by
  go_enter Try.func17, Try.ntmps17
  go_wp2
  go_ret
  exact ⟨rfl, rfl⟩

theorem drainI_over (n : Nat) (hn : 1 ≤ n) (Bx b : Nat) (F : List Nat) (came : Nat) (S : List (Int × Nat)) (w : World) (hq : HI w b F came S) (hsz : S.length < 1000000) (hBF : Bx ∉ F) (hx : w.heap[Bx]? = some (.cells #[.pointer (some ⟨b, 0, none⟩)] 25 (0, 0))) :
    SeqOver n Try.prog 37 #[.pointer (some ⟨Bx, 0, none⟩)] (fun x : Int => #[.int .i64 x]) (Keeps F) (Same (Bx :: F)) (fun pre W => ∃ k, k < S.length ∧ pre = (S.map Prod.fst).take (k + 1) ∧ HI W b F came (S.drop (k + 1))) (fun xs W => xs = S.map Prod.fst ∧ HI W b F came []) S.length w := by
  intro lp J Jx W hW hJ hY h0
  have hF := hq.lt
  have hBx := blk_lt hx
  have sW : Same (Bx :: F) w W := fun k hk => hW.block k (by simp at hk; rcases hk with hk | hk; (· rw [hk]; exact hBx); (· exact hF k hk))
  have hqW : HI W b F came S := hq.same (fun k hk => sW k (by simp [hk]))
  have hxW : W.heap[Bx]? = some (.cells #[.pointer (some ⟨b, 0, none⟩)] 25 (0, 0)) := (sW Bx (by simp)).trans hx
  have HX := Lib.hid hxW
  have HQ := Lib.hid hqW
  have H0 := Lib.hid h0
  have HJ := Lib.hid hJ
  have HY := Lib.hid hY
  have HS := Lib.hid hsz
  clear hxW hqW hq hx hJ hW sW hF h0 hY hBx hsz
  refine callsIn_of_wp Try.func37 rfl trivial ?_ rfl
  simp only [Try.ntmps37, List.size_toArray, List.length_cons, List.length_nil, Nat.reduceAdd, Nat.reduceSub, Array.replicate_succ, Array.replicate_zero, List.push_toArray, List.append_toArray, List.nil_append, List.cons_append]
  gi_wp2_with fail
  gi_loopw [3] (fun _ wr => ∃ k : Nat, k ≤ S.length ∧ J ((S.map Prod.fst).take k) wr ∧ HI wr b F came (S.drop k) ∧ wr.heap[Bx]? = some (.cells #[.pointer (some ⟨b, 0, none⟩)] 25 (0, 0))) (fun _ wr => sliceLen wr b)
  case atStart => exact ⟨0, Nat.zero_le _, by simpa using H0.out, by simpa using HQ.out, HX.out⟩
  case round =>
    obtain ⟨k, hk, hJs, hq, hx⟩ := hrel
    have cx := cell_blk hx 0
    have HJs := Lib.hid hJs
    have HQR := Lib.hid hq
    have HXR := Lib.hid hx
    clear hJs hq hx
    gi_wp2_with fail
    refine ⟨trivial, ?_⟩
    refine (callsIn_wide.2 (lenI b F came _ _ HQR.out)).mono ?_
    rintro e w' ⟨rfl, rfl⟩
    by_cases hlt : k < S.length
    · obtain ⟨s, hs⟩ : ∃ s, S[k]? = some s := ⟨S[k], by simp [hlt]⟩
      have hd : S.drop k = s :: S.drop (k + 1) := by
        rw [List.drop_eq_getElem_cons hlt]
        congr 1
        rw [List.getElem?_eq_getElem hlt] at hs
        exact Option.some.inj hs
      have hgt : decide ((0 : Nat) < (S.drop k).length) = true := by simp; omega
      have HSK := Lib.hid hs
      have HD := Lib.hid hd
      have hq2 := HQR.out
      rw [hd] at hq2
      have HQ2 := Lib.hid hq2
      have hlen2 : (S.drop (k + 1)).length < 1000000 := by simp; have := HS.out; omega
      have HL2 := Lib.hid hlen2
      clear hs hd hq2 hlen2
      gi_wp2_with fail
      refine ⟨trivial, ?_⟩
      refine (callsIn_wide.2 (popI_some b F came s (S.drop (k + 1)) _ HQ2.out HL2.out)).mono ?_
      rintro e w2 ⟨rfl, hq3, K3⟩
      have HQ3 := Lib.hid hq3
      have hx3 := K3.blk HXR.out hBF
      have hJ3 := HJ.out _ _ _ HJs.out K3
      have HX3 := Lib.hid hx3
      have hpre : (S.map Prod.fst).take k ++ [s.1] = (S.map Prod.fst).take (k + 1) := by
        rw [List.take_add_one, List.getElem?_map, HSK.out]; rfl
      have HPRE := Lib.hid hpre
      have hy := HY.out _ s.1 w2 hJ3 (by simp; omega) ⟨k, hlt, HPRE.out, HQ3.out⟩
      obtain ⟨fn, tmps, assign, body, hy, hR⟩ := hy
      clear hJ3 hq3 hx3 K3 hpre cx
      gi_wp2
      refine hR.mono ?_
      rintro e W3 (⟨rfl, hJ3, hk3⟩ | ⟨rfl, hJx3⟩)
      · have HJ3 := Lib.hid hJ3
        have HK3 := Lib.hid hk3
        clear hJ3 hy hk3
        gi_wp2
        go_roundw
        case rel => exact ⟨k + 1, by omega, by rw [← HPRE.out]; exact HJ3.out, HQ3.out.same (fun i hi => HK3.out i (by simp [hi])), (HK3.out Bx (by simp)).trans HX3.out⟩
        case measure =>
          rw [(HQ3.out.same (fun i hi => HK3.out i (by simp [hi]))).sliceLen, HQR.out.sliceLen]
          simp; omega
      · gi_wp2
        refine bodyPost_ret (results_none rfl _ _ _) rfl ?_
        exact ⟨⟨_, rfl⟩, .inr ⟨_, hJx3⟩⟩
    · obtain rfl : k = S.length := by omega
      have hgt : decide ((0 : Nat) < (S.drop S.length).length) = false := by simp
      gi_wp2
      go_end0
      exact ⟨⟨_, rfl⟩, .inl ⟨_, ⟨rfl, by simpa using HQR.out⟩, by have h9 := HJs.out; rwa [List.take_of_length_le (by simp)] at h9⟩⟩

end Go.Proofs.Ytlcbcagbiiachaa
