/- Ranges over a function: what a round keeps; All of a queue of numbers, as an iterator. -/
import Derived.RangeFuncBox
import Derived.RangeFuncLeaves
import Derived.RangeFuncWrites
import Derived.Shelf.Abstract
import Derived.OwnWalkIn
import Derived.TacticsInMore
import Derived.LoopNIn
import Derived.LoopIn
import Derived.Test.YtoecfimmgiajpaaAwake
namespace Go.Proofs.Ytoecfimmgiajpaa
open Go.RowKit Go.Shelf
attribute [local go_sem] Oper.semAt_some

/-- These blocks hold what they held. -/
def Same (G : List Nat) (W W' : World) : Prop := ∀ k ∈ G, W'.heap[k]? = W.heap[k]?
theorem same_t {G : List Nat} {A B C : World} (h : Same G A B) (k : Same G B C) : Same G A C := fun i hi => (k i hi).trans (h i hi)
theorem same_put {G : List Nat} {w : World} (hG : ∀ k ∈ G, k < w.heap.size) (W : World) (l : Nat) (o o' : Obj) (hl : w.heap.size ≤ l) (_ : W.heap[l]? = some o) (_ : o.isCells = false) (_ : o.isWalk = false) : Same G W (W.putObj l o') := by
  intro k hk
  exact World.putObj_heap_other (by have := hG k hk; omega)
theorem Keeps.same {F G : List Nat} {a b : World} (h : Keeps F a b) (hG : ∀ k ∈ G, k < a.heap.size ∧ k ∉ F) : Same G a b := fun k hk => h.block k (hG k hk).1 (hG k hk).2

theorem IsQ.sameBlocks {α : Type} {enc : α → Value} {T E : TypeId} {w w' : World} {b : Nat} {F : List Nat} {size : Nat} {l : List α} (h : IsQ enc T E w b F size l) (k : Same F w w') : IsQ enc T E w' b F size l := by
  rcases h with ⟨rfl, h1, h2, h3⟩ | ⟨r, frm, cs, rfl, h2, h3, h4, h5, h6, h7, h8⟩
  · exact .inl ⟨rfl, h1, h2, (k b (by simp)).trans h3⟩
  · exact .inr ⟨r, frm, cs, rfl, h2, h3, h4, h5, h6, (k b (by simp)).trans h7, (k r (by simp)).trans h8⟩

def pairs {α : Type} (l : List α) : List (Nat × α) := l.mapIdx fun i x => (i, x)
theorem pairs_snoc {α : Type} (l : List α) (x : α) : pairs (l ++ [x]) = pairs l ++ [(l.length, x)] := by simp [pairs]
theorem pairs_take {α : Type} (l : List α) (k : Nat) (x : α) (h : l[k]? = some x) : pairs (l.take (k + 1)) = pairs (l.take k) ++ [(k, x)] := by
  have hk : k < l.length := by
    rcases Nat.lt_or_ge k l.length with h' | h'
    · exact h'
    · rw [List.getElem?_eq_none h'] at h; cases h
  rw [List.take_add_one, h]
  simp only [Option.toList_some, pairs_snoc, List.length_take]
  congr 3
  omega
theorem length_pairs {α : Type} (l : List α) : (pairs l).length = l.length := by simp [pairs]

theorem allI (w : World) (p : Option Addr) : Calls Try.prog 19 #[.pointer p] w fun e w' => e = .returned (.func (.func 27) #[] #[.pointer (some ⟨w.heap.size, 0, none⟩)]) ∧ w' = w.alloc (.cells #[.pointer p] 33) := by
  go_enter Try.func19, Try.ntmps19
  go_wp2
  go_ret
  exact ⟨rfl, rfl⟩

/-- The iterator of a queue, whatever the loop's body is that lets the queue be. -/
theorem allI_stops (n : Nat) (hn : 1 ≤ n) (Bx b : Nat) (F : List Nat) (size : Nat) (l : List Int) (w : World) (hq : QI w b F size l) (hsz : size ≤ 3000000) (hx : w.heap[Bx]? = some (.cells #[.pointer (some ⟨b, 0, none⟩)] 33 (0, 0))) :
    SeqStopsK Fence.wide n Try.prog 27 #[.pointer (some ⟨Bx, 0, none⟩)] (fun x : Nat × Int => #[Value.int .i64 (x.1 : Int), Value.int .i64 x.2]) (Same (Bx :: F)) (fun ys => ys = pairs l)
      (fun pre => ∃ k, k ≤ l.length ∧ pre = pairs (l.take k)) l.length w := by
  intro lp J Jx W hW hJ hJx hY h0
  have hF := hq.lt
  have hBx := blk_lt hx
  have sW : Same (Bx :: F) w W := fun k hk => hW.block k (by simp at hk; rcases hk with hk | hk; (· rw [hk]; exact hBx); (· exact hF k hk))
  have hqW : QI W b F size l := hq.sameBlocks (fun k hk => sW k (by simp [hk]))
  have hxW : W.heap[Bx]? = some (.cells #[.pointer (some ⟨b, 0, none⟩)] 33 (0, 0)) := (sW Bx (by simp)).trans hx
  have cx : W.cell? ⟨Bx, 0, none⟩ = some (.pointer (some ⟨b, 0, none⟩)) := cell_blk hxW 0
  have hle : l.length ≤ size := hq.le
  have HX := Lib.hid hxW
  have HQ := Lib.hid hqW
  have H0 := Lib.hid h0
  have HJ := Lib.hid hJ
  have HY := Lib.hid hY
  clear hxW hqW hq hx hJ hJx hW sW hF h0 hY
  refine callsIn_of_wp Try.func27 rfl trivial ?_ rfl
  simp only [Try.ntmps27, List.size_toArray, List.length_cons, List.length_nil, Nat.reduceAdd, Nat.reduceSub, Array.replicate_succ, Array.replicate_zero, List.push_toArray, List.append_toArray, List.nil_append, List.cons_append]
  gi_wp2_with (refine ⟨trivial, ?_⟩; gi_at_call 16; refine (callsIn_wide.2 (lenI b F size l _ HQ.out)).mono ?_; rintro e w' ⟨rfl, rfl⟩)
  gi_loopw [8] (fun i wr => ∃ k : Nat, k ≤ l.length ∧ i = .int .i64 k ∧ J (pairs (l.take k)) wr ∧ Same (Bx :: F) W wr) (fun i _ => l.length - (intOf i).toNat)
  case atStart => exact ⟨0, Nat.zero_le _, rfl, by simpa [pairs] using H0.out, fun _ _ => rfl⟩
  case round =>
    obtain ⟨k, hk, rfl, hJs, hS⟩ := hrel
    have HJs := Lib.hid hJs
    have HS := Lib.hid hS
    clear hJs hS
    by_cases hlt : k < l.length
    · obtain ⟨x, hxk⟩ : ∃ x, l[k]? = some x := ⟨l[k], by simp [hlt]⟩
      have HXK := Lib.hid hxk
      clear hxk
      have hqr : QI wr b F size l := HQ.out.sameBlocks (fun k hk => HS.out k (by simp [hk]))
      have HQR := Lib.hid hqr
      have cxr : wr.cell? ⟨Bx, 0, none⟩ = some (.pointer (some ⟨b, 0, none⟩)) := cell_blk ((HS.out Bx (by simp)).trans HX.out) 0
      clear hqr
      have hlt' : (k : Int) < (l.length : Int) := by omega
      gi_wp2_with fail
      refine ⟨trivial, ?_⟩
      refine (callsIn_wide.2 (atI_in b F size l k x _ HQR.out hsz HXK.out)).mono ?_
      rintro e w' ⟨rfl, rfl⟩
      have hJd : J (pairs (l.take k)) wr.drew := HJ.out _ wr wr.drew none HJs.out ⟨rfl, rfl, rfl, Nat.le_refl _, fun _ _ _ => rfl⟩ (fun r e => by cases e)
      obtain ⟨fn, tmps, assign, body, hy, hR⟩ := HY.out _ (k, x) wr.drew hJd (by rw [length_pairs]; simp; omega)
      dsimp only at hy
      clear hJd
      gi_wp2
      refine hR.mono ?_
      rintro e W3 (⟨rfl, hJ3, hk3⟩ | ⟨rfl, hJx3⟩)
      · have HJ3 := Lib.hid hJ3
        clear hJ3 hy
        have hS3 : Same (Bx :: F) W W3 := same_t HS.out (fun i hi => (hk3 i hi).trans rfl)
        gi_wp2
        go_roundw
        case rel => exact ⟨k + 1, by omega, by go_num, by rw [pairs_take l k x HXK.out]; exact HJ3.out, hS3⟩
        case measure => simp [intOf]; omega
      · gi_wp2
        refine bodyPost_ret (results_none rfl _ _ _) rfl ?_
        exact ⟨⟨_, rfl⟩, .inr ⟨_, ⟨k + 1, by omega, (pairs_take l k x HXK.out).symm⟩, hJx3⟩⟩
    · obtain rfl : k = l.length := by omega
      gi_wp2
      go_end0
      exact ⟨⟨_, rfl⟩, .inl ⟨_, rfl, by simpa using HJs.out⟩⟩

/-- The iterator of no queue: nothing is told. -/
theorem allI_nil_stops (n : Nat) (hn : 1 ≤ n) (Bx : Nat) (w : World) (hx : w.heap[Bx]? = some (.cells #[.pointer none] 33 (0, 0))) :
    SeqStopsK Fence.wide n Try.prog 27 #[.pointer (some ⟨Bx, 0, none⟩)] (fun x : Nat × Int => #[Value.int .i64 (x.1 : Int), Value.int .i64 x.2]) (Same [Bx]) (fun ys => ys = [])
      (fun _ => False) 0 w := by
  intro lp J Jx W hW hJ hJx hY h0
  have cx : W.cell? ⟨Bx, 0, none⟩ = some (.pointer none) := cell_blk (blk_below hW hx (blk_lt hx)) 0
  have H0 := Lib.hid h0
  clear hJ hJx hY h0 hW hx
  refine callsIn_of_wp Try.func27 rfl trivial ?_ rfl
  simp only [Try.ntmps27, List.size_toArray, List.length_cons, List.length_nil, Nat.reduceAdd, Nat.reduceSub, Array.replicate_succ, Array.replicate_zero, List.push_toArray, List.append_toArray, List.nil_append, List.cons_append]
  gi_wp2_with fail
  refine ⟨trivial, ?_⟩
  refine (callsIn_wide.2 (lenNilI _)).mono ?_
  rintro e w' ⟨rfl, rfl⟩
  gi_wp2
  gi_loop [8] (fun i => i = .int .i64 (0 : Nat)) (fun _ => 0)
  case atStart => rfl
  case round =>
    subst hrel
    gi_wp2
    go_end0
    exact ⟨⟨_, rfl⟩, H0.out⟩

/-- Cells stay where only what is no cells has turned. -/
theorem cells_survive {W W' : World} {row : Option Nat} (hg : W.grownBy W' row) {B : Nat} (hr : ∀ r, row = some r → B ≤ r ∧ ∃ o : Obj, W.heap[r]? = some o ∧ o.isCells = false) {k : Nat} {cs : Array Value} {T : TypeId} {fr : Nat × Nat}
    (h : W.heap[k]? = some (.cells cs T fr)) : W'.heap[k]? = some (.cells cs T fr) :=
  blk_grown hg h (fun e => by
    obtain ⟨_, o, ho, hc⟩ := hr k e
    rw [h] at ho; cases ho; cases hc)
theorem keeps_survive {W W' w : World} {row : Option Nat} (hg : W.grownBy W' row) {B : Nat} (hr : ∀ r, row = some r → B ≤ r ∧ ∃ o : Obj, W.heap[r]? = some o ∧ o.isCells = false) {F : List Nat} (hB : w.heap.size ≤ B)
    (h : Keeps F w W) : Keeps F w W' := h.grown hg (fun k e => .inr (Nat.le_trans hB (hr k e).1))
theorem isq_survive {α : Type} {enc : α → Value} {T E : TypeId} {W W' : World} {b : Nat} {F : List Nat} {size : Nat} {l : List α} {row : Option Nat} (hg : W.grownBy W' row) {B : Nat} (hr : ∀ r, row = some r → B ≤ r ∧ ∃ o : Obj, W.heap[r]? = some o ∧ o.isCells = false)
    (h : IsQ enc T E W b F size l) : IsQ enc T E W' b F size l := by
  rcases h with ⟨rfl, h1, h2, h3⟩ | ⟨r, frm, cs, rfl, h2, h3, h4, h5, h6, h7, h8⟩
  · exact .inl ⟨rfl, h1, h2, cells_survive hg hr h3⟩
  · exact .inr ⟨r, frm, cs, rfl, h2, h3, h4, h5, h6, cells_survive hg hr h7, cells_survive hg hr h8⟩
theorem keeps_put {F : List Nat} {w W : World} (h : Keeps F w W) {D : Nat} (o : Obj) (hD : w.heap.size ≤ D) : Keeps F w (W.putObj D o) :=
  h.grown (grownBy_putObj' W D o) (fun k e => by cases e; exact .inr hD)
theorem others_keeps {F : List Nat} {W W' : World} (h : Keeps F W W') (hF : ∀ k ∈ F, ∃ cs T fr, W.heap[k]? = some (.cells cs T fr)) : KeepsOthers W W' :=
  ⟨h.size, fun k o hk hc => h.blk hk (fun hf => by
    obtain ⟨cs, T, fr, e⟩ := hF k hf
    rw [hk] at e; cases e; cases hc)⟩

/-- A range over a function, for the plain walk. -/
theorem wp_range {P : Program} {α : Type} {g : Operand} {ps : Array Tmp} {assign body : Code} {Q : Exit → Act → World → Prop} {a : Act} {w : World}
    {gf : Nat} {lb : Array Value} (hg : a.eval g = .func (.func gf) #[] lb) (eg : ∀ args w, (callFunc gf args).run P w = .ok (.enter gf args) w)
    {encs : α → Array Value} {G : List Nat} {S Sp : List α → Prop} {N : Nat} (hseq : SeqStopsK Fence.wide 8 P gf lb encs (Same G) S Sp N w)
    (hG : ∀ k ∈ G, k < w.heap.size) (hps : ∀ x, (encs x).size = ps.size)
    (I : List α → World → Prop) (Ix : Code → List α → World → Prop) (hI : OwnFrom w.heap.size I) (hIx : ∀ c, OwnFrom w.heap.size (Ix c)) (h0 : I [] w) (a₁ : α → Act)
    (hassign : ∀ (l : Nat) (x : α) (W : World) (K : Act → World → Prop), K (a₁ x) W →
      assign.wpIn (Fence.wide.inRound l) 7 P (Exit.then K (fun _ _ _ => False)) { tmps := (ps.zip (encs x)).foldl (fun t (p, v) => t.setIfInBounds p v) a.tmps, defers := [] } W)
    (hbody : ∀ (l : Nat) (pre : List α) (x : α) (W : World), I pre W → pre.length < N → body.wpIn (Fence.wide.inRound l) 7 P (ownPostG w.heap.size (Same G) I Ix (pre ++ [x]) W) (a₁ x) W)
    (hdone : ∀ (D : Nat) (xs : List α) (W : World), w.heap.size ≤ D → S xs → I xs W → W.heap[D]? = some (.deferred (some [])) → Q .normal { a with defers := { target := .collected D, args := #[] } :: a.defers } W)
    (hstop : ∀ (D : Nat) (c : Code) (pre : List α) (W : World), w.heap.size ≤ D → Sp pre → Ix c pre W → W.heap[D]? = some (.deferred (some [])) → c.wp P Q { a with defers := { target := .collected D, args := #[] } :: a.defers } W) :
    (Code.rangeFunc g ps assign body).wp P Q a w :=
  wpIn_wide.1 (wpIn_rangeFunc_ownG (n := 9) rfl (by decide) hg trivial eg hseq same_t (same_put hG) (Below.refl _ _) hps I Ix hI hIx h0 a₁ hassign hbody hdone
    (fun D c pre W h1 h2 h3 h4 => wpIn_wide.2 (hstop D c pre W h1 h2 h3 h4)))
theorem blk_put_other {w : World} {b : Nat} {o : Obj} (h : w.heap[b]? = some o) {D : Nat} (o' : Obj) (hne : b ≠ D) : (w.putObj D o').heap[b]? = some o :=
  (World.putObj_heap_other hne).trans h
end Go.Proofs.Ytoecfimmgiajpaa
