/- A range over an iterator that turns memory, whose loop variable is boxed anew in each round. -/
import Derived.Test.YtlcbcagbiiachaaRange
namespace Go.Proofs.Ytlcbcagbiiachaa
open Go.RowKit Go.Shelf
attribute [local go_sem] Oper.semAt_some

theorem wp_over2 {P : Program} {α : Type} {g : Operand} {ps : Array Tmp} {assign body : Code} {Q : Exit → Act → World → Prop} {a : Act} {w : World}
    {gf : Nat} {lb : Array Value} (hg : a.eval g = .func (.func gf) #[] lb) (eg : ∀ args w, (callFunc gf args).run P w = .ok (.enter gf args) w)
    {encs : α → Array Value} {R Kp : World → World → Prop} {H E : List α → World → Prop} {N : Nat} (hseq : SeqOver 8 P gf lb encs R Kp H E N w)
    (hps : ∀ x, (encs x).size = ps.size)
    (hKt : ∀ {A B C : World}, Kp A B → Kp B C → Kp A C) (hKb : ∀ (W : World) (l : Nat) (o : Obj), w.heap.size ≤ l → Kp W (W.putObj l o))
    (hRk : ∀ (A B : World) (k : Nat) (o : Obj), R A B → w.heap.size ≤ k → A.heap[k]? = some o → o.isCells = false → B.heap[k]? = some o)
    (hH : OwnFrom w.heap.size H) (hE : OwnFrom w.heap.size E)
    (I : List α → World → Prop) (Ix : Code → List α → World → Prop) (hI : OwnFrom w.heap.size I) (hIR : ∀ s A B, I s A → R A B → I s B) (hIx : ∀ c, OwnFrom w.heap.size (Ix c)) (h0 : I [] w) (a₁ : α → Nat → Act) (ob : α → Obj) (hKa : ∀ (W : World) (o : Obj), w.heap.size ≤ W.heap.size → Kp W (W.alloc o))
    (hassign : ∀ (l : Nat) (x : α) (p : Nat) (W : World) (K : Act → World → Prop), p = W.heap.size → K (a₁ x p) (W.alloc (ob x)) →
      assign.wpIn (Fence.wide.inRound l) 7 P (Exit.then K (fun _ _ _ => False)) { tmps := (ps.zip (encs x)).foldl (fun t (p, v) => t.setIfInBounds p v) a.tmps, defers := [] } W)
    (hbody : ∀ (l : Nat) (pre : List α) (x : α) (p : Nat) (W : World), I pre W → pre.length < N → H (pre ++ [x]) W → w.heap.size ≤ p → W.heap[p]? = some (ob x) → body.wpIn (Fence.wide.inRound l) 7 P (ownPostG w.heap.size Kp I Ix (pre ++ [x]) W) (a₁ x p) W)
    (hdone : ∀ (D : Nat) (xs : List α) (W : World), w.heap.size ≤ D → E xs W → I xs W → W.heap[D]? = some (.deferred (some [])) → Q .normal { a with defers := { target := .collected D, args := #[] } :: a.defers } W)
    (hstop : ∀ (D : Nat) (c : Code) (pre : List α) (W : World), w.heap.size ≤ D → Ix c pre W → W.heap[D]? = some (.deferred (some [])) → c.wp P Q { a with defers := { target := .collected D, args := #[] } :: a.defers } W) :
    (Code.rangeFunc g ps assign body).wp P Q a w := by
  refine (wpIn_wide (n := 9)).1 (wpIn_rangeFunc ?_)
  intro fn hfn
  -- the loop's record lies at L, the block for the rounds' deferred calls at D
  obtain ⟨D, hD⟩ : ∃ D, D = w.heap.size := ⟨_, rfl⟩
  obtain ⟨L, hL⟩ : ∃ L, L = D + 1 := ⟨_, rfl⟩
  obtain ⟨rec, hrec⟩ : ∃ rec : LoopState → Option Code → Loop, rec = fun st pe => { state := st, pending := pe, fn, tmps := a.tmps, params := ps, assign, body, defers := D } := ⟨_, rfl⟩
  obtain ⟨W1, hW1⟩ : ∃ W1, W1 = (w.alloc (.deferred (some []))).alloc (.loop (rec .ready none)) := ⟨_, rfl⟩
  have hLD : L ≠ D := by omega
  have hl1 : W1.heap[L]? = some (.loop (rec .ready none)) := by
    rw [hW1, hL, hD]; simpa using blk_new (w.alloc (.deferred (some []))) (.loop (rec .ready none))
  have hd1 : W1.heap[D]? = some (.deferred (some [])) := by
    rw [hW1, hD]; exact blk_alloc (blk_new _ _) _
  have hi1 : I [] W1 := by rw [hW1]; exact hI.alloc _ (hI.alloc _ h0)
  have hb1 : Below w.heap.size w W1 := by
    rw [hW1]; exact ((((Keeps.refl [] w).alloc _).alloc _)).below (by simp) (Nat.le_refl _)
  have put : ∀ {W : World} {st : LoopState} {pe : Option Code} (o : Obj), W.heap[L]? = some (.loop (rec st pe)) → W.heap[D]? = some (.deferred (some [])) → (W.putObj L o).heap[L]? = some o ∧ (W.putObj L o).heap[D]? = some (.deferred (some [])) :=
    fun o hl hd => ⟨World.putObj_heap_same (Array.getElem?_eq_some_iff.1 hl).1, (World.putObj_heap_other (Ne.symm hLD)).trans hd⟩
  have hDL : w.heap.size ≤ L := by omega
  refine ⟨L, [{ target := .collected D, args := #[] }], W1, { target := .fn (.func gf) lb, args := #[.func (.yield L) #[] #[]] }, W1, gf, #[.func (.yield L) #[] #[]] ++ lb, W1, ?_, ?_, ?_, ?_, fun _ => by decide, ?_⟩
  · rw [hW1, hrec, hL, hD]; exact run_enterLoop_outer _ _ _ _ _
  · simp only [resolve, hg]
    simp [go_sem]
  · intro f' _; trivial
  · simp [invoke, go_sem, eg]
  refine (hseq L
    (fun pre W => I pre W ∧ W.heap[L]? = some (.loop (rec .ready none)) ∧ W.heap[D]? = some (.deferred (some [])))
    (fun pre W => ∃ c, Ix c pre W ∧ W.heap[L]? = some (.loop (rec .done (some c))) ∧ W.heap[D]? = some (.deferred (some [])))
    W1 hb1 (fun s A B hs hR => ⟨hIR s A B hs.1 hR, hRk A B L _ hR hDL hs.2.1 rfl, hRk A B D _ hR (by omega) hs.2.2 rfl⟩) ?_ ⟨hi1, hl1, hd1⟩).mono ?_
  · rintro pre x W ⟨hi, hl, hd⟩ hlen hHx
    have hy := run_yield (P := P) (args := encs x) hl (by rw [hrec]; exact hps x)
    rw [hrec] at hy
    refine ⟨fn, _, assign, body, hy, roundIn_of_wpIn hfn (hassign _ x W.heap.size W _ rfl ?_)⟩
    have hltL := blk_lt hl
    have hWs : w.heap.size ≤ W.heap.size := by omega
    have hl := blk_alloc hl (ob x)
    have hd := blk_alloc hd (ob x)
    have hi := hI.alloc (ob x) hi
    have hHx := hH.alloc (ob x) hHx
    have kA := hKa W (ob x) hWs
    have hbx := blk_new W (ob x)
    obtain ⟨p, hp⟩ : ∃ p, p = W.heap.size := ⟨_, rfl⟩
    rw [← hp] at hbx ⊢
    generalize W.alloc (ob x) = WA at hl hd hi hHx kA hbx ⊢
    refine ⟨_, run_beginRound hl (by rw [hrec]), ?_⟩
    obtain ⟨hl2, hd2⟩ := put (.loop { rec .ready none with state := .busy }) hl hd
    have hk2 := hKb WA L (.loop { rec .ready none with state := .busy }) hDL
    refine wpIn_mono (hbody _ pre x p _ (hI.putObj _ hi hDL hl rfl) hlen (hH.putObj _ hHx hDL hl rfl) (by omega) ((World.putObj_heap_other (by omega)).trans hbx)) ?_
    have ends : ∀ (jump : Option Code) (W3 : World), KeepsFrom w.heap.size (WA.putObj L (.loop { rec .ready none with state := .busy })) W3 →
        W3.heap[L]? = some (.loop { rec .ready none with state := .busy }) ∧
        (Instr.endRound L jump).run P W3 = .ok (.bool jump.isNone) (W3.putObj L (.loop (rec (if jump.isNone then .ready else .done) jump))) ∧
        (W3.putObj L (.loop (rec (if jump.isNone then .ready else .done) jump))).heap[L]? = some (.loop (rec (if jump.isNone then .ready else .done) jump)) ∧
        (W3.putObj L (.loop (rec (if jump.isNone then .ready else .done) jump))).heap[D]? = some (.deferred (some [])) := fun jump W3 hk3 => by
      have hl3 := hk3.same L _ hDL hl2 rfl
      have hd3 := hk3.same D _ (by omega) hd2 rfl
      have hr := run_endRound (P := P) jump hl3
      have h4 := put (st := .busy) (pe := none) (.loop (rec (if jump.isNone then .ready else .done) jump)) (by rw [hrec] at hl3 ⊢; exact hl3) hd3
      rw [hrec] at hr h4 hl3 ⊢
      exact ⟨hl3, hr, h4.1, h4.2⟩
    have left : ∀ (c : Code) (W3 : World), KeepsFrom w.heap.size (WA.putObj L (.loop { rec .ready none with state := .busy })) W3 → Ix c (pre ++ [x]) W3 →
        (Instr.endRound L (some c)).run P W3 = .ok (.bool false) (W3.putObj L (.loop (rec .done (some c)))) ∧ Ix c (pre ++ [x]) (W3.putObj L (.loop (rec .done (some c)))) ∧
        (W3.putObj L (.loop (rec .done (some c)))).heap[L]? = some (.loop (rec .done (some c))) ∧ (W3.putObj L (.loop (rec .done (some c)))).heap[D]? = some (.deferred (some [])) := fun c W3 hk hx => by
      obtain ⟨hl3, hr, h4, h5⟩ := ends (some c) W3 hk
      exact ⟨hr, (hIx c).putObj _ hx hDL hl3 rfl, h4, h5⟩
    rintro e a3 W3 hp
    cases e with
    | normal =>
      obtain ⟨hk3, hkp3, hi3⟩ := hp
      obtain ⟨hl3, hr, h4, h5⟩ := ends none W3 hk3
      exact ⟨_, _, hr, .inl ⟨rfl, ⟨hI.putObj _ hi3 hDL hl3 rfl, h4, h5⟩, hKt (hKt (hKt kA hk2) hkp3) (hKb _ _ _ hDL)⟩⟩
    | ret =>
      obtain ⟨h1, h2, h3, h4⟩ := left .ret W3 hp.1 hp.2
      exact ⟨_, _, h1, .inr ⟨rfl, _, h2, h3, h4⟩⟩
    | exit id =>
      obtain ⟨h1, h2, h3, h4⟩ := left (.exit id) W3 hp.1 hp.2
      exact ⟨_, _, h1, .inr ⟨rfl, _, h2, h3, h4⟩⟩
    | goto t =>
      obtain ⟨h1, h2, h3, h4⟩ := left (.goto t) W3 hp.1 hp.2
      exact ⟨_, _, h1, .inr ⟨rfl, _, h2, h3, h4⟩⟩
    | panic ch => exact hp.elim
    | outgrown => exact hp.elim
  · rintro e W2 ⟨⟨v, rfl⟩, (⟨xs, hEx, hi, hl, hd⟩ | ⟨pre, c, hx, hl, hd⟩)⟩
    · have hr := run_endLoop (P := P) hl (by rw [hrec]; simp)
      rw [hrec] at hr
      exact ⟨none, _, hr, hdone D xs _ (by omega) (hE.putObj _ hEx hDL hl rfl) (hI.putObj _ hi hDL hl rfl) ((World.putObj_heap_other (Ne.symm hLD)).trans hd)⟩
    · have hr := run_endLoop (P := P) hl (by rw [hrec]; simp)
      rw [hrec] at hr
      exact ⟨some c, _, hr, wpIn_wide.2 (hstop D c pre _ (by omega) ((hIx c).putObj _ hx hDL hl rfl) ((World.putObj_heap_other (Ne.symm hLD)).trans hd))⟩

end Go.Proofs.Ytlcbcagbiiachaa
