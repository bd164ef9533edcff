/- each, Lex: the tokens of a text, in a row. -/
import Derived.Test.YtefdcjmfbjlinaaSeq
import Derived.RangeFuncNested
namespace Go.Proofs.Ytefdcjmfbjlinaa.Sc
open Go.RowKit Go.Shelf
attribute [local go_sem] Oper.semAt_some
def cellsT (t : Tk) : List Value := [.int .i64 t.kind, .int .i64 t.at_, .string ⟨t.text.toArray⟩, .int .i64 t.num]
/-- The value is a row of these tokens, of the call's own, in memory from base on. -/
def RowT (W : World) (base : Nat) (v : Value) (ts : List Tk) : Prop := W.ownsRow base 56 4 v ts.length (ts.flatMap cellsT)
theorem rowT_nil (W : World) (base : Nat) : RowT W base (.slice none 0 0) [] := World.ownsRow_nil _ _ _ _
theorem rowT_survive {W W' : World} {row : Option Nat} (hg : W.grownBy W' row) {B : Nat} (hr : ∀ r, row = some r → B ≤ r ∧ ∃ o : Obj, W.heap[r]? = some o ∧ o.isCells = false) {base : Nat} {v : Value} {ts : List Tk} (h : RowT W base v ts) : RowT W' base v ts := by
  refine World.ownsRow.kept h hg ?_
  rcases h.2 with ⟨rfl, _⟩ | ⟨g, cap, cur, rfl, h2, h3, h4, h5, h6, h7⟩
  · exact .inl rfl
  · right
    intro e
    obtain ⟨_, o, ho, hc⟩ := hr g (by rw [← e]; rfl)
    rw [h3] at ho; cases ho; cases hc
theorem info28 : (Try.prog.info? 56).map (fun i => (i.zero, i.size, i.bytes)) = some (some (.agg #[.int .i64 0, .int .i64 0, .string ⟨#[]⟩, .int .i64 0]), 4, 40) := by kernel_rfl

/-- A range over Each; the loop's variable may lie in memory. -/
theorem wp_rangeT {P : Program} {g : Operand} {ps : Array Tmp} {assign body : Code} {Q : Exit → Act → World → Prop} {a : Act} {w : World} {Bx : Nat}
    {gf : Nat} {lb : Array Value} (hg : a.eval g = .func (.func gf) #[] lb) (eg : ∀ args w, (callFunc gf args).run P w = .ok (.enter gf args) w)
    {encs : Tk → Array Value} {S Sp : List Tk → Prop} {N : Nat} (hseq : SeqStopsK Fence.wide 8 P gf lb encs (KpT Bx) S Sp N w)
    (hB : Bx < w.heap.size) (hps : ∀ x, (encs x).size = ps.size)
    (I : List Tk → World → Prop) (Ix : Code → List Tk → World → Prop) (hI : OwnFrom w.heap.size I) (hIx : ∀ c, OwnFrom w.heap.size (Ix c)) (h0 : I [] w) (Ax : Tk → Act → World → Prop) (hAx : ∀ x a', OwnFrom w.heap.size (fun (_ : Unit) W => Ax x a' W))
    (hassign : ∀ (l : Nat) (pre : List Tk) (x : Tk) (W : World) (K : Act → World → Prop), I pre W → (∀ a' W', KeepsFrom w.heap.size W W' → KpT Bx W W' → I pre W' → Ax x a' W' → K a' W') →
      assign.wpIn (Fence.wide.inRound l) 7 P (Exit.then K (fun _ _ _ => False)) { tmps := (ps.zip (encs x)).foldl (fun t (p, v) => t.setIfInBounds p v) a.tmps, defers := [] } W)
    (hbody : ∀ (l : Nat) (pre : List Tk) (x : Tk) (a' : Act) (W : World), I pre W → Ax x a' W → pre.length < N → body.wpIn (Fence.wide.inRound l) 7 P (ownPostG w.heap.size (KpT Bx) I Ix (pre ++ [x]) W) a' W)
    (hdone : ∀ (D : Nat) (xs : List Tk) (W : World), w.heap.size ≤ D → S xs → I xs W → W.heap[D]? = some (.deferred (some [])) → Q .normal { a with defers := { target := .collected D, args := #[] } :: a.defers } W)
    (hstop : ∀ (D : Nat) (c : Code) (pre : List Tk) (W : World), w.heap.size ≤ D → Sp pre → Ix c pre W → W.heap[D]? = some (.deferred (some [])) → c.wp P Q { a with defers := { target := .collected D, args := #[] } :: a.defers } W) :
    (Code.rangeFunc g ps assign body).wp P Q a w :=
  wpIn_wide.1 (wpIn_rangeFunc_ownH (n := 9) rfl (by decide) hg trivial eg hseq kpT_t (kpT_put hB) (Below.refl _ _) hps I Ix hI hIx h0 Ax hAx hassign (fun l pre x a' W _ _ hi ha hn => hbody l pre x a' W hi ha hn) hdone
    (fun D c pre W h1 h2 h3 h4 => wpIn_wide.2 (hstop D c pre W h1 h2 h3 h4)))

theorem kpT_alloc (Bx : Nat) (W : World) (o : Obj) (hB : Bx < W.heap.size) : KpT Bx W (W.alloc o) :=
  ⟨by simp, Below.heap_alloc W o Bx hB, fun _ _ h _ => blk_alloc h o⟩
theorem rowT_alloc {W : World} {base : Nat} {v : Value} {ts : List Tk} (h : RowT W base v ts) (o : Obj) : RowT (W.alloc o) base v ts := World.ownsRow.alloc h o

/-- What the loop's round finds: the token in its box. -/
def BoxT (B : Nat) (x : Tk) (W : World) (X : Nat) : Prop := B ≤ X ∧ W.heap[X]? = some (.cells (cellsT x).toArray 56 (0, 0))

theorem rowT_base {W : World} {base : Nat} {v : Value} {ts : List Tk} (h : RowT W base v ts) : ∀ k, v.ownBlock = some k → base ≤ k := fun k hk => (World.ownsRow.lt h k hk).1
theorem rowT_set {W : World} {base : Nat} {v : Value} {ts : List Tk} (h : RowT W base v ts) (b : Nat) (u : Value) (hb : b < base) : RowT (W.setCell ⟨b, 0, none⟩ u) base v ts := by
  refine World.ownsRow.kept h (grownBy_setCell' W b u) ?_
  cases hv : v.ownBlock with
  | none => exact .inl rfl
  | some k => right; intro e; cases e; have := rowT_base h _ hv; omega
theorem kpT_set (Bx : Nat) {W : World} {b : Nat} {c : Value} {T : TypeId} (u : Value) (hb : W.heap[b]? = some (.cells #[c] T (0, 0))) (hne : b ≠ Bx) : KpT Bx W (W.setCell ⟨b, 0, none⟩ u) := by
  refine ⟨by simp, Below.heap_setCell _ _ _ _ (Ne.symm hne), fun k cs hk hs => ?_⟩
  by_cases e : k = b
  · subst e; rw [hk] at hb; cases hb; simp at hs
  · exact blk_set_other hk _ _ (Ne.symm e)

theorem rowT_lower {W : World} {base base' : Nat} {v : Value} {ts : List Tk} (h : RowT W base v ts) (hb : base' ≤ base) : RowT W base' v ts := by
  refine ⟨h.1, ?_⟩
  rcases h.2 with h2 | ⟨g, cap, cur, h1, h2, h3⟩
  · exact .inl h2
  · exact .inr ⟨g, cap, cur, h1, by omega, h3⟩
theorem rowT_put {W : World} {base : Nat} {v : Value} {ts : List Tk} (h : RowT W base v ts) {D : Nat} {o0 o : Obj} (hD : W.heap[D]? = some o0) (hc : o0.isCells = false) : RowT (W.putObj D o) base v ts :=
  rowT_survive (B := 0) (grownBy_putObj' W D o) (fun r e => by cases e; exact ⟨Nat.zero_le _, _, hD, hc⟩) h

/-- Behind the append of one token, and the store of the row into its variable. -/
theorem appended {B Bl base : Nat} (hB : Bl < base) (hBb : B < base) (hBne : B ≠ Bl) {W W1 w1 : World} {v v' : Value} {pre : List Tk} {x : Tk} {row : Option Nat} (hK1 : Keeps [] W W1) (hBW : B < W.heap.size)
    (hv : W.heap[Bl]? = some (.cells #[v] 49 (0, 0))) (hrow : RowT W base v pre) (hnil : pre = [] → v = .slice none 0 0) (hown : RowT w1 base v' (pre ++ [x])) (hg : W1.grownBy w1 row)
    (hr : ∀ g, row = some g → ∃ cap, v = .slice (some ⟨g, 0, none⟩) pre.length cap ∧ pre.length + 1 ≤ cap) :
    w1.heap[Bl]? = some (.cells #[v] 49 (0, 0)) ∧ KeepsFrom base W (w1.setCell ⟨Bl, 0, none⟩ v') ∧ KpT B W (w1.setCell ⟨Bl, 0, none⟩ v') ∧ (w1.setCell ⟨Bl, 0, none⟩ v').heap[Bl]? = some (.cells #[v'] 49 (0, 0)) ∧
    RowT (w1.setCell ⟨Bl, 0, none⟩ v') base v' (pre ++ [x]) ∧ (∀ w : World, Keeps [] w W → w.heap.size ≤ Bl → Keeps [] w (w1.setCell ⟨Bl, 0, none⟩ v')) ∧ (∀ k o, W.heap[k]? = some o → k < base → k ≠ Bl → (w1.setCell ⟨Bl, 0, none⟩ v').heap[k]? = some o) := by
  have hbase : ∀ g, row = some g → base ≤ g := by
    intro g e
    obtain ⟨cap, rfl, -⟩ := hr g e
    exact rowT_base hrow g rfl
  have hne : row ≠ some Bl := by intro e; have := hbase _ e; omega
  have hb1 := blk_grown hg (hK1.blk hv (by simp)) hne
  have kF : Keeps (row.toList) W w1 := (hK1.mono (by simp)).grown hg (fun k e => .inl (by simp [e]))
  have kG : Keeps (Bl :: row.toList) W (w1.setCell ⟨Bl, 0, none⟩ v') := (kF.mono (by intro k hk; exact .inl (by simp at hk ⊢; exact .inr hk))).setCell Bl 0 v' (.inl (by simp))
  have hgcells : ∀ g, row = some g → ∃ cur : Array Value, ∃ cap, W.heap[g]? = some (.cells cur 56 (0, 0)) ∧ cur.size = cap * 4 ∧ pre.length + 1 ≤ cap ∧ v ≠ .slice none 0 0 := by
    intro g e
    obtain ⟨cap, rfl, h2⟩ := hr g e
    rcases hrow.2 with ⟨h', _⟩ | ⟨g', cap', cur, h1, h2', h3, h4, h5, h6, h7⟩
    · cases h'
    · cases h1
      exact ⟨cur, cap, h3, h6, h2, by simp⟩
  refine ⟨hb1, (others_keeps kG ?_).from _, ⟨kG.size, kG.block B hBW ?_, fun k cs hk hs => ?_⟩, ?_, rowT_set hown _ _ (by omega), fun w hw hwB => ?_, fun k o hk hkb hkne => ?_⟩
  · intro k hk
    simp at hk
    rcases hk with rfl | hk
    · exact ⟨_, _, _, hv⟩
    · obtain ⟨cur, cap, h1, -⟩ := hgcells k hk
      exact ⟨_, _, _, h1⟩
  · simp
    exact ⟨hBne, fun e => by have := hbase _ e; omega⟩
  · refine kG.blk hk ?_
    simp
    refine ⟨?_, ?_⟩
    · rintro rfl; rw [hk] at hv; cases hv
    · intro e
      obtain ⟨cur, cap, h1, h2, h3, h4⟩ := hgcells k e
      rw [hk] at h1
      cases h1
      have : pre.length = 0 := by omega
      exact h4 (hnil (List.eq_nil_of_length_eq_zero this))
  · have := blk_set_same hb1 0 v'
    simpa using this
  · refine hw.andThen kG ?_
    intro g hg'
    simp at hg'
    rcases hg' with rfl | hg'
    · exact .inr hwB
    · exact .inr (by have := hbase _ hg'; omega)
  · refine kG.blk hk ?_
    simp
    exact ⟨hkne, fun e => by have := hbase _ e; omega⟩

end Go.Proofs.Ytefdcjmfbjlinaa.Sc
