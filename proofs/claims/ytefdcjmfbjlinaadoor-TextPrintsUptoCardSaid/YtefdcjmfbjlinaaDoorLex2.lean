/- each, Lex: the tokens of a text, in a row. -/
import Derived.Test.YtefdcjmfbjlinaaDoorSeq
import Derived.RangeFuncNested
import Derived.IntWalk
namespace Go.Proofs.YtefdcjmfbjlinaaDoor.Sc
open Go.RowKit Go.Shelf
attribute [local go_sem] Oper.semAt_some
def cellsT (t : Tk) : List Value := [.int .i64 t.kind, .int .i64 t.at_, .string ⟨t.text.toArray⟩, .int .i64 t.num]
/-- The value is a row of these tokens, of the call's own, in memory from base on. -/
def RowT (W : World) (base : Nat) (v : Value) (ts : List Tk) : Prop := W.ownsRow base 69 4 v ts.length (ts.flatMap cellsT)
theorem rowT_nil (W : World) (base : Nat) : RowT W base (.slice none 0 0) [] := World.ownsRow_nil _ _ _ _
theorem rowT_survive {W W' : World} {row : Option Nat} (hg : W.grownBy W' row) {B : Nat} (hr : ∀ r, row = some r → B ≤ r ∧ ∃ o : Obj, W.heap[r]? = some o ∧ o.isCells = false) {base : Nat} {v : Value} {ts : List Tk} (h : RowT W base v ts) : RowT W' base v ts := by
  refine World.ownsRow.kept h hg ?_
  rcases h.2 with ⟨rfl, _⟩ | ⟨g, cap, cur, rfl, h2, h3, h4, h5, h6, h7⟩
  · exact .inl rfl
  · right
    intro e
    obtain ⟨_, o, ho, hc⟩ := hr g (by rw [← e]; rfl)
    rw [h3] at ho; cases ho; cases hc
theorem info28 : (Tryd.prog.info? 69).map (fun i => (i.zero, i.size, i.bytes)) = some (some (.agg #[.int .i64 0, .int .i64 0, .string ⟨#[]⟩, .int .i64 0]), 4, 40) := by kernel_rfl

/-- A range over Each; the loop's variable may lie in memory. -/
theorem wp_rangeT {P : Program} {g : Operand} {ps : Array Tmp} {assign body : Code} {Q : Exit → Act → World → Prop} {a : Act} {w : World} {Bx : Nat}
    {gf : Nat} {lb : Array Value} (hg : a.eval g = .func (.func gf) #[] lb) (eg : ∀ args w, (callFunc gf args).run P w = .ok (.enter gf args) w)
    {encs : Tk → Array Value} {S Sp : List Tk → Prop} {N : Nat} (hseq : SeqStopsK Fence.wide 8 P gf lb encs (KpT Bx) S Sp N w)
    (hB : Bx < w.heap.size) (hps : ∀ x, (encs x).size = ps.size)
    (I : List Tk → World → Prop) (Ix : Code → List Tk → World → Prop) (hI : OwnFrom w.heap.size I) (hIx : ∀ c, OwnFrom w.heap.size (Ix c)) (h0 : I [] w) (Ax : Tk → Act → World → Prop) (hAx : ∀ x a', OwnFrom w.heap.size (fun (_ : Unit) W => Ax x a' W))
    (hassign : ∀ (l : Nat) (pre : List Tk) (x : Tk) (W : World) (K : Act → World → Prop), I pre W → (∀ a' W', KeepsFrom w.heap.size W W' → KpT Bx W W' → I pre W' → Ax x a' W' → K a' W') →
      assign.wpIn (Fence.wide.inRound l) 7 P (Exit.then K (fun _ _ _ => False)) { tmps := (ps.zip (encs x)).foldl (fun t (p, v) => t.setIfInBounds p v) a.tmps, defers := [] } W)
    (hbody : ∀ (l : Nat) (pre : List Tk) (x : Tk) (a' : Act) (W : World), I pre W → Ax x a' W → pre.length < N → body.wpIn (Fence.wide.inRound l) 7 P (ownPostG w.heap.size (KpT Bx) I Ix (pre ++ [x]) W) a' W)
    (hdone : ∀ (D : Nat) (xs : List Tk) (W : World), w.heap.size ≤ D → S xs → I xs W → W.heap[D]? = some (.deferred (some [])) → Q .normal { a with defers := { target := .collected D, args := #[] } :: a.defers } W)
    (hstop : ∀ (D : Nat) (c : Code) (pre : List Tk) (W : World), w.heap.size ≤ D → Sp pre → Ix c pre W → W.heap[D]? = some (.deferred (some [])) → c.wp P Q { a with defers := { target := .collected D, args := #[] } :: a.defers } W) :
    (Code.rangeFunc g ps assign body).wp P Q a w :=
  wpIn_wide.1 (wpIn_rangeFunc_ownH (n := 9) rfl (by decide) hg trivial eg hseq kpT_t (kpT_put hB) (Below.refl _ _) hps I Ix hI hIx h0 Ax hAx hassign (fun l pre x a' W _ _ hi ha hn => hbody l pre x a' W hi ha hn) hdone
    (fun D c pre W h1 h2 h3 h4 => wpIn_wide.2 (hstop D c pre W h1 h2 h3 h4)))

theorem kpT_alloc (Bx : Nat) (W : World) (o : Obj) (hB : Bx < W.heap.size) : KpT Bx W (W.alloc o) :=
  ⟨by simp, Below.heap_alloc W o Bx hB, fun _ _ h _ => blk_alloc h o⟩
theorem rowT_alloc {W : World} {base : Nat} {v : Value} {ts : List Tk} (h : RowT W base v ts) (o : Obj) : RowT (W.alloc o) base v ts := World.ownsRow.alloc h o

/-- What the loop's round finds: the token in its box. -/
def BoxT (B : Nat) (x : Tk) (W : World) (X : Nat) : Prop := B ≤ X ∧ W.heap[X]? = some (.cells (cellsT x).toArray 69 (0, 0))

theorem rowT_base {W : World} {base : Nat} {v : Value} {ts : List Tk} (h : RowT W base v ts) : ∀ k, v.ownBlock = some k → base ≤ k := fun k hk => (World.ownsRow.lt h k hk).1
theorem rowT_set {W : World} {base : Nat} {v : Value} {ts : List Tk} (h : RowT W base v ts) (b : Nat) (u : Value) (hb : b < base) : RowT (W.setCell ⟨b, 0, none⟩ u) base v ts := by
  refine World.ownsRow.kept h (grownBy_setCell' W b u) ?_
  cases hv : v.ownBlock with
  | none => exact .inl rfl
  | some k => right; intro e; cases e; have := rowT_base h _ hv; omega
theorem kpT_set (Bx : Nat) {W : World} {b : Nat} {c : Value} {T : TypeId} (u : Value) (hb : W.heap[b]? = some (.cells #[c] T (0, 0))) (hne : b ≠ Bx) : KpT Bx W (W.setCell ⟨b, 0, none⟩ u) := by
  refine ⟨by simp, Below.heap_setCell _ _ _ _ (Ne.symm hne), fun k cs hk hs => ?_⟩
  by_cases e : k = b
  · subst e; rw [hk] at hb; cases hb; simp at hs
  · exact blk_set_other hk _ _ (Ne.symm e)

theorem rowT_lower {W : World} {base base' : Nat} {v : Value} {ts : List Tk} (h : RowT W base v ts) (hb : base' ≤ base) : RowT W base' v ts := by
  refine ⟨h.1, ?_⟩
  rcases h.2 with h2 | ⟨g, cap, cur, h1, h2, h3⟩
  · exact .inl h2
  · exact .inr ⟨g, cap, cur, h1, by omega, h3⟩
theorem rowT_put {W : World} {base : Nat} {v : Value} {ts : List Tk} (h : RowT W base v ts) {D : Nat} {o0 o : Obj} (hD : W.heap[D]? = some o0) (hc : o0.isCells = false) : RowT (W.putObj D o) base v ts :=
  rowT_survive (B := 0) (grownBy_putObj' W D o) (fun r e => by cases e; exact ⟨Nat.zero_le _, _, hD, hc⟩) h

/-- Behind the append of one token, and the store of the row into its variable. -/
theorem appended {B Bl base : Nat} (hB : Bl < base) (hBb : B < base) (hBne : B ≠ Bl) {W W1 w1 : World} {v v' : Value} {pre : List Tk} {x : Tk} {row : Option Nat} (hK1 : Keeps [] W W1) (hBW : B < W.heap.size)
    (hv : W.heap[Bl]? = some (.cells #[v] 62 (0, 0))) (hrow : RowT W base v pre) (hnil : pre = [] → v = .slice none 0 0) (hown : RowT w1 base v' (pre ++ [x])) (hg : W1.grownBy w1 row)
    (hr : ∀ g, row = some g → ∃ cap, v = .slice (some ⟨g, 0, none⟩) pre.length cap ∧ pre.length + 1 ≤ cap) :
    w1.heap[Bl]? = some (.cells #[v] 62 (0, 0)) ∧ KeepsFrom base W (w1.setCell ⟨Bl, 0, none⟩ v') ∧ KpT B W (w1.setCell ⟨Bl, 0, none⟩ v') ∧ (w1.setCell ⟨Bl, 0, none⟩ v').heap[Bl]? = some (.cells #[v'] 62 (0, 0)) ∧
    RowT (w1.setCell ⟨Bl, 0, none⟩ v') base v' (pre ++ [x]) ∧ (∀ w : World, Keeps [] w W → w.heap.size ≤ Bl → Keeps [] w (w1.setCell ⟨Bl, 0, none⟩ v')) ∧ (∀ k o, W.heap[k]? = some o → k < base → k ≠ Bl → (w1.setCell ⟨Bl, 0, none⟩ v').heap[k]? = some o) := by
  have hbase : ∀ g, row = some g → base ≤ g := by
    intro g e
    obtain ⟨cap, rfl, -⟩ := hr g e
    exact rowT_base hrow g rfl
  have hne : row ≠ some Bl := by intro e; have := hbase _ e; omega
  have hb1 := blk_grown hg (hK1.blk hv (by simp)) hne
  have kF : Keeps (row.toList) W w1 := (hK1.mono (by simp)).grown hg (fun k e => .inl (by simp [e]))
  have kG : Keeps (Bl :: row.toList) W (w1.setCell ⟨Bl, 0, none⟩ v') := (kF.mono (by intro k hk; exact .inl (by simp at hk ⊢; exact .inr hk))).setCell Bl 0 v' (.inl (by simp))
  have hgcells : ∀ g, row = some g → ∃ cur : Array Value, ∃ cap, W.heap[g]? = some (.cells cur 69 (0, 0)) ∧ cur.size = cap * 4 ∧ pre.length + 1 ≤ cap ∧ v ≠ .slice none 0 0 := by
    intro g e
    obtain ⟨cap, rfl, h2⟩ := hr g e
    rcases hrow.2 with ⟨h', _⟩ | ⟨g', cap', cur, h1, h2', h3, h4, h5, h6, h7⟩
    · cases h'
    · cases h1
      exact ⟨cur, cap, h3, h6, h2, by simp⟩
  refine ⟨hb1, (others_keeps kG ?_).from _, ⟨kG.size, kG.block B hBW ?_, fun k cs hk hs => ?_⟩, ?_, rowT_set hown _ _ (by omega), fun w hw hwB => ?_, fun k o hk hkb hkne => ?_⟩
  · intro k hk
    simp at hk
    rcases hk with rfl | hk
    · exact ⟨_, _, _, hv⟩
    · obtain ⟨cur, cap, h1, -⟩ := hgcells k hk
      exact ⟨_, _, _, h1⟩
  · simp
    exact ⟨hBne, fun e => by have := hbase _ e; omega⟩
  · refine kG.blk hk ?_
    simp
    refine ⟨?_, ?_⟩
    · rintro rfl; rw [hk] at hv; cases hv
    · intro e
      obtain ⟨cur, cap, h1, h2, h3, h4⟩ := hgcells k e
      rw [hk] at h1
      cases h1
      have : pre.length = 0 := by omega
      exact h4 (hnil (List.eq_nil_of_length_eq_zero this))
  · have := blk_set_same hb1 0 v'
    simpa using this
  · refine hw.andThen kG ?_
    intro g hg'
    simp at hg'
    rcases hg' with rfl | hg'
    · exact .inr hwB
    · exact .inr (by have := hbase _ hg'; omega)
  · refine kG.blk hk ?_
    simp
    exact ⟨hkne, fun e => by have := hbase _ e; omega⟩

end Go.Proofs.YtefdcjmfbjlinaaDoor.Sc
/- Lex: all tokens, or the place where none begins. -/
namespace Go.Proofs.YtefdcjmfbjlinaaDoor.Sc
open Go.RowKit Go.Shelf
attribute [local go_sem] Oper.semAt_some
/-- Where the last token ends. -/
def endFrom (d : Nat) (ts : List Tk) : Nat := ts.foldl (fun _ t => t.at_ + t.text.length) d
/-- The same, as int counts. -/
def endT (t : Tk) : Int := wrap64 ((t.at_ : Int) + (t.text.length : Int))
def endV (ts : List Tk) : Int := match ts.getLast? with | none => 0 | some t => endT t
theorem endV_snoc (ts : List Tk) (t : Tk) : endV (ts ++ [t]) = endT t := by unfold endV; rw [List.getLast?_concat]

theorem lex_end (L : List UInt8) : ∀ (n d : Nat), L.length - d ≤ n → d ≤ L.length →
    endFrom d (rst (d + skp false (L.drop d)) (L.drop (d + skp false (L.drop d)))).1 ≤ L.length ∧
    endFrom d (rst (d + skp false (L.drop d)) (L.drop (d + skp false (L.drop d)))).1 + skp false (L.drop (endFrom d (rst (d + skp false (L.drop d)) (L.drop (d + skp false (L.drop d)))).1)) = (rst (d + skp false (L.drop d)) (L.drop (d + skp false (L.drop d)))).2 ∧
    ∀ t ∈ (rst (d + skp false (L.drop d)) (L.drop (d + skp false (L.drop d)))).1, t.at_ + t.text.length ≤ L.length := by
  intro n
  induction n with
  | zero =>
    intro d hn hd
    have : L.drop d = [] := List.drop_eq_nil_of_le (by omega)
    have h2 : L.drop (d + skp false (L.drop d)) = [] := List.drop_eq_nil_of_le (by omega)
    rw [h2, rst_nil]
    exact ⟨hd, rfl, by simp⟩
  | succ n ih =>
    intro d hn hd
    generalize ha : d + skp false (L.drop d) = a
    cases hl : L.drop a with
    | nil => rw [rst_nil]; exact ⟨hd, ha, by simp⟩
    | cons c l =>
      by_cases hk : knd c = 0
      · rw [rst_none _ hk]; exact ⟨hd, ha, by simp⟩
      · rw [rst_some _ hk]
        have hp := tln_pos c l
        have hlen : (c :: l).length = L.length - a := by rw [← hl]; simp
        have htl := tln_le (c :: l)
        have htk := tkOf_len a (c :: l)
        have hat : (tkOf a (c :: l)).at_ = a := by rw [tkOf_at]
        have hx : a + nxt (c :: l) = (a + tln (c :: l)) + skp false (L.drop (a + tln (c :: l))) := by
          unfold nxt; rw [← List.drop_drop, hl]; omega
        have hdr : (c :: l).drop (nxt (c :: l)) = L.drop (a + nxt (c :: l)) := by rw [← List.drop_drop, hl]
        have hpos : 0 < (c :: l).length := by simp
        obtain ⟨h1, h2, h3⟩ := ih (a + tln (c :: l)) (by omega) (by omega)
        rw [hdr, hx]
        have e : ∀ ts, endFrom d (tkOf a (c :: l) :: ts) = endFrom (a + tln (c :: l)) ts := by
          intro ts
          show endFrom ((tkOf a (c :: l)).at_ + (tkOf a (c :: l)).text.length) ts = _
          rw [hat, htk]
        simp only [e]
        refine ⟨h1, h2, ?_⟩
        intro t ht
        rcases List.mem_cons.1 ht with rfl | ht
        · rw [hat, htk]; omega
        · exact h3 t ht

theorem endFrom_snoc (d : Nat) (ts : List Tk) (t : Tk) : endFrom d (ts ++ [t]) = t.at_ + t.text.length := by unfold endFrom; rw [List.foldl_append, List.foldl_cons, List.foldl_nil]
theorem endV_eq (L : List UInt8) (hL : L.length ≤ 1000000) (ts : List Tk) (h : ∀ t ∈ ts, t.at_ + t.text.length ≤ L.length) : endV ts = (endFrom 0 ts : Nat) := by
  rcases List.eq_nil_or_concat ts with rfl | ⟨us, t, rfl⟩
  · rfl
  · rw [List.concat_eq_append] at h ⊢
    rw [endV_snoc, endFrom_snoc]
    have := h t (by simp)
    unfold endT wrap64
    omega

/-- What Lex tells. -/
def lexL (l : List UInt8) : List Tk × Nat × Nat := if (eachL l).2 < l.length then ([], (eachL l).2, 10) else ((eachL l).1, (eachL l).2, 0)

set_option maxHeartbeats 4000000 in
set_option maxRecDepth 100000 in
theorem lex_any (s : ByteArray) (hs : s.size ≤ 1000000) (w : World) :
    Calls Tryd.prog 30 #[.string s] w fun e w' => ∃ v, e = .returned (.tuple #[v, .int .i64 (lexL s.data.toList).2.1, .int .i64 (lexL s.data.toList).2.2]) ∧ RowT w' w.heap.size v (lexL s.data.toList).1 ∧ Keeps [] w w' := by
  refine (callsIn_wide (n := 9)).1 ?_
  refine callsIn_of_wp_marks Tryd.func30 rfl trivial ?_ rfl
  simp only [Tryd.ntmps30, List.size_toArray, List.length_cons, List.length_nil, Nat.reduceAdd, Nat.reduceSub, Array.replicate_succ, Array.replicate_zero, List.push_toArray, List.append_toArray, List.nil_append, List.cons_append]
  refine wpIn_wide.2 ?_
  go_wp2_with fail
  refine (each_any _ _).mono ?_
  rintro e w' ⟨rfl, rfl⟩
  go_wp2_with fail
  have K0 : Keeps [] w (((w.alloc (.cells #[.slice none 0 0] 62)).alloc (.cells #[.int .i64 0] 3)).alloc (.cells #[.string s] 9)) := (((Keeps.refl _ _).alloc _).alloc _).alloc _
  have l0 : (((w.alloc (.cells #[.slice none 0 0] 62)).alloc (.cells #[.int .i64 0] 3)).alloc (.cells #[.string s] 9)).heap[w.heap.size]? = some (.cells #[.slice none 0 0] 62 (0, 0)) := blk_alloc (blk_alloc (blk_new _ _) _) _
  have a0 : (((w.alloc (.cells #[.slice none 0 0] 62)).alloc (.cells #[.int .i64 0] 3)).alloc (.cells #[.string s] 9)).heap[w.heap.size + 1]? = some (.cells #[.int .i64 0] 3 (0, 0)) := blk_alloc (by simpa using blk_new (w.alloc _) _) _
  have x0 : (((w.alloc (.cells #[.slice none 0 0] 62)).alloc (.cells #[.int .i64 0] 3)).alloc (.cells #[.string s] 9)).heap[w.heap.size + 1 + 1]? = some (.cells #[.string s] 9 (0, 0)) := by simpa using blk_new ((w.alloc _).alloc _) _
  have z0 : (((w.alloc (.cells #[.slice none 0 0] 62)).alloc (.cells #[.int .i64 0] 3)).alloc (.cells #[.string s] 9)).heap.size = w.heap.size + 3 := by simp
  obtain ⟨B, hB⟩ : ∃ B, B = w.heap.size := ⟨_, rfl⟩
  rw [← hB] at x0 l0 a0 z0 ⊢
  have HB := Lib.hid hB
  clear hB
  generalize (((w.alloc (.cells #[.slice none 0 0] 62)).alloc (.cells #[.int .i64 0] 3)).alloc (.cells #[.string s] 9)) = w0 at K0 x0 l0 a0 z0 ⊢
  refine wp_rangeT (gf := 52) (Bx := B + 1 + 1) rfl (enters_of Tryd.func52 (by kernel_rfl) rfl) (each_stops 8 (by decide) (B + 1 + 1) s (by omega) w0 x0) (by omega) (fun _ => rfl)
    (fun pre W => (Keeps [] w W ∧ w0.heap.size ≤ W.heap.size) ∧ W.heap[B + 1]? = some (.cells #[.int .i64 (endV pre)] 3 (0, 0)) ∧ ∃ v, W.heap[B]? = some (.cells #[v] 62 (0, 0)) ∧ RowT W w0.heap.size v pre ∧ (pre = [] → v = .slice none 0 0))
    (fun _ _ _ => False)
    (fun s' A B' row hs hg hr => ⟨⟨keeps_survive hg hr (by have := HB.out; omega) hs.1.1, Nat.le_trans hs.1.2 hg.size⟩, cells_survive hg hr hs.2.1, hs.2.2.imp fun v h => ⟨cells_survive hg hr h.1, rowT_survive hg hr h.2.1, h.2.2⟩⟩)
    (fun _ _ _ _ _ hs _ _ => hs) ⟨⟨K0, Nat.le_refl _⟩, a0, _, l0, rowT_nil _ _, fun _ => rfl⟩
    (fun x a' W => ∃ X, BoxT w0.heap.size x W X ∧ a' = { tmps := #[.string s, undef, .slice none 0 0, .int .i64 0, .int .i64 0, .pointer (some ⟨B, 0, none⟩), .pointer (some ⟨B + 1, 0, none⟩), .pointer (some ⟨X, 0, none⟩), .string s, .func (.func 52) #[] #[.pointer (some ⟨B + 1 + 1, 0, none⟩)], tkV x, undef, undef, undef, undef, undef, undef, undef, undef, undef, undef, undef, undef, undef, undef, undef, undef, undef, undef, undef, undef, undef, undef, undef], defers := [] })
    (fun x a' s' A B' row hs hg hr => hs.imp fun X h => ⟨⟨h.1.1, cells_survive hg hr h.1.2⟩, h.2⟩)
    ?assign ?body ?done ?stop
  case assign =>
    rintro lp pre ⟨kd, at_, tx, nu⟩ W K ⟨⟨hK, hsz⟩, hat, v, hv, hrow, hnil⟩ hKK
    simp only [tkV]
    have hKK' := Lib.hid hKK
    have HV := Lib.hid (And.intro hv (And.intro hrow (And.intro hnil hat)))
    have hBW : B + 1 + 1 < W.heap.size := by omega
    clear hKK hv hrow hnil x0 l0 a0 hat
    gi_wp2
    refine hKK'.out _ _ ((KeepsOthers.alloc _ _).from _) (kpT_alloc _ _ _ hBW) ⟨⟨hK.alloc _, by simp; omega⟩, blk_alloc HV.out.2.2.2 _, v, blk_alloc HV.out.1 _, rowT_alloc HV.out.2.1 _, HV.out.2.2.1⟩ ⟨W.heap.size, ⟨?_, blk_new _ _⟩, rfl⟩
    omega
  case body =>
    rintro lp pre x a' W ⟨⟨hK, hsz⟩, hat, v, hv, hrow, hnil⟩ ⟨X, ⟨hX1, hX2⟩, rfl⟩ hlen
    obtain ⟨kd, at_, tx, nu⟩ := x
    simp only [cellsT] at hX2
    have c0 : W.cell? ⟨X, 0, none⟩ = some (.int .i64 kd) := cell_blk hX2 0
    have c1 : W.cell? ⟨X, 1, none⟩ = some (.int .i64 at_) := cell_blk hX2 1
    have c2 : W.cell? ⟨X, 2, none⟩ = some (.string ⟨tx.toArray⟩) := cell_blk hX2 2
    have c3 : W.cell? ⟨X, 3, none⟩ = some (.int .i64 nu) := cell_blk hX2 3
    have d0 : W.cell? ⟨B, 0, none⟩ = some v := cell_blk hv 0
    have f0 : W.frozen? ⟨B, 0, none⟩ = false := free_blk hv 0
    obtain ⟨i0, hi, hz0, hz1, hz2⟩ := info_parts info28
    have HV := Lib.hid hv
    have HR := Lib.hid hrow
    have HX := Lib.hid hX2
    have HK := Lib.hid hK
    have HAT := Lib.hid hat
    have hl := eachL_len s.data.toList
    have hl2 : s.data.toList.length = s.size := by simp
    have hlen2 : pre.length + 1 ≤ 1000000 := by omega
    have HLN := Lib.hid (And.intro hlen hlen2)
    have HNIL := Lib.hid hnil
    have hBW : B + 1 < W.heap.size := blk_lt hat
    have hXW := blk_lt hX2
    clear hv hrow hX2 hK hl hl2 hlen hlen2 x0 l0 a0 hnil hat
    gi_wp2_with (gi_at_builtin; refine wpListIn_append_fine _ rfl _ _ 62 rfl w0.heap.size 69 i0 _ 4 40 Tryd.underlying62 hi hz0 hz1 hz2 rfl (by decide) v pre.length _ rfl (rowT_alloc HR.out _) ⟨W.heap.size, 0, none⟩ 1 1 (cellsT ⟨kd, at_, tx, nu⟩) rfl rfl (World.news_of_block (blk_new W _)) (by simp [cellsT, Value.oneCell']) (by unfold maxLen; have := HLN.out; omega) (by have := HLN.out; omega) (by simp; omega) ?_; intro v' w1 row hown1 hg1 hnl1 hr1; obtain ⟨g', cap', rfl⟩ := ownsRow_succ hown1; have hap := appended (B := B + 1 + 1) (Bl := B) (base := w0.heap.size) (x := ⟨kd, at_, tx, nu⟩) (by omega) (by omega) (by omega) ((Keeps.refl [] W).alloc _) (by omega) HV.out HR.out HNIL.out (by unfold RowT; rw [List.length_append, List.flatMap_append]; exact hown1) hg1 hr1; have e0 : w1.cell? ⟨B, 0, none⟩ = some v := cell_blk hap.1 0; have e1 := free_blk hap.1 0; have hX3 := (Below.heap_setCell w1 ⟨B, 0, none⟩ (.slice (some ⟨g', 0, none⟩) (pre.length + 1) cap') X (show X ≠ B by omega)).symm.trans (hap.2.2.1.2.2 X _ HX.out rfl); have g1 : w1.cell? ⟨X, 1, none⟩ = some (.int .i64 at_) := cell_blk hX3 1; have g2 : w1.cell? ⟨X, 2, none⟩ = some (.string ⟨tx.toArray⟩) := cell_blk hX3 2; have hA3 := (Below.heap_setCell w1 ⟨B, 0, none⟩ (.slice (some ⟨g', 0, none⟩) (pre.length + 1) cap') (B + 1) (show B + 1 ≠ B by omega)).symm.trans (hap.2.2.2.2.2.2 (B + 1) _ HAT.out (by omega) (by omega)); have g3 : w1.cell? ⟨B + 1, 0, none⟩ = some (.int .i64 (endV pre)) := cell_blk hA3 0; have g4 := free_blk hA3 0; clear hX3; have HA3 := Lib.hid hA3; clear hA3; have HO1 := Lib.hid hap; clear hown1 hg1 hr1 hnl1 hap)
    obtain ⟨-, h2, h3, h4, h5, h6, h7⟩ := HO1.out
    have hb := HB.out
    have hA4 := h7 (B + 1) _ HAT.out (by omega) (by omega)
    have h9 := blk_set_same hA4 0 (.int .i64 (wrap64 ((at_ : Int) + (tx.length : Int))))
    refine ⟨h2.trans ((KeepsOthers.setCell _ _ _).from _), kpT_t h3 (kpT_set _ _ hA4 (by omega)), ⟨(h6 w HK.out (by omega)).setCell _ 0 _ (.inr (by omega)), by have := h2.size; simp at this ⊢; omega⟩, ?_, _, blk_set_other h4 _ _ (by simp), rowT_set h5 _ _ (by omega), by simp⟩
    rw [endV_snoc]
    simp only [List.setIfInBounds_toArray, List.set_cons_zero] at h9
    exact h9
  case stop =>
    intro D c pre W _ _ h
    exact h.elim
  case done =>
    rintro D ys W hD rfl ⟨⟨hK, hsz⟩, hat, v, hv, hrow, -⟩ hDb
    have hL : s.data.toList.length = s.size := by simp
    obtain ⟨g1, g2, g3⟩ := lex_end s.data.toList s.data.toList.length 0 (by omega) (by omega)
    simp only [List.drop_zero, Nat.zero_add] at g1 g2 g3
    rw [← eachL_eq] at g1 g2 g3
    rw [endV_eq _ (by omega) _ g3] at hat
    have d0 : W.cell? ⟨B, 0, none⟩ = some v := cell_blk hv 0
    have hlx : lexL s.data.toList = if (eachL s.data.toList).2 < s.size then ([], (eachL s.data.toList).2, 10) else ((eachL s.data.toList).1, (eachL s.data.toList).2, 0) := by unfold lexL; rw [hL]
    have hex := eachL_end s.data.toList
    have HV := Lib.hid (And.intro hK (And.intro hrow (And.intro hDb (And.intro hv hlx))))
    have HG := Lib.hid g2
    generalize (eachL s.data.toList).2 = E at hex HV HG
    generalize endFrom 0 (eachL s.data.toList).1 = A at g1 hat HG
    generalize (eachL s.data.toList).1 = ts at HV g3 hrow
    have c0 : W.cell? ⟨B + 1, 0, none⟩ = some (.int .i64 A) := cell_blk hat 0
    have f0 := free_blk hat 0
    have HA := Lib.hid hat
    have hAs : (A : Int) ≤ (s.size : Int) := by omega
    have hsk : (A : Int) + (skp false (s.data.toList.drop A) : Nat) ≤ (s.size : Int) := by have := HG.out; omega
    have e1 : IntKind.i64.wrap ((A : Int) + ((skp false (s.data.toList.drop A) : Nat) : Int)) = (A : Int) + ((skp false (s.data.toList.drop A) : Nat) : Int) := IntWalk.i64_in _ (by omega)
    clear hK hv hrow hDb x0 l0 a0 g1 g2 g3 hlx hat hL
    go_wp2_with fail
    go_still_tail 6, (by kernel_rfl)
    still_call ((skip_any (s.extract A s.size) (by rw [tail_size]; omega) _).mono fun e w' ⟨h1, h2⟩ => ⟨h1, h2.symm⟩)
    rw [tail_data]
    repeat still_step
    refine wpStill_nil ?_
    refine name_drew_list (w := W) ?_
    rintro W2 K2 -
    rw [show (A : Int) + ((skp false (s.data.toList.drop A) : Nat) : Int) = (E : Nat) from by have := HG.out; omega]
    obtain ⟨hK, hrow, hDb, hv, hlx⟩ := HV.out
    have hA2 := K2.blk HA.out (by simp)
    have c2 : W2.cell? ⟨B + 1, 0, none⟩ = some (.int .i64 A) := cell_blk hA2 0
    have f2 := free_blk hA2 0
    have v2 : W2.cell? ⟨B, 0, none⟩ = some v := cell_blk (K2.blk hv (by simp)) 0
    have hE : E ≤ s.size := by have := HG.out; omega
    have HF : Hid (∀ u, Keeps [] w (W2.setCell ⟨B + 1, 0, none⟩ u) ∧ RowT (W2.setCell ⟨B + 1, 0, none⟩ u) w0.heap.size v ts ∧ (W2.setCell ⟨B + 1, 0, none⟩ u).heap[D]? = some (.deferred (some []))) := Lib.hid (fun u => by
      have hb := HB.out
      refine ⟨(hK.trans K2).setCell _ 0 _ (.inr (by omega)), rowT_set (World.ownsRow.kept hrow (keeps_grown K2) (by cases v.ownBlock <;> simp)) _ _ (by omega), blk_set_other (K2.blk hDb (by simp)) _ _ (by simp; omega)⟩)
    have HLX := Lib.hid hlx
    have HA2 := Lib.hid hA2
    have HV2 := Lib.hid (K2.blk hv (by simp))
    have hw0 := K0.size
    clear hK hrow hDb hv hlx hA2 c0 f0 d0 e1 HA HV HG K2 hsk
    by_cases hlt : E < s.size
    · have t1 : (E : Int) < (s.size : Int) := by omega
      have t2 : decide (E < s.size) = true := by simpa using hlt
      have HLT := Lib.hid hlt
      clear hlt
      go_wp2_with fail
      have c3 : (W2.setCell ⟨B + 1, 0, none⟩ (.int .i64 E)).cell? ⟨B + 1, 0, none⟩ = some (.int .i64 E) := cell_blk (by simpa using blk_set_same HA2.out 0 (.int .i64 E)) 0
      have v3 : (W2.setCell ⟨B + 1, 0, none⟩ (.int .i64 E)).cell? ⟨B, 0, none⟩ = some v := cell_blk (blk_set_other HV2.out _ _ (by simp)) 0
      have HF3 := Lib.hid (HF.out (.int .i64 E))
      clear HF c2 f2 v2 HA2 HV2
      generalize (W2.setCell ⟨B + 1, 0, none⟩ (.int .i64 E)) = W3 at c3 v3 HF3 ⊢
      go_quiet (fail)
      obtain ⟨hK, hrow, hDb⟩ := HF3.out
      have K4 : Keeps [] W3 (W3.drewN nq) := (Keeps.refl _ _).drewN _
      have hD4 := K4.blk hDb (by simp)
      have hrow4 := World.ownsRow.kept hrow (keeps_grown K4) (by cases v.ownBlock <;> simp)
      have HF4 := Lib.hid (And.intro (hK.trans K4) (And.intro hrow4 hD4))
      clear hK hrow hDb K4 hD4 hrow4 HF3
      generalize W3.drewN nq = W4 at HF4 ⊢
      go_wp2
      obtain ⟨hK, hrow, hDb⟩ := HF4.out
      rw [HLX.out, if_pos HLT.out]
      refine ⟨by simp, .inl ⟨_, _, rfl, run_takeDeferred hDb, ?_⟩⟩
      exact ⟨.tuple #[.slice none 0 0, .int .i64 E, .int .i64 10], by simp [results, Tryd.results30, go_sem], _, rfl, rowT_nil _ _, keeps_put hK _ (by omega)⟩
    · have t1 : ¬ (E : Int) < (s.size : Int) := by omega
      have t2 : decide (E < s.size) = false := by simpa using hlt
      have HLT := Lib.hid hlt
      clear hlt
      go_wp2_with fail
      have c3 : (W2.setCell ⟨B + 1, 0, none⟩ (.int .i64 E)).cell? ⟨B + 1, 0, none⟩ = some (.int .i64 E) := cell_blk (by simpa using blk_set_same HA2.out 0 (.int .i64 E)) 0
      have v3 : (W2.setCell ⟨B + 1, 0, none⟩ (.int .i64 E)).cell? ⟨B, 0, none⟩ = some v := cell_blk (blk_set_other HV2.out _ _ (by simp)) 0
      have HF3 := Lib.hid (HF.out (.int .i64 E))
      clear HF c2 f2 v2 HA2 HV2
      generalize (W2.setCell ⟨B + 1, 0, none⟩ (.int .i64 E)) = W3 at c3 v3 HF3 ⊢
      go_quiet (fail)
      obtain ⟨hK, hrow, hDb⟩ := HF3.out
      have K4 : Keeps [] W3 (W3.drewN nq) := (Keeps.refl _ _).drewN _
      have hD4 := K4.blk hDb (by simp)
      have hrow4 := World.ownsRow.kept hrow (keeps_grown K4) (by cases v.ownBlock <;> simp)
      have HF4 := Lib.hid (And.intro (hK.trans K4) (And.intro hrow4 hD4))
      clear hK hrow hDb K4 hD4 hrow4 HF3
      generalize W3.drewN nq = W4 at HF4 ⊢
      go_wp2
      obtain ⟨hK, hrow, hDb⟩ := HF4.out
      rw [HLX.out, if_neg HLT.out]
      refine ⟨by simp, .inl ⟨_, _, rfl, run_takeDeferred hDb, ?_⟩⟩
      exact ⟨.tuple #[v, .int .i64 E, .int .i64 0], by simp [results, Tryd.results30, go_sem], _, rfl, rowT_lower (rowT_put hrow hDb rfl) (by omega), keeps_put hK _ (by omega)⟩
end Go.Proofs.YtefdcjmfbjlinaaDoor.Sc
