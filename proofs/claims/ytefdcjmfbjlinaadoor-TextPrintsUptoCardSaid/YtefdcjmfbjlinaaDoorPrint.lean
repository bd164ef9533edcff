/- text.Line: what its inner function does. -/
import Derived.Test.YtefdcjmfbjlinaaDoorRow
import Derived.Test.YtefdcjmfbjlinaaDoorShf
import Derived.Deep.RegionLaw
import Derived.Lib.AppendIntMem
import Derived.Lib.ItoaLen
import Derived.Test.YtefdcjmfbjlinaaDoorAny
import Derived.Test.YtefdcjmfbjlinaaDoorCheckall
import Derived.Deep.LoopGhost
namespace Go.Proofs.YtefdcjmfbjlinaaDoor.Sc
open Go.RowKit Go.Shelf

/-- The table of strconv stands as its initialiser lays it. -/
def Tab (w : World) : Prop := Lib.TabIs Tryd.prog w "internal/strconv.uint64pow10" .u64 Lib.pow10Tab
theorem Tab.below {w w' : World} {B : Nat} (h : Tab w) (hb : Below B w w') (hB : w.heap.size ≤ B) : Tab w' :=
  Lib.tabBelow_of_tabIs h w' ⟨hb.os, hb.tape, hb.output, hb.size, fun k hk => hb.block k (by omega)⟩
theorem Tab.blocks {w w' : World} (h : Tab w) (hs : w.heap.size ≤ w'.heap.size) (hb : ∀ k, k < w.heap.size → w'.heap[k]? = w.heap[k]?) (h1 : w'.os = w.os) (h2 : w'.tape = w.tape) (h3 : w'.output = w.output) : Tab w' :=
  h.below (B := w.heap.size) ⟨h1, h2, h3, hs, hb⟩ (Nat.le_refl _)
theorem own_below {W W' : World} {base e size : Nat} {v : Value} {n : Nat} {xs : List Value} (h : W.ownsRow base e size v n xs) (hb : Below W.heap.size W W') : W'.ownsRow base e size v n xs :=
  h.kept (row := none) ⟨hb.os, hb.tape, hb.output, hb.size, fun k hk _ => hb.block k hk⟩ (Classical.em _)

theorem own_grown_below {U W W' : World} {base e size : Nat} {v : Value} {n : Nat} {xs : List Value} (h : W.ownsRow base e size v n xs) (hg : U.grownBy W' v.ownBlock) (hB : base ≤ U.heap.size) : Below base U W' := by
  rcases h.2 with ⟨rfl, _⟩ | ⟨g, cap, cur, rfl, hge, _⟩
  · exact ⟨hg.os, hg.tape, hg.output, hg.size, fun k hk => hg.block k (by omega) (by simp [Value.ownBlock])⟩
  · exact ⟨hg.os, hg.tape, hg.output, hg.size, fun k hk => hg.block k (by omega) (by simp [Value.ownBlock]; omega)⟩
theorem own_set {W : World} {base e size : Nat} {v : Value} {n : Nat} {xs : List Value} (h : W.ownsRow base e size v n xs) (b off : Nat) (u : Value) (hne : v.ownBlock ≠ some b) : (W.setCell ⟨b, off, none⟩ u).ownsRow base e size v n xs :=
  h.kept (row := some b) ⟨rfl, rfl, rfl, by simp [World.setCell], fun k _ hk => Below.heap_setCell _ _ _ _ (fun e => hk (by simp [e]))⟩ (Or.inr hne)
theorem below_less {B C : Nat} {w w' : World} (h : Below C w w') (hB : B ≤ C) : Below B w w' := ⟨h.os, h.tape, h.output, h.size, fun k hk => h.block k (by omega)⟩

theorem step_call {P : Program} {ops : Array Oper} {o : Oper} {a : Act} {w : World} {K : Act → World → Prop} {Q : Exit → Act → World → Prop} {E : Prop}
    (hg : o.guard = none) (f : FuncId) (xs : Array Operand) (ts : Array TypeId) (he : ∀ args w, (callFunc f args).run P w = .ok (.enter f args) w) (args : Array Value) (hop : o.op = .call { callee := .value (.func f), args := xs, argTypes := ts }) (hargs : xs.map a.eval = args)
    {R : Ending → World → Prop} (hc : Calls P f args w R) (hK : ∀ e w', R e w' → ∃ v, e = .returned v ∧ K (a.put o.dst v) w') :
    if Region.wanted o (yielded ops a.tmps) = true then Oper.wp P o a w K Q else E := by
  have hw : Region.wanted o (yielded ops a.tmps) = true := by simp [Region.wanted, hg]
  rw [if_pos hw]
  have hrun : (execOp a.eval o).run P w = .ok (.enter f args) w := by
    unfold execOp
    simp [hop, resolve, Deferred.ofValue, invoke, Act.eval, hargs, he]
  unfold Oper.wp
  rw [hrun, Oper.upon_enter]
  refine hc.mono fun e w' h => ?_
  obtain ⟨v, rfl, hk⟩ := hK e w' h
  exact hk
theorem step_append_own {P : Program} {ops : Array Oper} {o : Oper} {a : Act} {w : World} {K : Act → World → Prop} {Q : Exit → Act → World → Prop} {E : Prop}
    (hg : o.guard = none) (s x : Operand) (t : TypeId) (hop : o.op = Op.call { callee := Callee.builtin Builtin.append, args := #[s, x], argTypes := #[t, t] })
    (B : Nat) (e : TypeId) (i : TypeInfo) (z : Value) (size bytes : Nat) (h1 : P.underlying t = some (.slice e)) (h2 : P.info? e = some i) (h3 : i.zero = some z) (h4 : i.size = size) (h5 : i.bytes = bytes) (h6 : z.cells.size = size) (h7 : 0 < size)
    (v : Value) (n : Nat) (xs : List Value) (hs : a.eval s = v) (hown : w.ownsRow B e size v n xs)
    (ad : Addr) (m c : Nat) (news : List Value) (hx : a.eval x = .slice (some ad) m c) (hn : news.length = m * size) (hc : ∀ j u, news[j]? = some u → w.cell? (ad.add j) = some u) (h1c : ∀ u ∈ news, u.oneCell' = true)
    (b1 : n + m ≤ maxLen) (b2 : (n + m) * bytes ≤ 140737488355328) (hB : B ≤ w.heap.size)
    (hK : ∀ v' w', w'.ownsRow B e size v' (n + m) (xs ++ news) → w.grownBy w' v.ownBlock → K (a.put o.dst v') w') :
    if Region.wanted o (yielded ops a.tmps) = true then Oper.wp P o a w K Q else E := by
  have hw : Region.wanted o (yielded ops a.tmps) = true := by simp [Region.wanted, hg]
  rw [if_pos hw]
  obtain ⟨v', w', hrun, r1, r2, _⟩ := run_append_own (P := P) w B t o.type e i z size bytes h1 h2 h3 h4 h5 h6 h7 v n xs hown ad m c news hn hc h1c b1 b2 hB
  unfold Oper.wp
  simp [execOp, hop, resolve, invoke, builtin, hs, hx, hrun, Result.andThen]
  exact hK v' w' r1 r2

theorem iS : (Tryd.prog.info? 9).map (fun i => (i.zero, i.size, i.bytes)) = some (some (.string ⟨#[]⟩), 1, 16) := by kernel_rfl
/-- A word and a number, as a field is written. -/
def fldS (word : ByteArray) (n : Int) : ByteArray := (word ++ (⟨#[61]⟩ : ByteArray)) ++ (⟨(Lib.itoa n).toArray⟩ : ByteArray)
def PutPost (B X : Nat) (ws : List ByteArray) (y : ByteArray) (w : World) (r : Ending) (w' : World) : Prop :=
  r = .returned (.tuple #[]) ∧ ∃ v', w'.heap[X]? = some (.cells #[v'] 54 (0, 0)) ∧ w'.ownsRow B 9 1 v' (ws.length + 1) ((ws ++ [y]).map Value.string) ∧ Below B w w'

theorem ebFmt : ∀ args w, (callFunc 25 args).run Tryd.prog w = .ok (.enter 25 args) w := fun _ _ => by kernel_rfl
set_option maxHeartbeats 4000000 in
set_option maxRecDepth 100000 in
theorem put_any (B X : Nat) (word : ByteArray) (n : Int) (v : Value) (ws : List ByteArray) (w : World) (hX : w.heap[X]? = some (.cells #[v] 54 (0, 0))) (hown : w.ownsRow B 9 1 v ws.length (ws.map Value.string))
    (h0 : -9223372036854775808 ≤ n) (h1 : n ≤ 9223372036854775807) (hws : ws.length ≤ 1000) (hword : word.size ≤ 1000) (hBX : B ≤ X) (HT : Tab w) :
    Calls Tryd.prog 24 #[.string word, .int .i64 n, .pointer (some ⟨X, 0, none⟩)] w (PutPost B X ws (fldS word n) w) := by
  have hlt := blk_lt hX
  obtain ⟨i0, hi, hz0, hz1, hz2⟩ : ∃ i0, Tryd.prog.info? 9 = some i0 ∧ i0.zero = some (.string ⟨#[]⟩) ∧ i0.size = 1 ∧ i0.bytes = 16 := by
    have h := iS
    cases hh : Tryd.prog.info? 9 with
    | none => rw [hh] at h; cases h
    | some i0 =>
      rw [hh] at h
      simp only [Option.map_some, Option.some.injEq, Prod.mk.injEq] at h
      exact ⟨i0, rfl, h.1, h.2.1, h.2.2⟩
  have hli := Lib.itoa_length_le n h0 h1
  have hsz : (word ++ (⟨#[61]⟩ : ByteArray)).size = word.size + 1 := by rw [ByteArray.size_append]; rfl
  have hsz2 : (⟨(Lib.itoa n).toArray⟩ : ByteArray).size = (Lib.itoa n).length := by simp [ByteArray.size]
  have g1 : (9223372036854775807 < word.size + 1) = False := eq_false (by omega)
  have g2 : (9223372036854775807 < word.size + 1 + (Lib.itoa n).length) = False := eq_false (by omega)
  have hcx : w.cell? ⟨X, 0, none⟩ = some v := cell_blk hX 0
  have HX := Lib.hid hX
  have HOWN := Lib.hid hown
  have HTT := Lib.hid HT
  have HI := Lib.hid hi
  clear hX hown HT
  go_enter Tryd.func24, Tryd.ntmps24
  go_wp2_with fail
  go_region_law
    ((first
      | (refine step_call (by rfl) 25 _ _ ebFmt #[.int .i64 n, .int .i64 10] (by rfl) (by simp only [List.map_toArray, List.map_cons, List.map_nil]; rfl) (Tryd.strconv_FormatInt_10 n h0 h1 _ (by exact HTT.out)) ?_; rintro e w1 ⟨rfl, hw1⟩; have hb1 : Below w.heap.size w w1 := (by obtain ⟨k1, os1, rfl⟩ := hw1; exact (Below.refl _ _).drew.trans (Lib.below_grow w.heap.size w.drew (Nat.le_refl _) k1 os1)); clear hw1; have HX1 := Lib.hid (blk_below hb1 HX.out hlt); have hcx1 : w1.cell? ⟨X, 0, none⟩ = some v := cell_blk HX1.out 0; have hca1 : (w1.alloc (.cells #[.string ((word ++ (⟨#[61]⟩ : ByteArray)) ++ (⟨(Lib.itoa n).toArray⟩ : ByteArray))] 9)).cell? ⟨X, 0, none⟩ = some v := cell_blk (blk_alloc HX1.out _) 0; have HOWN1 := Lib.hid (own_below HOWN.out hb1); refine ⟨_, rfl, ?_⟩)
      | (refine step_append_own (by rfl) (.tmp 5) (.tmp 11) 54 (by rfl) B 9 i0 _ 1 16 Tryd.underlying54 HI.out hz0 hz1 hz2 (by rfl) (by decide) v ws.length (ws.map Value.string) (by rfl) (by exact own_below HOWN1.out ((Below.refl _ _).alloc (Nat.le_refl _) _)) ⟨w1.heap.size, 0, none⟩ 1 1 [.string (fldS word n)] (by rfl) (by rfl) (by exact World.news_of_block (blk_new w1 _)) (by simp [Value.oneCell']) (by unfold maxLen; omega) (by omega) (by have := hb1.size; simp; omega) ?_; intro v2 w2 hown2 hgrow2; obtain ⟨g2, cap2, rfl, hg2, hg2l⟩ := hown2.form (by omega); have HOWN2 := Lib.hid hown2; have HGROW2 := Lib.hid hgrow2; have HX2 := Lib.hid (blk_grown hgrow2 (blk_alloc HX1.out _) (by have := Lib.ownBlock_ne HOWN1.out HX1.out (by decide); exact this)); have hcx2 : w2.cell? ⟨X, 0, none⟩ = some v := cell_blk HX2.out 0; have hfx2 : w2.frozen? ⟨X, 0, none⟩ = false := free_blk HX2.out 0)))
  all_goals
    go_wp2
    go_end0
    have hne := Lib.ownBlock_ne HOWN2.out HX2.out (by decide)
    have hBw : B ≤ w1.heap.size := by have := hb1.size; omega
    refine ⟨rfl, .slice (some ⟨g2, 0, none⟩) (ws.length + 1) cap2, ?_, ?_, ?_⟩
    · have := blk_set_same HX2.out 0 (.slice (some ⟨g2, 0, none⟩) (ws.length + 1) cap2)
      simpa using this
    · rw [List.map_append, List.map_cons, List.map_nil]
      exact own_set HOWN2.out X 0 _ hne
    · refine Below.trans (below_less hb1 (by omega)) (Below.trans ((Below.refl B w1).alloc hBw _) (Below.trans (own_grown_below HOWN1.out HGROW2.out (by simp; omega)) ((Below.refl B w2).setCell (p := ⟨X, 0, none⟩) hBX _)))
end Go.Proofs.YtefdcjmfbjlinaaDoor.Sc
/- text.Line: what it writes. -/
namespace Go.Proofs.YtefdcjmfbjlinaaDoor.Sc
open Go.RowKit Go.Shelf

def wC : ByteArray := ⟨#[99]⟩
def wT : ByteArray := ⟨#[116]⟩
def wD : ByteArray := ⟨#[100]⟩
def wJ : ByteArray := ⟨#[106]⟩
def wQ : ByteArray := ⟨#[113]⟩
def wP : ByteArray := ⟨#[112]⟩
def wsOf (x : Tsk) : List ByteArray := [⟨#[116, 97, 115, 107]⟩, x.nm, fldS wC x.c, fldS wT x.t, fldS wD x.d, fldS wJ x.j, fldS wQ x.q, fldS wP x.p]
def lineS (x : Tsk) : ByteArray := (⟨(Lib.join ((wsOf x).map (·.data.toList)) [32]).toArray⟩ : ByteArray) ++ (⟨#[10]⟩ : ByteArray)
/-- Numbers that fit in 64 bits, and a name of some length. -/
structure Wide (n : Nat) (x : Tsk) : Prop where
  nm : x.nm.size ≤ n
  c : -9223372036854775808 ≤ x.c ∧ x.c ≤ 9223372036854775807
  t : -9223372036854775808 ≤ x.t ∧ x.t ≤ 9223372036854775807
  d : -9223372036854775808 ≤ x.d ∧ x.d ≤ 9223372036854775807
  j : -9223372036854775808 ≤ x.j ∧ x.j ≤ 9223372036854775807
  q : -9223372036854775808 ≤ x.q ∧ x.q ≤ 9223372036854775807
  p : -9223372036854775808 ≤ x.p ∧ x.p ≤ 9223372036854775807
theorem itoa_len {n : Int} (h : -9223372036854775808 ≤ n ∧ n ≤ 9223372036854775807) : (Lib.itoa n).length ≤ 21 := Lib.itoa_length_le n h.1 h.2
theorem fldS_list (w : ByteArray) (n : Int) : (fldS w n).data.toList = w.data.toList ++ 61 :: Lib.itoa n := by simp [fldS]
theorem join_eq (x : Tsk) : Lib.join ((wsOf x).map (·.data.toList)) [32] = [116, 97, 115, 107] ++ (32 :: x.nm.data.toList) ++ (32 :: (wC.data.toList ++ 61 :: Lib.itoa x.c)) ++ (32 :: (wT.data.toList ++ 61 :: Lib.itoa x.t)) ++ (32 :: (wD.data.toList ++ 61 :: Lib.itoa x.d)) ++ (32 :: (wJ.data.toList ++ 61 :: Lib.itoa x.j)) ++ (32 :: (wQ.data.toList ++ 61 :: Lib.itoa x.q)) ++ (32 :: (wP.data.toList ++ 61 :: Lib.itoa x.p)) := by
  simp only [wsOf, List.map_cons, List.map_nil, Lib.join_cons, Lib.joinTail, fldS_list]
  simp
theorem join_len (x : Tsk) (hx : Wide 4000000 x) : (Lib.join ((wsOf x).map (·.data.toList)) [32]).length ≤ 4000200 := by
  rw [join_eq]
  have h1 := itoa_len hx.c
  have h2 := itoa_len hx.t
  have h3 := itoa_len hx.d
  have h4 := itoa_len hx.j
  have h5 := itoa_len hx.q
  have h6 := itoa_len hx.p
  have h7 : x.nm.data.toList.length = x.nm.size := by simp
  have h0 := hx.nm
  simp only [List.length_append, List.length_cons, List.length_nil, wC, wT, wD, wJ, wQ, wP]
  omega
theorem tsk_cells {w : World} {b : Nat} {x : Tsk} (h : w.heap[b]? = some (tskO x)) : w.cell? ⟨b, 1, none⟩ = some (.int .i64 x.c) ∧ w.cell? ⟨b, 2, none⟩ = some (.int .i64 x.t) ∧ w.cell? ⟨b, 3, none⟩ = some (.int .i64 x.d) ∧ w.cell? ⟨b, 4, none⟩ = some (.int .i64 x.j) ∧ w.cell? ⟨b, 5, none⟩ = some (.int .i64 x.q) ∧ w.cell? ⟨b, 6, none⟩ = some (.int .i64 x.p) :=
  ⟨cell_blk h 1, cell_blk h 2, cell_blk h 3, cell_blk h 4, cell_blk h 5, cell_blk h 6⟩
set_option maxHeartbeats 4000000 in
set_option maxRecDepth 100000 in
theorem line_any (x : Tsk) (w : World) (hx : Wide 4000000 x) (HT : Tab w) :
    Calls Tryd.prog 11 #[tskV x] w fun r w' => r = .returned (.string (lineS x)) ∧ Below w.heap.size w w' := by
  obtain ⟨hn, hc, ht, hd, hj, hq, hp⟩ := hx
  have HX0 : ∃ W, W = (((w.alloc (tskO x)).alloc (.cells #[.string ⟨#[116, 97, 115, 107]⟩, .string x.nm] 9)).alloc (.cells #[.slice (some ⟨w.heap.size + 1, 0, none⟩) 2 2] 54)) := ⟨_, rfl⟩
  obtain ⟨W0, hW0⟩ := HX0
  have hS0 : W0.heap.size = w.heap.size + 3 := by rw [hW0]; simp
  have hT0 : W0.heap[w.heap.size]? = some (tskO x) := by rw [hW0]; exact blk_alloc (blk_alloc (blk_new w _) _) _
  have hX0 : W0.heap[w.heap.size + 1 + 1]? = some (.cells #[.slice (some ⟨w.heap.size + 1, 0, none⟩) 2 2] 54 (0, 0)) := by
    have := blk_new ((w.alloc (tskO x)).alloc (.cells #[.string ⟨#[116, 97, 115, 107]⟩, .string x.nm] 9)) (.cells #[.slice (some ⟨w.heap.size + 1, 0, none⟩) 2 2] 54)
    rw [hW0]
    simpa using this
  have hO0 : W0.ownsRow (w.heap.size + 1) 9 1 (.slice (some ⟨w.heap.size + 1, 0, none⟩) 2 2) (([⟨#[116, 97, 115, 107]⟩, x.nm] : List ByteArray).length) (([⟨#[116, 97, 115, 107]⟩, x.nm] : List ByteArray).map Value.string) := by
    have h2 := blk_alloc (blk_new (w.alloc (tskO x)) (.cells #[.string ⟨#[116, 97, 115, 107]⟩, .string x.nm] 9)) (.cells #[.slice (some ⟨w.heap.size + 1, 0, none⟩) 2 2] 54)
    rw [show (w.alloc (tskO x)).heap.size = w.heap.size + 1 by simp, ← hW0] at h2
    exact ⟨rfl, .inr ⟨w.heap.size + 1, 2, #[.string ⟨#[116, 97, 115, 107]⟩, .string x.nm], rfl, Nat.le_refl _, h2, Nat.le_refl _, by unfold maxLen; decide, rfl, rfl⟩⟩
  have hB0 : Below w.heap.size w W0 := by
    rw [hW0]
    exact (((Below.refl _ w).alloc (Nat.le_refl _) _).alloc (by simp) _).alloc (by simp; omega) _
  have hTab0 : Tab W0 := HT.below hB0 (Nat.le_refl _)
  have HX0 := Lib.hid hX0
  have HT0 := Lib.hid hT0
  have HO0 := Lib.hid hO0
  have HB0 := Lib.hid hB0
  have HTAB0 := Lib.hid hTab0
  have HTW := Lib.hid HT
  have HS0 := Lib.hid hS0
  have HW0 := Lib.hid hW0
  clear hX0 hO0 hB0 hTab0 hS0 hT0 hW0 HT
  have HLT := Lib.hid (show w.heap.size + 3 ≤ W0.heap.size by rw [HS0.out]; omega)
  unfold tskV
  go_enter Tryd.func11, Tryd.ntmps11
  go_wp2_with fail
  rw [show (((w.alloc (.cells #[.string x.nm, .int .i64 x.c, .int .i64 x.t, .int .i64 x.d, .int .i64 x.j, .int .i64 x.q, .int .i64 x.p] 29)).alloc (.cells #[.string ⟨#[116, 97, 115, 107]⟩, .string x.nm] 9)).alloc (.cells #[.slice (some ⟨w.heap.size + 1, 0, none⟩) 2 2] 54)) = W0 from HW0.out.symm]
  clear HW0 HS0
  refine (put_any (w.heap.size + 1) (w.heap.size + 1 + 1) wC x.c _ ([⟨#[116, 97, 115, 107]⟩, x.nm] : List ByteArray) W0 HX0.out HO0.out hc.1 hc.2 (by simp) (by decide) (by omega) HTAB0.out).mono ?_
  rintro r W1 ⟨rfl, v1, hX1, hO1, hB1⟩
  have hT1 := blk_below hB1 HT0.out (by omega)
  have HLT1 := Lib.hid (show w.heap.size + 3 ≤ W1.heap.size by have := hB1.size; have := HLT.out; omega)
  have HBW1 := Lib.hid (HB0.out.trans (below_less hB1 (by omega)))
  have HB1 := HBW1
  have HTAB1 := Lib.hid (HTW.out.below HB1.out (Nat.le_refl _))
  obtain ⟨c1, c2, c3, c4, c5, c6⟩ := tsk_cells hT1
  have HX1 := Lib.hid hX1
  have HO1 := Lib.hid (show W1.ownsRow (w.heap.size + 1) 9 1 v1 (([⟨#[116, 97, 115, 107]⟩, x.nm] : List ByteArray).length + 1) ((([⟨#[116, 97, 115, 107]⟩, x.nm] : List ByteArray) ++ [fldS wC x.c]).map Value.string) from hO1)
  have HT1 := Lib.hid hT1
  have hcx := cell_blk HX1.out 0
  clear hX1 hO1 hT1 HX0 HO0 HT0 HTAB0
  go_wp2_with fail
  clear c1 c2 c3 c4 c5 c6 hcx
  refine (put_any (w.heap.size + 1) (w.heap.size + 1 + 1) wT x.t _ ([⟨#[116, 97, 115, 107]⟩, x.nm, fldS wC x.c] : List ByteArray) W1 HX1.out HO1.out ht.1 ht.2 (by simp) (by decide) (by omega) HTAB1.out).mono ?_
  rintro r W2 ⟨rfl, v2, hX2, hO2, hB2⟩
  have hT2 := blk_below hB2 HT1.out (by omega)
  have HLT2 := Lib.hid (show w.heap.size + 3 ≤ W2.heap.size by have := hB2.size; have := HLT1.out; omega)
  have HBW2 := Lib.hid (HB1.out.trans (below_less hB2 (by omega)))
  have HB2 := HBW2
  have HTAB2 := Lib.hid (HTW.out.below HB2.out (Nat.le_refl _))
  obtain ⟨c1, c2, c3, c4, c5, c6⟩ := tsk_cells hT2
  have HX2 := Lib.hid hX2
  have HO2 := Lib.hid (show W2.ownsRow (w.heap.size + 1) 9 1 v2 (([⟨#[116, 97, 115, 107]⟩, x.nm, fldS wC x.c] : List ByteArray).length + 1) ((([⟨#[116, 97, 115, 107]⟩, x.nm, fldS wC x.c] : List ByteArray) ++ [fldS wT x.t]).map Value.string) from hO2)
  have HT2 := Lib.hid hT2
  have hcx := cell_blk HX2.out 0
  clear hX2 hO2 hT2 HX1 HO1 HT1 HTAB1
  go_wp2_with fail
  clear c1 c2 c3 c4 c5 c6 hcx
  refine (put_any (w.heap.size + 1) (w.heap.size + 1 + 1) wD x.d _ ([⟨#[116, 97, 115, 107]⟩, x.nm, fldS wC x.c, fldS wT x.t] : List ByteArray) W2 HX2.out HO2.out hd.1 hd.2 (by simp) (by decide) (by omega) HTAB2.out).mono ?_
  rintro r W3 ⟨rfl, v3, hX3, hO3, hB3⟩
  have hT3 := blk_below hB3 HT2.out (by omega)
  have HLT3 := Lib.hid (show w.heap.size + 3 ≤ W3.heap.size by have := hB3.size; have := HLT2.out; omega)
  have HBW3 := Lib.hid (HB2.out.trans (below_less hB3 (by omega)))
  have HB3 := HBW3
  have HTAB3 := Lib.hid (HTW.out.below HB3.out (Nat.le_refl _))
  obtain ⟨c1, c2, c3, c4, c5, c6⟩ := tsk_cells hT3
  have HX3 := Lib.hid hX3
  have HO3 := Lib.hid (show W3.ownsRow (w.heap.size + 1) 9 1 v3 (([⟨#[116, 97, 115, 107]⟩, x.nm, fldS wC x.c, fldS wT x.t] : List ByteArray).length + 1) ((([⟨#[116, 97, 115, 107]⟩, x.nm, fldS wC x.c, fldS wT x.t] : List ByteArray) ++ [fldS wD x.d]).map Value.string) from hO3)
  have HT3 := Lib.hid hT3
  have hcx := cell_blk HX3.out 0
  clear hX3 hO3 hT3 HX2 HO2 HT2 HTAB2
  go_wp2_with fail
  clear c1 c2 c3 c4 c5 c6 hcx
  refine (put_any (w.heap.size + 1) (w.heap.size + 1 + 1) wJ x.j _ ([⟨#[116, 97, 115, 107]⟩, x.nm, fldS wC x.c, fldS wT x.t, fldS wD x.d] : List ByteArray) W3 HX3.out HO3.out hj.1 hj.2 (by simp) (by decide) (by omega) HTAB3.out).mono ?_
  rintro r W4 ⟨rfl, v4, hX4, hO4, hB4⟩
  have hT4 := blk_below hB4 HT3.out (by omega)
  have HLT4 := Lib.hid (show w.heap.size + 3 ≤ W4.heap.size by have := hB4.size; have := HLT3.out; omega)
  have HBW4 := Lib.hid (HB3.out.trans (below_less hB4 (by omega)))
  have HB4 := HBW4
  have HTAB4 := Lib.hid (HTW.out.below HB4.out (Nat.le_refl _))
  obtain ⟨c1, c2, c3, c4, c5, c6⟩ := tsk_cells hT4
  have HX4 := Lib.hid hX4
  have HO4 := Lib.hid (show W4.ownsRow (w.heap.size + 1) 9 1 v4 (([⟨#[116, 97, 115, 107]⟩, x.nm, fldS wC x.c, fldS wT x.t, fldS wD x.d] : List ByteArray).length + 1) ((([⟨#[116, 97, 115, 107]⟩, x.nm, fldS wC x.c, fldS wT x.t, fldS wD x.d] : List ByteArray) ++ [fldS wJ x.j]).map Value.string) from hO4)
  have HT4 := Lib.hid hT4
  have hcx := cell_blk HX4.out 0
  clear hX4 hO4 hT4 HX3 HO3 HT3 HTAB3
  go_wp2_with fail
  clear c1 c2 c3 c4 c5 c6 hcx
  refine (put_any (w.heap.size + 1) (w.heap.size + 1 + 1) wQ x.q _ ([⟨#[116, 97, 115, 107]⟩, x.nm, fldS wC x.c, fldS wT x.t, fldS wD x.d, fldS wJ x.j] : List ByteArray) W4 HX4.out HO4.out hq.1 hq.2 (by simp) (by decide) (by omega) HTAB4.out).mono ?_
  rintro r W5 ⟨rfl, v5, hX5, hO5, hB5⟩
  have hT5 := blk_below hB5 HT4.out (by omega)
  have HLT5 := Lib.hid (show w.heap.size + 3 ≤ W5.heap.size by have := hB5.size; have := HLT4.out; omega)
  have HBW5 := Lib.hid (HB4.out.trans (below_less hB5 (by omega)))
  have HB5 := HBW5
  have HTAB5 := Lib.hid (HTW.out.below HB5.out (Nat.le_refl _))
  obtain ⟨c1, c2, c3, c4, c5, c6⟩ := tsk_cells hT5
  have HX5 := Lib.hid hX5
  have HO5 := Lib.hid (show W5.ownsRow (w.heap.size + 1) 9 1 v5 (([⟨#[116, 97, 115, 107]⟩, x.nm, fldS wC x.c, fldS wT x.t, fldS wD x.d, fldS wJ x.j] : List ByteArray).length + 1) ((([⟨#[116, 97, 115, 107]⟩, x.nm, fldS wC x.c, fldS wT x.t, fldS wD x.d, fldS wJ x.j] : List ByteArray) ++ [fldS wQ x.q]).map Value.string) from hO5)
  have HT5 := Lib.hid hT5
  have hcx := cell_blk HX5.out 0
  clear hX5 hO5 hT5 HX4 HO4 HT4 HTAB4
  go_wp2_with fail
  clear c1 c2 c3 c4 c5 c6 hcx
  refine (put_any (w.heap.size + 1) (w.heap.size + 1 + 1) wP x.p _ ([⟨#[116, 97, 115, 107]⟩, x.nm, fldS wC x.c, fldS wT x.t, fldS wD x.d, fldS wJ x.j, fldS wQ x.q] : List ByteArray) W5 HX5.out HO5.out hp.1 hp.2 (by simp) (by decide) (by omega) HTAB5.out).mono ?_
  rintro r W6 ⟨rfl, v6, hX6, hO6, hB6⟩
  have hT6 := blk_below hB6 HT5.out (by omega)
  have HLT6 := Lib.hid (show w.heap.size + 3 ≤ W6.heap.size by have := hB6.size; have := HLT5.out; omega)
  have HBW6 := Lib.hid (HB5.out.trans (below_less hB6 (by omega)))
  have HB6 := HBW6
  have HTAB6 := Lib.hid (HTW.out.below HB6.out (Nat.le_refl _))
  obtain ⟨c1, c2, c3, c4, c5, c6⟩ := tsk_cells hT6
  have HX6 := Lib.hid hX6
  have HO6 := Lib.hid (show W6.ownsRow (w.heap.size + 1) 9 1 v6 (([⟨#[116, 97, 115, 107]⟩, x.nm, fldS wC x.c, fldS wT x.t, fldS wD x.d, fldS wJ x.j, fldS wQ x.q] : List ByteArray).length + 1) ((([⟨#[116, 97, 115, 107]⟩, x.nm, fldS wC x.c, fldS wT x.t, fldS wD x.d, fldS wJ x.j, fldS wQ x.q] : List ByteArray) ++ [fldS wP x.p]).map Value.string) from hO6)
  have HT6 := Lib.hid hT6
  have hcx := cell_blk HX6.out 0
  clear hX6 hO6 hT6 HX5 HO5 HT5 HTAB5
  clear c1 c2 c3 c4 c5 c6
  obtain ⟨g, cap, rfl, hg, hgl⟩ := HO6.out.form (by simp)
  simp only [List.getElem?_toArray, List.getElem?_cons_zero] at hcx
  go_wp2_with fail
  obtain ⟨cs, hcs, hcl, hcn, htk, -⟩ := owns_block (n := 8) HO6.out
  have hjl := join_len x ⟨hn, hc, ht, hd, hj, hq, hp⟩
  refine (Tryd.strings_Join g 0 cap (wsOf x) ⟨#[32]⟩ W6 ?_ hgl (by simp [wsOf]) hcn (by rw [show (⟨#[32]⟩ : ByteArray).data.toList = [32] from rfl]; omega)).mono ?_
  · intro j y hy
    rw [Nat.zero_add, cell_blk hcs, List.getElem?_toArray]
    have hj8 : j < 8 := (List.getElem?_eq_some_iff.1 hy).1
    have h1 : (cs.take 8)[j]? = ((wsOf x).map Value.string)[j]? := by rw [htk]; rfl
    rw [List.getElem?_take, if_pos hj8, List.getElem?_map, hy] at h1
    exact h1
  · rintro r W7 ⟨rfl, hB7⟩
    have hjs : (⟨(Lib.join ((wsOf x).map (·.data.toList)) [32]).toArray⟩ : ByteArray).size = (Lib.join ((wsOf x).map (·.data.toList)) [32]).length := by simp [ByteArray.size]
    have hg1 : (9223372036854775807 < (Lib.join ((wsOf x).map (·.data.toList)) [32]).length + 1) = False := eq_false (by omega)
    rw [show (⟨#[32]⟩ : ByteArray).data.toList = [32] from rfl]
    go_wp2
    go_ret
    exact ⟨rfl, HB6.out.trans (below_less hB7 (by omega))⟩
end Go.Proofs.YtefdcjmfbjlinaaDoor.Sc
/- text.Print: the lines of tasks. -/
namespace Go.Proofs.YtefdcjmfbjlinaaDoor.Sc
open Go.RowKit Go.Shelf

theorem builder_below {T e : TypeId} {B b : Nat} {bs : List Value} {W W' : World} (h : Lib.IsBuilder T e B b bs W) (hb : Below W.heap.size W W') : Lib.IsBuilder T e B b bs W' := by
  rcases h with h | h
  · have hlt := h.lt
    obtain ⟨hB, v, hv, hown, hne⟩ := h
    exact .inl ⟨hB, v, (hb.block b hlt).trans hv, own_below hown hb, hne⟩
  · have hlt := h.lt
    obtain ⟨hB, v, hv, hown, hne⟩ := h
    exact .inr ⟨hB, v, (hb.block b hlt).trans hv, own_below hown hb, hne⟩
def printS : List Tsk → ByteArray
  | [] => ⟨#[]⟩
  | x :: xs => lineS x ++ printS xs
theorem printS_app (a : List Tsk) (x : Tsk) : printS (a ++ [x]) = printS a ++ lineS x := by
  induction a with
  | nil => apply ByteArray.ext; simp [printS]
  | cons y a ih => simp only [List.cons_append, printS, ih, ByteArray.append_assoc]
theorem lineS_size (x : Tsk) (hx : Wide 4000000 x) : (lineS x).size ≤ 4000300 := by
  have h := join_len x hx
  unfold lineS
  rw [ByteArray.size_append]
  have : (⟨(Lib.join ((wsOf x).map (·.data.toList)) [32]).toArray⟩ : ByteArray).size = (Lib.join ((wsOf x).map (·.data.toList)) [32]).length := by simp [ByteArray.size]
  have h1 : (⟨#[10]⟩ : ByteArray).size = 1 := rfl
  omega
theorem printS_size : ∀ xs : List Tsk, (∀ x ∈ xs, Wide 4000000 x) → (printS xs).size ≤ xs.length * 4000300
  | [], _ => by simp [printS, ByteArray.size]
  | x :: xs, h => by
    have h1 := lineS_size x (h x (by simp))
    have h2 := printS_size xs (fun y hy => h y (by simp [hy]))
    simp only [printS, ByteArray.size_append, List.length_cons, Nat.add_mul, Nat.one_mul]
    omega
theorem RowTsk.below {w w' : World} {A : Option Addr} {xs : List Tsk} (h : RowTsk w A xs) (hb : Below w.heap.size w w') : RowTsk w' A xs :=
  h.keeps ⟨hb.os, hb.tape, hb.output, hb.size, fun k hk _ => hb.block k hk⟩
set_option maxHeartbeats 4000000 in
set_option maxRecDepth 100000 in
theorem print_any (A : Option Addr) (cap : Nat) (xs : List Tsk) (w : World) (hr : RowTsk w A xs) (hl : xs.length ≤ 10000) (hx : ∀ x ∈ xs, Wide 4000000 x) (HT : Tab w) :
    Calls Tryd.prog 9 #[.slice A xs.length cap] w fun r w' => r = .returned (.string (printS xs)) ∧ Below w.heap.size w w' := by
  have HR := Lib.hid hr
  have HTT := Lib.hid HT
  have HL := Lib.hid hl
  have HXS := Lib.hid hx
  have hb0 := Lib.fresh_isBuilder 48 5 w
  have HB0 := Lib.hid hb0
  have HBL := Lib.hid ((Below.refl w.heap.size w).alloc (Nat.le_refl _) (.cells #[.pointer none, .slice none 0 0] 48))
  clear hr HT hl hx hb0
  go_enter Tryd.func9, Tryd.ntmps9
  go_wp2_with fail
  go_loopg [8] (xs.length) (fun gh iv wr => ∃ i : Nat, xs.length - i ≤ gh ∧ iv = .int .i64 i ∧ i ≤ xs.length ∧ Lib.IsBuilder 48 5 w.heap.size w.heap.size (Lib.byteCells (printS (xs.take i)).data.toList) wr ∧ Below w.heap.size w wr)
  case atStart =>
    exact ⟨0, by omega, rfl, by omega, HB0.out, HBL.out⟩
  case round =>
    obtain ⟨i, hgh, rfl, hil, hbu, hbe⟩ := hrel
    have HBU := Lib.hid hbu
    have HBE := Lib.hid hbe
    clear hbu hbe HB0 HBL
    by_cases hlt : i < xs.length
    · obtain ⟨x, hx⟩ : ∃ x, xs[i]? = some x := ⟨xs[i], by simp [hlt]⟩
      have hmem := List.mem_of_getElem? hx
      obtain ⟨b0, o0, ha, hc⟩ := (HR.out.below HBE.out) i x hx
      subst ha
      have c0 : wr.cell? ⟨b0, o0 + i * 7, none⟩ = some (.string x.nm) := hc 0 _ rfl
      have c1 := hc 1 _ rfl
      have c2 := hc 2 _ rfl
      have c3 := hc 3 _ rfl
      have c4 := hc 4 _ rfl
      have c5 := hc 5 _ rfl
      have c6 := hc 6 _ rfl
      have HX := Lib.hid hx
      have HMEM := Lib.hid hmem
      have hlt' : (i : Int) < (xs.length : Int) := by omega
      have HLE := Lib.hid (show (i : Int) ≤ 10000 by have := HL.out; omega)
      clear hc hx hmem
      go_wp2_with fail
      clear c0 c1 c2 c3 c4 c5 c6
      have hba : Below wr.heap.size wr (wr.alloc (.cells #[.string x.nm, .int .i64 x.c, .int .i64 x.t, .int .i64 x.d, .int .i64 x.j, .int .i64 x.q, .int .i64 x.p] 29)) := (Below.refl _ _).alloc (Nat.le_refl _) _
      obtain ⟨w1, hw1⟩ : ∃ w1, w1 = (wr.alloc (.cells #[.string x.nm, .int .i64 x.c, .int .i64 x.t, .int .i64 x.d, .int .i64 x.j, .int .i64 x.q, .int .i64 x.p] 29)) := ⟨_, rfl⟩
      rw [← hw1] at hba ⊢
      clear hw1
      have HBU1 := Lib.hid (builder_below HBU.out hba)
      have HBE1 := Lib.hid (HBE.out.trans (below_less hba HBE.out.size))
      clear hba
      refine (line_any x w1 (HXS.out x HMEM.out) (HTT.out.below HBE1.out (Nat.le_refl _))).mono ?_
      rintro r w2 ⟨rfl, hb2⟩
      have HBU2 := Lib.hid (builder_below HBU1.out hb2)
      have HBE2 := Lib.hid (HBE1.out.trans (below_less hb2 HBE1.out.size))
      clear hb2 HBU HBE HBU1 HBE1
      have hps := printS_size (xs.take i) (fun y hy => HXS.out y (List.mem_of_mem_take hy))
      have hls := lineS_size x (HXS.out x HMEM.out)
      have htl : (xs.take i).length = i := by simp; omega
      have hbl : (Lib.byteCells (printS (xs.take i)).data.toList).length = (printS (xs.take i)).size := by rw [Lib.byteCells_length]; simp
      have hmul : i * 4000300 ≤ 10000 * 4000300 := Nat.mul_le_mul_right _ (by have := HLE.out; omega)
      rw [htl] at hps
      go_wp2_with fail
      refine (Tryd.Builder_WriteString w.heap.size w.heap.size _ (lineS x) w2 HBU2.out (by rw [hbl]; omega) HBE2.out.size).mono ?_
      rintro r w3 ⟨rfl, hbu3, hb3⟩
      have HBU3 := Lib.hid (show Lib.IsBuilder 48 5 w.heap.size w.heap.size (Lib.byteCells (printS (xs.take (i + 1))).data.toList) w3 by
        have e3 : xs.take (i + 1) = xs.take i ++ [x] := by rw [List.take_add_one, HX.out]; rfl
        have e4 : Lib.byteCells (printS (xs.take (i + 1))).data.toList = Lib.byteCells (printS (xs.take i)).data.toList ++ Lib.strCells (lineS x) := by
          rw [e3, printS_app]
          simp [Lib.byteCells, Lib.strCells]
        rw [e4]
        exact .inr hbu3)
      have HBE3 := Lib.hid (HBE2.out.trans hb3)
      clear hbu3 hb3 HBU2 HBE2 hps hls htl hbl hmul
      have hile : (i : Int) ≤ 10000 := HLE.out
      go_wp2
      go_roundg (xs.length - (i + 1))
      case rel => exact ⟨i + 1, Nat.le_refl _, by go_num, by omega, HBU3.out, HBE3.out⟩
      case measure => omega
    · have hge : ¬ ((i : Int) < (xs.length : Int)) := by omega
      obtain rfl : i = xs.length := by omega
      rw [List.take_length] at HBU
      go_wp2_with fail
      refine (Tryd.Builder_String_any w.heap.size w.heap.size _ wr HBU.out HBE.out.size).mono ?_
      rintro r w2 ⟨rfl, hb2⟩
      have HBE2 := Lib.hid (HBE.out.trans hb2)
      go_wp2
      go_ret
      exact ⟨rfl, HBE2.out⟩
end Go.Proofs.YtefdcjmfbjlinaaDoor.Sc
