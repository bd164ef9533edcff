/- The document's heap: Push and Pop. -/
import Derived.Test.YtlcbcagbiiachaaSee
import Derived.Deep.RegionLawGrows
import Derived.ArgAppend
import Derived.BigQuiet
import Derived.Deep.DeepCutAuto
import Derived.Deep.QuietTactic
namespace Go.Proofs.Ytlcbcagbiiachaa
open Go.RowKit

/-- Things lie from a place of a block on. -/
def Row45 (w : World) (g o : Nat) (L : List (Int × Int)) : Prop := ∀ i x, L[i]? = some x → w.cell? ⟨g, o + i * 2, none⟩ = some (.int .i64 x.1) ∧ w.cell? ⟨g, o + i * 2 + 1, none⟩ = some (.int .i64 x.2)
/-- The document's heap at block m (what its row lies in: G). -/
def MH (w : World) (m : Nat) (G : List Nat) (L : List (Int × Int)) : Prop :=
  ∃ (A : Option Addr) (c : Nat), w.heap[m]? = some (.cells #[.slice A L.length c] 59 (0, 0)) ∧ L.length ≤ c ∧ m ∉ G ∧ (A = none → c = 0) ∧ (∀ a, A = some a → ∃ g o, a = ⟨g, o, none⟩ ∧ g ∈ G ∧ (L ≠ [] → g < w.heap.size) ∧ Row45 w g o L)
theorem MH.kept {w w' : World} {m : Nat} {G F : List Nat} {L : List (Int × Int)} (h : MH w m G L) (k : Keeps F w w') (hm : m ∉ F) (hG : ∀ g ∈ G, g ∉ F) : MH w' m G L := by
  obtain ⟨A, c, h1, h2, h3, h4, h5⟩ := h
  refine ⟨A, c, k.blk h1 hm, h2, h3, h4, fun a ha => ?_⟩
  obtain ⟨g, o, rfl, h6, h7, h8⟩ := h5 a ha
  refine ⟨g, o, rfl, h6, fun hl => Nat.lt_of_lt_of_le (h7 hl) k.size, fun i x hx => ?_⟩
  have hlt := h7 (by intro e; rw [e] at hx; simp at hx)
  have := h8 i x hx
  exact ⟨(World.cell?_of_block (a := ⟨g, o + i * 2, none⟩) (k.block g hlt (hG g h6))).trans this.1, (World.cell?_of_block (a := ⟨g, o + i * 2 + 1, none⟩) (k.block g hlt (hG g h6))).trans this.2⟩
theorem MH.lt {w : World} {m : Nat} {G : List Nat} {L : List (Int × Int)} (h : MH w m G L) : m < w.heap.size := by
  obtain ⟨A, c, h1, _⟩ := h
  exact blk_lt h1
def insAt (x : Int × Int) (L : List (Int × Int)) : Nat → Nat
  | 0 => 0
  | n + 1 => if x.1 < L[n]!.1 then insAt x L n else n + 1
def insR (x : Int × Int) (L : List (Int × Int)) : List (Int × Int) := L.take (insAt x L L.length) ++ x :: L.drop (insAt x L L.length)
theorem insAt_le (x : Int × Int) (L : List (Int × Int)) : ∀ n, insAt x L n ≤ n
  | 0 => Nat.le_refl _
  | n + 1 => by
    unfold insAt
    split
    · have := insAt_le x L n; omega
    · omega
theorem infoT45 : (Try.prog.info? 45).map (fun i => (i.zero, i.size, i.bytes)) = some (some (.agg #[.int .i64 0, .int .i64 0]), 2, 16) := by kernel_rfl

theorem row_cells {w : World} {g : Nat} : ∀ (L : List (Int × Int)) (o : Nat), (∀ j y, L[j]? = some y → w.cell? ⟨g, o + j * 2, none⟩ = some (.int .i64 y.1) ∧ w.cell? ⟨g, o + j * 2 + 1, none⟩ = some (.int .i64 y.2)) →
    ∀ j u, (flat ei2 L)[j]? = some u → w.cell? ((⟨g, o, none⟩ : Addr).add j) = some u
  | [], o, h, j, u, hj => by simp [flat] at hj
  | x :: L, o, h, j, u, hj => by
    rw [addr_add]
    have h0 := h 0 x rfl
    simp only [Nat.zero_mul, Nat.add_zero] at h0
    match j with
    | 0 =>
      simp [flat] at hj
      subst hj
      exact h0.1
    | 1 =>
      simp [flat] at hj
      subst hj
      exact h0.2
    | j + 2 =>
      have ih := row_cells L (o + 2) (fun k y hk => by
        have := h (k + 1) y (by simpa using hk)
        rw [show o + (k + 1) * 2 = o + 2 + k * 2 by omega] at this
        exact this) j u (by simpa [flat] using hj)
      rw [addr_add] at ih
      rw [show o + (j + 2) = o + 2 + j by omega]
      exact ih
theorem MH.mk {w : World} {m g c base : Nat} {L : List (Int × Int)} (hb : w.heap[m]? = some (.cells #[.slice (some ⟨g, 0, none⟩) L.length c] 59 (0, 0))) (ho : w.ownsRow base 45 2 (.slice (some ⟨g, 0, none⟩) L.length c) L.length (flat ei2 L)) (hne : g ≠ m) : MH w m [g] L := by
  obtain ⟨cur, h1, h2, h3, h4, h5⟩ := owns_row ho
  refine ⟨_, c, hb, h3, by simpa using Ne.symm hne, (fun h => by cases h), fun a ha => ?_⟩
  injection ha with ha
  subst ha
  refine ⟨g, 0, rfl, by simp, fun _ => blk_lt h1, fun i x hx => ?_⟩
  have hi : i < L.length := by
    rcases Nat.lt_or_ge i L.length with h | h
    · exact h
    · rw [List.getElem?_eq_none h] at hx; cases hx
  have hxe : L[i]! = x := by rw [List.getElem!_eq_getElem?_getD, hx]; rfl
  have e0 := take_get (ei := ei2) ei2_len h5 i 0 hi (by decide)
  have e1 := take_get (ei := ei2) ei2_len h5 i 1 hi (by decide)
  rw [hxe] at e0 e1
  rw [cell_blk h1, cell_blk h1]
  simp only [Nat.zero_add]
  exact ⟨by simpa using e0, by simpa using e1⟩
theorem ownsRow_base0 {w : World} {base : Nat} {e : TypeId} {sz n : Nat} {v : Value} {xs : List Value} (h : w.ownsRow base e sz v n xs) : w.ownsRow 0 e sz v n xs := by
  refine ⟨h.1, ?_⟩
  rcases h.2 with h2 | ⟨g, cap, cur, hv, h3, h4, h5⟩
  · exact .inl h2
  · exact .inr ⟨g, cap, cur, hv, Nat.zero_le _, h4, h5⟩
theorem own_far {w w' : World} {o : Obj} {g2 n cap q : Nat} (hg : (w.alloc o).drew.grownBy w' none) (hl : g2 < w.heap.size) (hq : (Value.slice (some ⟨g2, 0, none⟩) n cap).ownBlock = some q) : w'.heap[q]? = w.heap[q]? := by
  have e : q = g2 := by simpa [Value.ownBlock] using hq.symm
  subst e
  exact (hg.block q (by simp; omega) (by simp)).trans (((Keeps.refl [] w).alloc o).block q hl (by simp))
theorem own_cells {w : World} {base : Nat} {e : TypeId} {sz g n cap : Nat} {xs : List Value} (h : w.ownsRow base e sz (.slice (some ⟨g, 0, none⟩) n cap) n xs) : ∀ j u, xs[j]? = some u → w.cell? ((⟨g, 0, none⟩ : Addr).add j) = some u := by
  obtain ⟨cur, h1, h2, h3, h4, h5⟩ := owns_row h
  intro j u hj
  rw [addr_add, cell_blk h1, Nat.zero_add]
  rw [← h5, List.getElem?_take] at hj
  split at hj
  · simpa using hj
  · cases hj
section
variable {P : Program} (w : World)
theorem run_append_zero (t ty e : TypeId) (i : TypeInfo) (ht : P.underlying t = some (.slice e)) (hi : P.info? e = some i) (ao bo : Option Addr) (n cap c : Nat) (hn : n ≤ cap) (ha : ao = none → n = 0) :
    (Builtin.append_ #[t, t] ty #[.slice ao n cap, .slice bo 0 c]).run P w = .ok (.slice ao n cap) w := by
  cases ao with
  | none =>
    obtain rfl := ha rfl
    cases bo <;> simp [Builtin.append_, run_underlying ht, sizeOf, typeInfo, hi, Builtin.lenOf, Builtin.firstCells, loadCells, loadCellsFrom]
  | some a =>
    cases bo <;> simp [Builtin.append_, run_underlying ht, sizeOf, typeInfo, hi, Builtin.lenOf, Builtin.firstCells, loadCells, loadCellsFrom, hn, storeCells]
theorem wpList_append_zero {ops : Array Oper} {rest : List Oper} {o : Oper} {a : Act} {Q : Exit → Act → World → Prop}
    (hg : o.guard = none) (s x : Operand) (t : TypeId) (hop : o.op = Op.call { callee := Callee.builtin Builtin.append, args := #[s, x], argTypes := #[t, t] })
    (e : TypeId) (i : TypeInfo) (h1 : P.underlying t = some (.slice e)) (h2 : P.info? e = some i) (ao bo : Option Addr) (n cap c : Nat) (hs : a.eval s = .slice ao n cap) (hx : a.eval x = .slice bo 0 c) (hn : n ≤ cap) (ha : ao = none → n = 0)
    (hK : wpList P ops Q rest (a.put o.dst (.slice ao n cap)) w) : wpList P ops Q (o :: rest) a w := by
  refine wpList_plain hg fun K hK' => ?_
  have hrun := run_append_zero (P := P) w t o.type e i h1 h2 ao bo n cap c hn ha
  unfold Oper.wp
  simp [execOp, hop, resolve, invoke, builtin, hs, hx, hrun, Result.andThen]
  exact hK' _ _ hK
theorem step_append_zero {ops : Array Oper} {o : Oper} {a : Act} {K : Act → World → Prop} {Q : Exit → Act → World → Prop} {E : Prop}
    (hg : o.guard = none) (s x : Operand) (t : TypeId) (hop : o.op = Op.call { callee := Callee.builtin Builtin.append, args := #[s, x], argTypes := #[t, t] })
    (e : TypeId) (i : TypeInfo) (h1 : P.underlying t = some (.slice e)) (h2 : P.info? e = some i) (ao bo : Option Addr) (n cap c : Nat) (hs : a.eval s = .slice ao n cap) (hx : a.eval x = .slice bo 0 c) (hn : n ≤ cap) (ha : ao = none → n = 0)
    (hK : K (a.put o.dst (.slice ao n cap)) w) : if Region.wanted o (yielded ops a.tmps) = true then Oper.wp P o a w K Q else E := by
  have hw : Region.wanted o (yielded ops a.tmps) = true := by simp [Region.wanted, hg]
  rw [if_pos hw]
  have hrun := run_append_zero (P := P) w t o.type e i h1 h2 ao bo n cap c hn ha
  unfold Oper.wp
  simp [execOp, hop, resolve, invoke, builtin, hs, hx, hrun, Result.andThen]
  exact hK
end

set_option maxHeartbeats 1000000 in
theorem refPop_none (m : Nat) (G : List Nat) (w : World) (h : MH w m G []) : Calls Try.prog 44 #[.pointer (some ⟨m, 0, none⟩)] w fun e w' => e = .returned (.agg #[.int .i64 0, .int .i64 0]) ∧ Keeps [] w w' := by
  have H := Lib.hid (h.kept ((Keeps.refl [] w).alloc (.cells #[.int .i64 0, .int .i64 0] 45)) (by simp) (by simp))
  clear h
  obtain ⟨A, c, h1, h2, -, h4, h5⟩ := H.out
  have c0 := cell_blk h1 0
  clear h5
  have r0 := cell_blk (blk_new w (.cells #[.int .i64 0, .int .i64 0] 45)) 0
  have r1 := cell_blk (blk_new w (.cells #[.int .i64 0, .int .i64 0] 45)) 1
  simp at r0 r1
  go_enter Try.func44, Try.ntmps44
  go_wp2
  refine bodyPost_ret (v := .agg #[.int .i64 0, .int .i64 0]) (by simp [results, Try.results44, go_sem]) rfl ⟨rfl, (Keeps.refl _ _).alloc _⟩

set_option maxHeartbeats 1000000 in
theorem refPop_some (m : Nat) (G : List Nat) (x : Int × Int) (L : List (Int × Int)) (w : World) (h : MH w m G (x :: L)) : Calls Try.prog 44 #[.pointer (some ⟨m, 0, none⟩)] w fun e w' => e = .returned (.agg #[.int .i64 x.1, .int .i64 x.2]) ∧ MH w' m G L ∧ Keeps [m] w w' := by
  obtain ⟨A, c, h1, h2, h3, h4, h5⟩ := h
  cases A with
  | none => have := h4 rfl; simp at h2; omega
  | some a =>
    obtain ⟨g, o, rfl, h6, h7, h8⟩ := h5 a rfl
    have hx := h8 0 x rfl
    have h8' := h8
    simp only [Nat.zero_mul, Nat.add_zero] at hx
    have g7 := h7 (by simp)
    have x0 := hx.1
    have x1 := hx.2
    have c0 := cell_blk h1 0
    have f0 := free_blk h1 0
    have hm := blk_lt h1
    have H1 := Lib.hid h1
    have H7 := Lib.hid h7
    have H6 := Lib.hid h6
    have H8 := Lib.hid h8'
    clear h5 h8 hx h7 h1 h4 h6 h8'
    have fin : ∀ (A : Option Addr) (c' : Nat), L.length ≤ c' → (A = none → c' = 0) → (∀ a, A = some a → ∃ o', a = ⟨g, o', none⟩ ∧ (L ≠ [] → o' = o + 2)) → MH (((w.setCell ⟨m, 0, none⟩ (.slice A L.length c')).alloc (.cells #[.int .i64 x.1, .int .i64 x.2] 45)).alloc (.cells #[.int .i64 x.1, .int .i64 x.2] 45)) m G L ∧ Keeps [m] w (((w.setCell ⟨m, 0, none⟩ (.slice A L.length c')).alloc (.cells #[.int .i64 x.1, .int .i64 x.2] 45)).alloc (.cells #[.int .i64 x.1, .int .i64 x.2] 45)) := by
      intro A c' q1 q2 q3
      have kk : Keeps [m] w (((w.setCell ⟨m, 0, none⟩ (.slice A L.length c')).alloc (.cells #[.int .i64 x.1, .int .i64 x.2] 45)).alloc (.cells #[.int .i64 x.1, .int .i64 x.2] 45)) := (((Keeps.refl [m] w).setCell m 0 _ (.inl (by simp))).alloc _).alloc _
      refine ⟨⟨A, c', blk_alloc (blk_alloc (by simpa using blk_set_same H1.out 0 (.slice A L.length c')) _) _, q1, h3, q2, fun a ha => ?_⟩, kk⟩
      obtain ⟨o', rfl, ho⟩ := q3 a ha
      refine ⟨g, o', rfl, H6.out, fun hl => Nat.lt_of_lt_of_le (H7.out (by simp)) kk.size, fun i y hy => ?_⟩
      have hl : L ≠ [] := by intro e; rw [e] at hy; simp at hy
      rw [ho hl]
      have hgm : g ≠ m := fun e => h3 (e ▸ H6.out)
      have hc := World.cell?_of_block (a := ⟨g, o + 2 + i * 2, none⟩) (kk.block g g7 (by simpa using hgm))
      have hd := World.cell?_of_block (a := ⟨g, o + 2 + i * 2 + 1, none⟩) (kk.block g g7 (by simpa using hgm))
      have h9 := H8.out (i + 1) y (by simpa using hy)
      rw [show o + (i + 1) * 2 = o + 2 + i * 2 by omega] at h9
      exact ⟨hc.trans h9.1, hd.trans h9.2⟩
    have FIN := Lib.hid fin
    have hlc : L.length + 1 ≤ c := by simpa using h2
    clear fin
    by_cases hc : c = 1
    · subst hc
      obtain rfl : L = [] := List.eq_nil_of_length_eq_zero (by omega)
      have hf := FIN.out (some ⟨g, o, none⟩) 0 (Nat.le_refl _) (fun h => by cases h) (fun a ha => ⟨o, by injection ha with ha; exact ha.symm, fun h => absurd rfl h⟩)
      have HF := Lib.hid hf
      clear hf FIN H8
      go_enter Try.func44, Try.ntmps44
      go_wp2
      refine bodyPost_ret (v := .agg #[.int .i64 x.1, .int .i64 x.2]) (by simp [results, Try.results44, go_sem]) rfl ⟨rfl, HF.out.1, HF.out.2⟩
    · have hc1 : ¬ (c - 1 = 0) := by omega
      have hf := FIN.out (some ⟨g, o + 2, none⟩) (c - 1) (by omega) (fun h => by cases h) (fun a ha => ⟨o + 2, by injection ha with ha; exact ha.symm, fun h => rfl⟩)
      have HF := Lib.hid hf
      clear hf FIN H8
      go_enter Try.func44, Try.ntmps44
      go_wp2
      refine bodyPost_ret (v := .agg #[.int .i64 x.1, .int .i64 x.2]) (by simp [results, Try.results44, go_sem]) rfl ⟨rfl, HF.out.1, HF.out.2⟩

set_option maxHeartbeats 1000000 in
theorem refPush (m : Nat) (G : List Nat) (x : Int × Int) (L : List (Int × Int)) (w : World) (h : MH w m G L) (hn : L.length ≤ 1000) : Calls Try.prog 28 #[.pointer (some ⟨m, 0, none⟩), .agg #[.int .i64 x.1, .int .i64 x.2]] w fun e w' => e = .returned (.tuple #[]) ∧ ∃ G' : List Nat, MH w' m G' (insR x L) ∧ Keeps [m] w w' ∧ ∀ k ∈ G', w.heap.size ≤ k := by
  have K0 : Keeps [] w (w.alloc (.cells #[.int .i64 x.1, .int .i64 x.2] 45)) := (Keeps.refl _ _).alloc _
  have H := Lib.hid (h.kept K0 (by simp) (by simp))
  have hbx := blk_new w (.cells #[.int .i64 x.1, .int .i64 x.2] 45)
  obtain ⟨A, c, h1, h2, h3, h4, h5⟩ := H.out
  have c0 := cell_blk h1 0
  have hmw := h.lt
  clear h5 h
  go_enter Try.func28, Try.ntmps28
  go_wp2_with fail
  generalize w.alloc (.cells #[.int .i64 x.1, .int .i64 x.2] 45) = w0 at K0 H hbx h1 c0 ⊢
  clear c0
  have H1 := Lib.hid h1
  have HBX := Lib.hid hbx
  obtain ⟨bx, hbxe⟩ : ∃ bx, bx = w.heap.size := ⟨_, rfl⟩
  rw [← hbxe] at HBX ⊢
  have HBXE := Lib.hid hbxe
  clear h1 hbx hbxe
  have H4 := Lib.hid h4
  clear h4
  go_loopg [4] (L.length) (fun gh iv wr => ∃ (i : Nat), i ≤ gh ∧ iv = .int .i64 i ∧ i ≤ L.length ∧ insAt x L L.length = insAt x L i ∧ Keeps [] w0 wr)
  case atStart => exact ⟨L.length, Nat.le_refl _, rfl, Nat.le_refl _, rfl, Keeps.refl _ _⟩
  case round =>
    obtain ⟨i, hgh, rfl, hil, hat, hK⟩ := hrel
    have hb1 := hK.blk H1.out (by simp)
    have hx1 := hK.blk HBX.out (by simp)
    have c0 := cell_blk hb1 0
    have y0 := cell_blk hx1 0
    have y1 := cell_blk hx1 1
    have HAT := Lib.hid hat
    have HB1 := Lib.hid hb1
    have HX1 := Lib.hid hx1
    have HK := Lib.hid hK
    clear hat hb1 hx1 hK
    by_cases hi : i = 0
    · subst hi
      have HAT0 := Lib.hid (show insAt x L L.length = 0 from HAT.out)
      clear HAT
      go_wp2_with fail
      go_quiet (fail)
      have HK1 := Lib.hid (HK.out.drewN nq)
      clear HK c0 y0 y1 HB1 HX1
      generalize wr.drewN nq = w1 at HK1 ⊢
      obtain ⟨i, hi0, hi1⟩ : ∃ i : Nat, ((0 : Nat) : Int) = (i : Int) ∧ 0 = i := ⟨_, rfl, rfl⟩
      rw [hi0]
      rw [hi1] at HAT0
      have hil : i ≤ L.length := by omega
      clear hi0 hi1
      obtain ⟨A', c', q1, q2, -, q4, q5⟩ := H.out
      rw [H1.out] at q1
      simp at q1
      obtain ⟨rfl, rfl⟩ := q1
      have hb1 := HK1.out.blk H1.out (by simp)
      have hx1 := HK1.out.blk HBX.out (by simp)
      have hml := blk_lt hb1
      have hxl := blk_lt hx1
      have c0 := cell_blk hb1 0
      have f0 := free_blk hb1 0
      have y0 := cell_blk hx1 0
      have y1 := cell_blk hx1 1
      have Q5 := Lib.hid q5
      have Q4 := Lib.hid q4
      have HB1 := Lib.hid hb1
      have HX1 := Lib.hid hx1
      have KW1 := Lib.hid (K0.trans HK1.out)
      have hsw := KW1.out.size
      obtain ⟨i0, hi, hz0, hz1, hz2⟩ := info_parts infoT45
      clear q5 q4 hb1 hx1
      cases A with
      | none =>
        obtain rfl : c = 0 := Q4.out rfl
        obtain rfl : L = [] := List.eq_nil_of_length_eq_zero (by omega)
        obtain rfl : i = 0 := by simpa using hil
        go_wp2_with (at_builtin; refine wpList_append_zero _ rfl (.tmp 29) (.tmp 35) 56 rfl 45 i0 Try.underlying56 hi (some ⟨w1.heap.size, 0, none⟩) _ 0 0 _ rfl rfl (Nat.le_refl _) (fun h => by cases h) ?_)
        have K5 : Keeps [] w (w1.alloc (.cells #[] 45)) := KW1.out.alloc _
        have b5 := blk_alloc HB1.out (.cells #[] 45)
        have x5 := blk_alloc HX1.out (.cells #[] 45)
        have k15 : Keeps [] w1 (w1.alloc (.cells #[] 45)) := (Keeps.refl _ _).alloc _
        clear c0 f0 y0 y1 hml hxl
        obtain ⟨r, hr⟩ : ∃ r, r = w1.heap.size := ⟨_, rfl⟩
        rw [← hr]
        clear hr
        generalize w1.alloc (.cells #[] 45) = w5 at K5 b5 x5 k15 ⊢
        have m0 := cell_blk b5 0
        have g0 := free_blk b5 0
        have y0 := cell_blk x5 0
        have y1 := cell_blk x5 1
        have hml := blk_lt b5
        have hxl := blk_lt x5
        have n1 := World.new_ne w5 _ m0
        have n4 := World.new_ne w5 _ y0
        have n5 := World.new_ne w5 _ y1
        have n3 := fun (c : Array Value) (t : TypeId) => frozen?_alloc_cells w5 c t ⟨m, 0, none⟩
        have hl63 : 0 + 1 ≤ maxLen := by unfold maxLen; omega
        have hlby : (0 + 1) * 16 ≤ 140737488355328 := by omega
        have hlo : (flat ei2 (([] : List (Int × Int)).take 0)).length = 0 * 2 := by rw [length_flat ei2_len, List.length_take]; omega
        have holds : ∀ b, (none : Option Addr) = some b → ∀ j u, (flat ei2 (([] : List (Int × Int)).take 0))[j]? = some u → (w5.alloc (.cells #[.int .i64 x.1, .int .i64 x.2] 45)).cell? (b.add j) = some u := fun b hb => by cases hb
        have B5 := Lib.hid b5
        have X5 := Lib.hid x5
        have OLDS := Lib.hid holds
        clear b5 x5 holds
        go_region_law
          ((first
            | (refine step_append_grows (by rfl) (.tmp 44) (.tmp 46) 56 (by rfl) 45 i0 _ 2 16 Try.underlying56 hi hz0 hz1 hz2 (by rfl) (by decide) none 0 0 (flat ei2 (([] : List (Int × Int)).take 0)) (by rfl) (fun h => by cases h <;> simp) hlo (by exact OLDS.out) ⟨w5.heap.size, 0, none⟩ 1 1 (ei2 x) (by rfl) (by rfl) (by exact World.news_of_block (blk_new w5 _)) (by simp [ei2, Value.oneCell']) (by omega) hl63 hlby ?_; intro v3 w3 hown3 hgrow3; obtain ⟨g3, cap3, rfl, hg3, hg3l⟩ := hown3.form (by omega); have hb3 := Lib.hid (blk_grown hgrow3 (blk_alloc B5.out _) (by simp)); have hc3 := cell_blk hb3.out 0; have hf3 := free_blk hb3.out 0; have hg3c := (owns_row hown3).choose_spec.2.2.1; simp at hg3)
            | (refine step_append_zero _ (by rfl) (.tmp 47) (.tmp 48) 56 (by rfl) 45 i0 Try.underlying56 hi (some ⟨g3, 0, none⟩) _ (0 + 1) cap3 _ (by rfl) (by rfl) hg3c (fun h => by cases h) ?_)))
        all_goals
          go_wp2
          go_returns
          have hgm : g3 ≠ m := by omega
          have hsz5 := K5.size
          have hlen : (insR x ([] : List (Int × Int))).length = 1 := by rfl
          have hfl : flat ei2 (insR x ([] : List (Int × Int))) = flat ei2 (([] : List (Int × Int)).take 0) ++ ei2 x := by rfl
          refine ⟨rfl, [g3], MH.mk (base := 0) (g := g3) (c := cap3) (by rw [hlen]; have := blk_set_same hb3.out 0 (.slice (some ⟨g3, 0, none⟩) (1) cap3); simpa using this) (by rw [hlen, hfl]; exact ownsRow_same (ownsRow_base0 hown3) (fun q hq => Below.heap_setCell _ _ _ _ (by have e : q = g3 := (by simpa [Value.ownBlock] using hq.symm); subst e; simpa using hgm))) hgm, ?_, by simp; omega⟩
          exact (((((K5.mono (G := [m]) (by simp)).alloc _).drew).grown hgrow3 (fun k e => by cases e))).setCell m 0 _ (.inl (by simp))
      | some a =>
        obtain ⟨g, o, rfl, q6, q7, q8⟩ := Q5.out a rfl
        have hrow : ∀ j y, L[j]? = some y → w1.cell? ⟨g, o + j * 2, none⟩ = some (.int .i64 y.1) ∧ w1.cell? ⟨g, o + j * 2 + 1, none⟩ = some (.int .i64 y.2) := by
          intro j y hj
          have q9 := q8 j y hj
          have q10 := q7 (by intro e; rw [e] at hj; simp at hj)
          exact ⟨(World.cell?_of_block (a := ⟨g, o + j * 2, none⟩) (HK1.out.block g q10 (by simp))).trans q9.1, (World.cell?_of_block (a := ⟨g, o + j * 2 + 1, none⟩) (HK1.out.block g q10 (by simp))).trans q9.2⟩
        have HROW := Lib.hid hrow
        clear q7 q8 hrow
        by_cases hil2 : i = L.length
        · subst hil2
          by_cases hcl : c = L.length
          · subst hcl
            go_wp2_with (at_builtin; refine wpList_append_zero _ rfl (.tmp 29) (.tmp 35) 56 rfl 45 i0 Try.underlying56 hi (some ⟨w1.heap.size, 0, none⟩) _ 0 0 _ rfl rfl (Nat.le_refl _) (fun h => by cases h) ?_)
            have K5 : Keeps [] w (w1.alloc (.cells #[] 45)) := KW1.out.alloc _
            have b5 := blk_alloc HB1.out (.cells #[] 45)
            have x5 := blk_alloc HX1.out (.cells #[] 45)
            have k15 : Keeps [] w1 (w1.alloc (.cells #[] 45)) := (Keeps.refl _ _).alloc _
            clear c0 f0 y0 y1 hml hxl
            obtain ⟨r, hr⟩ : ∃ r, r = w1.heap.size := ⟨_, rfl⟩
            rw [← hr]
            clear hr
            generalize w1.alloc (.cells #[] 45) = w5 at K5 b5 x5 k15 ⊢
            have m0 := cell_blk b5 0
            have g0 := free_blk b5 0
            have y0 := cell_blk x5 0
            have y1 := cell_blk x5 1
            have hml := blk_lt b5
            have hxl := blk_lt x5
            have n1 := World.new_ne w5 _ m0
            have n4 := World.new_ne w5 _ y0
            have n5 := World.new_ne w5 _ y1
            have n3 := fun (c : Array Value) (t : TypeId) => frozen?_alloc_cells w5 c t ⟨m, 0, none⟩
            have hl63 : L.length + 1 ≤ maxLen := by unfold maxLen; omega
            have hlby : (L.length + 1) * 16 ≤ 140737488355328 := by omega
            have hlo : (flat ei2 (L.take L.length)).length = L.length * 2 := by rw [length_flat ei2_len, List.length_take]; omega
            have holds : ∀ b, (some ⟨g, o, none⟩ : Option Addr) = some b → ∀ j u, (flat ei2 (L.take L.length))[j]? = some u → (w5.alloc (.cells #[.int .i64 x.1, .int .i64 x.2] 45)).cell? (b.add j) = some u := fun b hb => by
              injection hb with hb
              subst hb
              refine row_cells (L.take L.length) o (fun j y hj => ?_)
              have hj2 : L[j]? = some y := by
                rw [List.getElem?_take] at hj
                split at hj
                · exact hj
                · cases hj
              have q := HROW.out j y hj2
              have e := fun k => World.cell?_of_block (a := ⟨g, k, none⟩) ((k15.alloc (.cells #[.int .i64 x.1, .int .i64 x.2] 45)).block g (World.block_lt_of_cell? _ _ q.1) (by simp))
              exact ⟨(e _).trans q.1, (e _).trans q.2⟩
            have B5 := Lib.hid b5
            have X5 := Lib.hid x5
            have OLDS := Lib.hid holds
            clear b5 x5 holds
            go_region_law
              ((first
                | (refine step_append_grows (by rfl) (.tmp 44) (.tmp 46) 56 (by rfl) 45 i0 _ 2 16 Try.underlying56 hi hz0 hz1 hz2 (by rfl) (by decide) (some ⟨g, o, none⟩) L.length L.length (flat ei2 (L.take L.length)) (by rfl) (fun h => by cases h <;> simp) hlo (by exact OLDS.out) ⟨w5.heap.size, 0, none⟩ 1 1 (ei2 x) (by rfl) (by rfl) (by exact World.news_of_block (blk_new w5 _)) (by simp [ei2, Value.oneCell']) (by omega) hl63 hlby ?_; intro v3 w3 hown3 hgrow3; obtain ⟨g3, cap3, rfl, hg3, hg3l⟩ := hown3.form (by omega); have hb3 := Lib.hid (blk_grown hgrow3 (blk_alloc B5.out _) (by simp)); have hc3 := cell_blk hb3.out 0; have hf3 := free_blk hb3.out 0; have hg3c := (owns_row hown3).choose_spec.2.2.1; simp at hg3)
                | (refine step_append_zero _ (by rfl) (.tmp 47) (.tmp 48) 56 (by rfl) 45 i0 Try.underlying56 hi (some ⟨g3, 0, none⟩) _ (L.length + 1) cap3 _ (by rfl) (by rfl) hg3c (fun h => by cases h) ?_)))
            all_goals
              go_wp2
              go_returns
              have hgm : g3 ≠ m := by omega
              have hsz5 := K5.size
              have hlen : (insR x L).length = L.length + 1 := by unfold insR; rw [HAT0.out]; simp
              have hfl : flat ei2 (insR x L) = flat ei2 (L.take L.length) ++ ei2 x := by unfold insR; rw [HAT0.out]; simp [flat]
              refine ⟨rfl, [g3], MH.mk (base := 0) (g := g3) (c := cap3) (by rw [hlen]; have := blk_set_same hb3.out 0 (.slice (some ⟨g3, 0, none⟩) (L.length + 1) cap3); simpa using this) (by rw [hlen, hfl]; exact ownsRow_same (ownsRow_base0 hown3) (fun q hq => Below.heap_setCell _ _ _ _ (by have e : q = g3 := (by simpa [Value.ownBlock] using hq.symm); subst e; simpa using hgm))) hgm, ?_, by simp; omega⟩
              exact (((((K5.mono (G := [m]) (by simp)).alloc _).drew).grown hgrow3 (fun k e => by cases e))).setCell m 0 _ (.inl (by simp))
          · have hcl2 : L.length < c := by omega
            go_wp2_with (at_builtin; refine wpList_append_zero _ rfl (.tmp 29) (.tmp 35) 56 rfl 45 i0 Try.underlying56 hi (some ⟨w1.heap.size, 0, none⟩) _ 0 0 _ rfl rfl (Nat.le_refl _) (fun h => by cases h) ?_)
            have K5 : Keeps [] w (w1.alloc (.cells #[] 45)) := KW1.out.alloc _
            have b5 := blk_alloc HB1.out (.cells #[] 45)
            have x5 := blk_alloc HX1.out (.cells #[] 45)
            have k15 : Keeps [] w1 (w1.alloc (.cells #[] 45)) := (Keeps.refl _ _).alloc _
            clear c0 f0 y0 y1 hml hxl
            obtain ⟨r, hr⟩ : ∃ r, r = w1.heap.size := ⟨_, rfl⟩
            rw [← hr]
            clear hr
            generalize w1.alloc (.cells #[] 45) = w5 at K5 b5 x5 k15 ⊢
            have m0 := cell_blk b5 0
            have g0 := free_blk b5 0
            have y0 := cell_blk x5 0
            have y1 := cell_blk x5 1
            have hml := blk_lt b5
            have hxl := blk_lt x5
            have n1 := World.new_ne w5 _ m0
            have n4 := World.new_ne w5 _ y0
            have n5 := World.new_ne w5 _ y1
            have n3 := fun (c : Array Value) (t : TypeId) => frozen?_alloc_cells w5 c t ⟨m, 0, none⟩
            have hl63 : L.length + 1 ≤ maxLen := by unfold maxLen; omega
            have hlby : (L.length + 1) * 16 ≤ 140737488355328 := by omega
            have hlo : (flat ei2 (L.take L.length)).length = L.length * 2 := by rw [length_flat ei2_len, List.length_take]; omega
            have holds : ∀ b, (some ⟨g, o, none⟩ : Option Addr) = some b → ∀ j u, (flat ei2 (L.take L.length))[j]? = some u → (w5.alloc (.cells #[.int .i64 x.1, .int .i64 x.2] 45)).cell? (b.add j) = some u := fun b hb => by
              injection hb with hb
              subst hb
              refine row_cells (L.take L.length) o (fun j y hj => ?_)
              have hj2 : L[j]? = some y := by
                rw [List.getElem?_take] at hj
                split at hj
                · exact hj
                · cases hj
              have q := HROW.out j y hj2
              have e := fun k => World.cell?_of_block (a := ⟨g, k, none⟩) ((k15.alloc (.cells #[.int .i64 x.1, .int .i64 x.2] 45)).block g (World.block_lt_of_cell? _ _ q.1) (by simp))
              exact ⟨(e _).trans q.1, (e _).trans q.2⟩
            have B5 := Lib.hid b5
            have X5 := Lib.hid x5
            have OLDS := Lib.hid holds
            clear b5 x5 holds
            go_region_law
              ((first
                | (refine step_append_grows (by rfl) (.tmp 44) (.tmp 46) 56 (by rfl) 45 i0 _ 2 16 Try.underlying56 hi hz0 hz1 hz2 (by rfl) (by decide) (some ⟨g, o, none⟩) L.length L.length (flat ei2 (L.take L.length)) (by rfl) (fun h => by cases h <;> simp) hlo (by exact OLDS.out) ⟨w5.heap.size, 0, none⟩ 1 1 (ei2 x) (by rfl) (by rfl) (by exact World.news_of_block (blk_new w5 _)) (by simp [ei2, Value.oneCell']) (by omega) hl63 hlby ?_; intro v3 w3 hown3 hgrow3; obtain ⟨g3, cap3, rfl, hg3, hg3l⟩ := hown3.form (by omega); have hb3 := Lib.hid (blk_grown hgrow3 (blk_alloc B5.out _) (by simp)); have hc3 := cell_blk hb3.out 0; have hf3 := free_blk hb3.out 0; have hg3c := (owns_row hown3).choose_spec.2.2.1; simp at hg3)
                | (refine step_append_zero _ (by rfl) (.tmp 47) (.tmp 48) 56 (by rfl) 45 i0 Try.underlying56 hi (some ⟨g3, 0, none⟩) _ (L.length + 1) cap3 _ (by rfl) (by rfl) hg3c (fun h => by cases h) ?_)))
            all_goals
              go_wp2
              go_returns
              have hgm : g3 ≠ m := by omega
              have hsz5 := K5.size
              have hlen : (insR x L).length = L.length + 1 := by unfold insR; rw [HAT0.out]; simp
              have hfl : flat ei2 (insR x L) = flat ei2 (L.take L.length) ++ ei2 x := by unfold insR; rw [HAT0.out]; simp [flat]
              refine ⟨rfl, [g3], MH.mk (base := 0) (g := g3) (c := cap3) (by rw [hlen]; have := blk_set_same hb3.out 0 (.slice (some ⟨g3, 0, none⟩) (L.length + 1) cap3); simpa using this) (by rw [hlen, hfl]; exact ownsRow_same (ownsRow_base0 hown3) (fun q hq => Below.heap_setCell _ _ _ _ (by have e : q = g3 := (by simpa [Value.ownBlock] using hq.symm); subst e; simpa using hgm))) hgm, ?_, by simp; omega⟩
              exact (((((K5.mono (G := [m]) (by simp)).alloc _).drew).grown hgrow3 (fun k e => by cases e))).setCell m 0 _ (.inl (by simp))
        · have hi3 : i < L.length := by omega
          have hi4 : i < c := by omega
          have hic : i ≤ c := by omega
          have hnews := row_cells (w := w1.alloc (.cells #[] 45)) (g := g) (L.drop i) (o + i * 2) (fun j y hj => by
            have q := HROW.out (i + j) y (by simpa using hj)
            have e := fun k => World.cell?_of_block (a := ⟨g, k, none⟩) (((Keeps.refl [] w1).alloc (.cells #[] 45)).block g (World.block_lt_of_cell? _ _ q.1) (by simp))
            rw [show o + i * 2 + j * 2 = o + (i + j) * 2 by omega]
            exact ⟨(e _).trans q.1, (e _).trans q.2⟩)
          have hnl : (flat ei2 (L.drop i)).length = (L.length - i) * 2 := by rw [length_flat ei2_len]; simp
          have h1c : ∀ u ∈ flat ei2 (L.drop i), u.oneCell' = true := by
            intro u hu
            simp [flat, ei2] at hu
            obtain ⟨_, _, _, h⟩ := hu
            rcases h with rfl | rfl <;> rfl
          have HNEWS := Lib.hid hnews
          clear hnews
          go_wp2_with (at_builtin; refine wpList_append_grows _ rfl (.tmp 29) (.tmp 35) 56 rfl 45 i0 _ 2 16 Try.underlying56 hi hz0 hz1 hz2 rfl (by decide) (some ⟨w1.heap.size, 0, none⟩) 0 0 [] rfl (fun h => by cases h) rfl (fun _ _ _ _ h => by simp at h) ⟨g, o + i * 2, none⟩ (L.length - i) (c - i) (flat ei2 (L.drop i)) rfl hnl HNEWS.out h1c (by omega) (by unfold maxLen; omega) (by omega) ?_; intro v2 w2 hown2 hgrow2; obtain ⟨g2, cap2, rfl, hg2, hg2l⟩ := hown2.form (by omega); rw [Nat.zero_add, List.nil_append] at hown2)
          have k15 : Keeps [] w1 w2 := ((Keeps.refl [] w1).alloc (.cells #[] 45)).grown hgrow2 (fun k e => by cases e)
          have K5 : Keeps [] w w2 := KW1.out.trans k15
          have b5 := k15.blk HB1.out (by simp)
          have x5 := k15.blk HX1.out (by simp)
          have hg2w : w.heap.size ≤ g2 := by simp at hg2; omega
          have HOWN2 := Lib.hid (ownsRow_base0 hown2)
          clear c0 f0 y0 y1 hml hxl hown2 hgrow2 HNEWS hg2
          generalize w2 = w5 at K5 b5 x5 k15 HOWN2 hg2l ⊢
          have m0 := cell_blk b5 0
          have g0 := free_blk b5 0
          have y0 := cell_blk x5 0
          have y1 := cell_blk x5 1
          have hml := blk_lt b5
          have hxl := blk_lt x5
          have n1 := World.new_ne w5 _ m0
          have n4 := World.new_ne w5 _ y0
          have n5 := World.new_ne w5 _ y1
          have n3 := fun (c : Array Value) (t : TypeId) => frozen?_alloc_cells w5 c t ⟨m, 0, none⟩
          have hl63 : i + 1 ≤ maxLen := by unfold maxLen; omega
          have hlby : (i + 1) * 16 ≤ 140737488355328 := by omega
          have hlo : (flat ei2 (L.take i)).length = i * 2 := by rw [length_flat ei2_len, List.length_take]; omega
          have holds : ∀ b, (some ⟨g, o, none⟩ : Option Addr) = some b → ∀ j u, (flat ei2 (L.take i))[j]? = some u → (w5.alloc (.cells #[.int .i64 x.1, .int .i64 x.2] 45)).cell? (b.add j) = some u := fun b hb => by
            injection hb with hb
            subst hb
            refine row_cells (L.take i) o (fun j y hj => ?_)
            have hj2 : L[j]? = some y := by
              rw [List.getElem?_take] at hj
              split at hj
              · exact hj
              · cases hj
            have q := HROW.out j y hj2
            have e := fun k => World.cell?_of_block (a := ⟨g, k, none⟩) ((k15.alloc (.cells #[.int .i64 x.1, .int .i64 x.2] 45)).block g (World.block_lt_of_cell? _ _ q.1) (by simp))
            exact ⟨(e _).trans q.1, (e _).trans q.2⟩
          have B5 := Lib.hid b5
          have X5 := Lib.hid x5
          have OLDS := Lib.hid holds
          clear b5 x5 holds
          go_region_law
            ((first
              | (refine step_append_grows (by rfl) (.tmp 44) (.tmp 46) 56 (by rfl) 45 i0 _ 2 16 Try.underlying56 hi hz0 hz1 hz2 (by rfl) (by decide) (some ⟨g, o, none⟩) i i (flat ei2 (L.take i)) (by rfl) (fun h => by cases h <;> simp) hlo (by exact OLDS.out) ⟨w5.heap.size, 0, none⟩ 1 1 (ei2 x) (by rfl) (by rfl) (by exact World.news_of_block (blk_new w5 _)) (by simp [ei2, Value.oneCell']) (by omega) hl63 hlby ?_; intro v3 w3 hown3 hgrow3; obtain ⟨g3, cap3, rfl, hg3, hg3l⟩ := hown3.form (by omega); have hb3 := Lib.hid (blk_grown hgrow3 (blk_alloc B5.out _) (by simp)); have hc3 := cell_blk hb3.out 0; have hf3 := free_blk hb3.out 0; have hg3c := (owns_row hown3).choose_spec.2.2.1; simp at hg3; have hown2b := ownsRow_same HOWN2.out (w' := w3) (fun q hq => own_far hgrow3 hg2l hq))
              | (refine step_append_lies _ (by rfl) (.tmp 47) (.tmp 48) 56 (by rfl) 0 45 i0 _ 2 16 Try.underlying56 hi hz0 hz1 hz2 (by rfl) (by decide) (.slice (some ⟨g3, 0, none⟩) (i + 1) cap3) (i + 1) (flat ei2 (L.take i) ++ ei2 x) (by rfl) (by exact ownsRow_base0 hown3) ⟨g2, 0, none⟩ (L.length - i) cap2 (flat ei2 (L.drop i)) (by rfl) hnl (by exact own_cells hown2b) h1c (by omega) (by unfold maxLen; omega) (by omega) (Nat.zero_le _) _ rfl ?_; intro g4 cap4 w4 hown4 hgrow4 hat4 hlt4; have hb4 := Lib.hid (blk_grown hgrow4 hb3.out (by simp [Value.ownBlock]; omega)); have hc4 := cell_blk hb4.out 0; have hf4 := free_blk hb4.out 0)))
          all_goals
            go_wp2
            go_returns
            have hsz5 := K5.size
            have hsz3 := hgrow3.size
            simp at hsz3
            have hg4 : g4 = g3 ∨ g4 = w3.heap.size := by simpa [Value.ownBlock, eq_comm] using hat4
            have hgm : g4 ≠ m := by omega
            have hat := insAt_le x L L.length
            rw [HAT0.out] at hat
            have hlen : (insR x L).length = i + 1 + (L.length - i) := by unfold insR; rw [HAT0.out]; simp; omega
            have hfl : flat ei2 (insR x L) = flat ei2 (L.take i) ++ ei2 x ++ flat ei2 (L.drop i) := by unfold insR; rw [HAT0.out]; simp [flat]
            refine ⟨rfl, [g4], MH.mk (base := 0) (g := g4) (c := cap4) (by rw [hlen]; have := blk_set_same hb4.out 0 (.slice (some ⟨g4, 0, none⟩) (i + 1 + (L.length - i)) cap4); simpa using this) (by rw [hlen, hfl]; exact ownsRow_same hown4 (fun q hq => Below.heap_setCell _ _ _ _ (by have e : q = g4 := (by simpa [Value.ownBlock] using hq.symm); subst e; simpa using hgm))) hgm, ?_, by simp; omega⟩
            exact ((((((K5.mono (G := [m]) (by simp)).alloc _).drew).grown hgrow3 (fun k e => by cases e))).grown hgrow4 (fun k e => .inr (by simp [Value.ownBlock] at e; omega))).setCell m 0 _ (.inl (by simp))
    · obtain ⟨k, rfl⟩ : ∃ k, i = k + 1 := ⟨i - 1, by omega⟩
      have hk0 : decide (0 < k + 1) = true := by simp
      have hk1 : (0 : Int) < ((k + 1 : Nat) : Int) := by omega
      have hw1 : IntKind.i64.wrap (((k + 1 : Nat) : Int) - 1) = (k : Int) := by rw [IntWalk.i64_in _ (by omega)]; omega
      have hkl : k < L.length := by omega
      obtain ⟨y, hy⟩ : ∃ y, L[k]? = some y := ⟨L[k], by simp [hkl]⟩
      obtain ⟨g, o, rfl, z0⟩ : ∃ g o, A = some ⟨g, o, none⟩ ∧ wr.cell? ⟨g, o + k * 2, none⟩ = some (.int .i64 y.1) := by
        obtain ⟨A', c', q1, q2, -, q4, q5⟩ := H.out
        rw [H1.out] at q1
        simp at q1
        obtain ⟨rfl, rfl⟩ := q1
        cases A with
        | none => have := q4 rfl; omega
        | some a =>
          obtain ⟨g, o, rfl, -, q7, q8⟩ := q5 a rfl
          have q9 := q8 k y hy
          exact ⟨g, o, rfl, (World.cell?_of_block (a := ⟨g, o + k * 2, none⟩) (HK.out.block g (q7 (by intro e; rw [e] at hkl; simp at hkl)) (by simp))).trans q9.1⟩
      have hyk : L[k]! = y := by rw [List.getElem!_eq_getElem?_getD, hy]; rfl
      have HY := Lib.hid hyk
      have HAT0 := Lib.hid (show insAt x L L.length = if x.1 < L[k]!.1 then insAt x L k else k + 1 from HAT.out)
      clear HAT hy hyk
      by_cases hlt : x.1 < y.1
      · go_wp2_with fail
        go_quiet (fail)
        go_wp2
        go_roundg k
        case rel => exact ⟨k, Nat.le_refl _, rfl, by omega, by rw [HAT0.out, HY.out, if_pos hlt], HK.out.drewN _⟩
        case measure => omega
      · have hltd : decide (x.1 < y.1) = false := decide_eq_false hlt
        go_wp2_with fail
        go_quiet (fail)
        have HK1 := Lib.hid (HK.out.drewN nq)
        have HATk := Lib.hid (show insAt x L L.length = k + 1 by rw [HAT0.out, HY.out, if_neg (by omega)])
        clear HK c0 y0 y1 HB1 HX1 HAT0 HY z0 hk1 hw1 hk0
        generalize wr.drewN nq = w1 at HK1 ⊢
        rw [show ((k : Int) + 1) = ((k + 1 : Nat) : Int) from rfl]
        have HAT0 := HATk
        clear HATk hkl hi hgh hlt hltd
        generalize k + 1 = i at HAT0 hil ⊢
        generalize (some ⟨g, o, none⟩ : Option Addr) = A at H1 H4 ⊢
        obtain ⟨A', c', q1, q2, -, q4, q5⟩ := H.out
        rw [H1.out] at q1
        simp at q1
        obtain ⟨rfl, rfl⟩ := q1
        have hb1 := HK1.out.blk H1.out (by simp)
        have hx1 := HK1.out.blk HBX.out (by simp)
        have hml := blk_lt hb1
        have hxl := blk_lt hx1
        have c0 := cell_blk hb1 0
        have f0 := free_blk hb1 0
        have y0 := cell_blk hx1 0
        have y1 := cell_blk hx1 1
        have Q5 := Lib.hid q5
        have Q4 := Lib.hid q4
        have HB1 := Lib.hid hb1
        have HX1 := Lib.hid hx1
        have KW1 := Lib.hid (K0.trans HK1.out)
        have hsw := KW1.out.size
        obtain ⟨i0, hi, hz0, hz1, hz2⟩ := info_parts infoT45
        clear q5 q4 hb1 hx1
        cases A with
        | none =>
          obtain rfl : c = 0 := Q4.out rfl
          obtain rfl : L = [] := List.eq_nil_of_length_eq_zero (by omega)
          obtain rfl : i = 0 := by simpa using hil
          go_wp2_with (at_builtin; refine wpList_append_zero _ rfl (.tmp 29) (.tmp 35) 56 rfl 45 i0 Try.underlying56 hi (some ⟨w1.heap.size, 0, none⟩) _ 0 0 _ rfl rfl (Nat.le_refl _) (fun h => by cases h) ?_)
          have K5 : Keeps [] w (w1.alloc (.cells #[] 45)) := KW1.out.alloc _
          have b5 := blk_alloc HB1.out (.cells #[] 45)
          have x5 := blk_alloc HX1.out (.cells #[] 45)
          have k15 : Keeps [] w1 (w1.alloc (.cells #[] 45)) := (Keeps.refl _ _).alloc _
          clear c0 f0 y0 y1 hml hxl
          obtain ⟨r, hr⟩ : ∃ r, r = w1.heap.size := ⟨_, rfl⟩
          rw [← hr]
          clear hr
          generalize w1.alloc (.cells #[] 45) = w5 at K5 b5 x5 k15 ⊢
          have m0 := cell_blk b5 0
          have g0 := free_blk b5 0
          have y0 := cell_blk x5 0
          have y1 := cell_blk x5 1
          have hml := blk_lt b5
          have hxl := blk_lt x5
          have n1 := World.new_ne w5 _ m0
          have n4 := World.new_ne w5 _ y0
          have n5 := World.new_ne w5 _ y1
          have n3 := fun (c : Array Value) (t : TypeId) => frozen?_alloc_cells w5 c t ⟨m, 0, none⟩
          have hl63 : 0 + 1 ≤ maxLen := by unfold maxLen; omega
          have hlby : (0 + 1) * 16 ≤ 140737488355328 := by omega
          have hlo : (flat ei2 (([] : List (Int × Int)).take 0)).length = 0 * 2 := by rw [length_flat ei2_len, List.length_take]; omega
          have holds : ∀ b, (none : Option Addr) = some b → ∀ j u, (flat ei2 (([] : List (Int × Int)).take 0))[j]? = some u → (w5.alloc (.cells #[.int .i64 x.1, .int .i64 x.2] 45)).cell? (b.add j) = some u := fun b hb => by cases hb
          have B5 := Lib.hid b5
          have X5 := Lib.hid x5
          have OLDS := Lib.hid holds
          clear b5 x5 holds
          go_region_law
            ((first
              | (refine step_append_grows (by rfl) (.tmp 44) (.tmp 46) 56 (by rfl) 45 i0 _ 2 16 Try.underlying56 hi hz0 hz1 hz2 (by rfl) (by decide) none 0 0 (flat ei2 (([] : List (Int × Int)).take 0)) (by rfl) (fun h => by cases h <;> simp) hlo (by exact OLDS.out) ⟨w5.heap.size, 0, none⟩ 1 1 (ei2 x) (by rfl) (by rfl) (by exact World.news_of_block (blk_new w5 _)) (by simp [ei2, Value.oneCell']) (by omega) hl63 hlby ?_; intro v3 w3 hown3 hgrow3; obtain ⟨g3, cap3, rfl, hg3, hg3l⟩ := hown3.form (by omega); have hb3 := Lib.hid (blk_grown hgrow3 (blk_alloc B5.out _) (by simp)); have hc3 := cell_blk hb3.out 0; have hf3 := free_blk hb3.out 0; have hg3c := (owns_row hown3).choose_spec.2.2.1; simp at hg3)
              | (refine step_append_zero _ (by rfl) (.tmp 47) (.tmp 48) 56 (by rfl) 45 i0 Try.underlying56 hi (some ⟨g3, 0, none⟩) _ (0 + 1) cap3 _ (by rfl) (by rfl) hg3c (fun h => by cases h) ?_)))
          all_goals
            go_wp2
            go_returns
            have hgm : g3 ≠ m := by omega
            have hsz5 := K5.size
            have hlen : (insR x ([] : List (Int × Int))).length = 1 := by rfl
            have hfl : flat ei2 (insR x ([] : List (Int × Int))) = flat ei2 (([] : List (Int × Int)).take 0) ++ ei2 x := by rfl
            refine ⟨rfl, [g3], MH.mk (base := 0) (g := g3) (c := cap3) (by rw [hlen]; have := blk_set_same hb3.out 0 (.slice (some ⟨g3, 0, none⟩) (1) cap3); simpa using this) (by rw [hlen, hfl]; exact ownsRow_same (ownsRow_base0 hown3) (fun q hq => Below.heap_setCell _ _ _ _ (by have e : q = g3 := (by simpa [Value.ownBlock] using hq.symm); subst e; simpa using hgm))) hgm, ?_, by simp; omega⟩
            exact (((((K5.mono (G := [m]) (by simp)).alloc _).drew).grown hgrow3 (fun k e => by cases e))).setCell m 0 _ (.inl (by simp))
        | some a =>
          obtain ⟨g, o, rfl, q6, q7, q8⟩ := Q5.out a rfl
          have hrow : ∀ j y, L[j]? = some y → w1.cell? ⟨g, o + j * 2, none⟩ = some (.int .i64 y.1) ∧ w1.cell? ⟨g, o + j * 2 + 1, none⟩ = some (.int .i64 y.2) := by
            intro j y hj
            have q9 := q8 j y hj
            have q10 := q7 (by intro e; rw [e] at hj; simp at hj)
            exact ⟨(World.cell?_of_block (a := ⟨g, o + j * 2, none⟩) (HK1.out.block g q10 (by simp))).trans q9.1, (World.cell?_of_block (a := ⟨g, o + j * 2 + 1, none⟩) (HK1.out.block g q10 (by simp))).trans q9.2⟩
          have HROW := Lib.hid hrow
          clear q7 q8 hrow
          by_cases hil2 : i = L.length
          · subst hil2
            by_cases hcl : c = L.length
            · subst hcl
              go_wp2_with (at_builtin; refine wpList_append_zero _ rfl (.tmp 29) (.tmp 35) 56 rfl 45 i0 Try.underlying56 hi (some ⟨w1.heap.size, 0, none⟩) _ 0 0 _ rfl rfl (Nat.le_refl _) (fun h => by cases h) ?_)
              have K5 : Keeps [] w (w1.alloc (.cells #[] 45)) := KW1.out.alloc _
              have b5 := blk_alloc HB1.out (.cells #[] 45)
              have x5 := blk_alloc HX1.out (.cells #[] 45)
              have k15 : Keeps [] w1 (w1.alloc (.cells #[] 45)) := (Keeps.refl _ _).alloc _
              clear c0 f0 y0 y1 hml hxl
              obtain ⟨r, hr⟩ : ∃ r, r = w1.heap.size := ⟨_, rfl⟩
              rw [← hr]
              clear hr
              generalize w1.alloc (.cells #[] 45) = w5 at K5 b5 x5 k15 ⊢
              have m0 := cell_blk b5 0
              have g0 := free_blk b5 0
              have y0 := cell_blk x5 0
              have y1 := cell_blk x5 1
              have hml := blk_lt b5
              have hxl := blk_lt x5
              have n1 := World.new_ne w5 _ m0
              have n4 := World.new_ne w5 _ y0
              have n5 := World.new_ne w5 _ y1
              have n3 := fun (c : Array Value) (t : TypeId) => frozen?_alloc_cells w5 c t ⟨m, 0, none⟩
              have hl63 : L.length + 1 ≤ maxLen := by unfold maxLen; omega
              have hlby : (L.length + 1) * 16 ≤ 140737488355328 := by omega
              have hlo : (flat ei2 (L.take L.length)).length = L.length * 2 := by rw [length_flat ei2_len, List.length_take]; omega
              have holds : ∀ b, (some ⟨g, o, none⟩ : Option Addr) = some b → ∀ j u, (flat ei2 (L.take L.length))[j]? = some u → (w5.alloc (.cells #[.int .i64 x.1, .int .i64 x.2] 45)).cell? (b.add j) = some u := fun b hb => by
                injection hb with hb
                subst hb
                refine row_cells (L.take L.length) o (fun j y hj => ?_)
                have hj2 : L[j]? = some y := by
                  rw [List.getElem?_take] at hj
                  split at hj
                  · exact hj
                  · cases hj
                have q := HROW.out j y hj2
                have e := fun k => World.cell?_of_block (a := ⟨g, k, none⟩) ((k15.alloc (.cells #[.int .i64 x.1, .int .i64 x.2] 45)).block g (World.block_lt_of_cell? _ _ q.1) (by simp))
                exact ⟨(e _).trans q.1, (e _).trans q.2⟩
              have B5 := Lib.hid b5
              have X5 := Lib.hid x5
              have OLDS := Lib.hid holds
              clear b5 x5 holds
              go_region_law
                ((first
                  | (refine step_append_grows (by rfl) (.tmp 44) (.tmp 46) 56 (by rfl) 45 i0 _ 2 16 Try.underlying56 hi hz0 hz1 hz2 (by rfl) (by decide) (some ⟨g, o, none⟩) L.length L.length (flat ei2 (L.take L.length)) (by rfl) (fun h => by cases h <;> simp) hlo (by exact OLDS.out) ⟨w5.heap.size, 0, none⟩ 1 1 (ei2 x) (by rfl) (by rfl) (by exact World.news_of_block (blk_new w5 _)) (by simp [ei2, Value.oneCell']) (by omega) hl63 hlby ?_; intro v3 w3 hown3 hgrow3; obtain ⟨g3, cap3, rfl, hg3, hg3l⟩ := hown3.form (by omega); have hb3 := Lib.hid (blk_grown hgrow3 (blk_alloc B5.out _) (by simp)); have hc3 := cell_blk hb3.out 0; have hf3 := free_blk hb3.out 0; have hg3c := (owns_row hown3).choose_spec.2.2.1; simp at hg3)
                  | (refine step_append_zero _ (by rfl) (.tmp 47) (.tmp 48) 56 (by rfl) 45 i0 Try.underlying56 hi (some ⟨g3, 0, none⟩) _ (L.length + 1) cap3 _ (by rfl) (by rfl) hg3c (fun h => by cases h) ?_)))
              all_goals
                go_wp2
                go_returns
                have hgm : g3 ≠ m := by omega
                have hsz5 := K5.size
                have hlen : (insR x L).length = L.length + 1 := by unfold insR; rw [HAT0.out]; simp
                have hfl : flat ei2 (insR x L) = flat ei2 (L.take L.length) ++ ei2 x := by unfold insR; rw [HAT0.out]; simp [flat]
                refine ⟨rfl, [g3], MH.mk (base := 0) (g := g3) (c := cap3) (by rw [hlen]; have := blk_set_same hb3.out 0 (.slice (some ⟨g3, 0, none⟩) (L.length + 1) cap3); simpa using this) (by rw [hlen, hfl]; exact ownsRow_same (ownsRow_base0 hown3) (fun q hq => Below.heap_setCell _ _ _ _ (by have e : q = g3 := (by simpa [Value.ownBlock] using hq.symm); subst e; simpa using hgm))) hgm, ?_, by simp; omega⟩
                exact (((((K5.mono (G := [m]) (by simp)).alloc _).drew).grown hgrow3 (fun k e => by cases e))).setCell m 0 _ (.inl (by simp))
            · have hcl2 : L.length < c := by omega
              go_wp2_with (at_builtin; refine wpList_append_zero _ rfl (.tmp 29) (.tmp 35) 56 rfl 45 i0 Try.underlying56 hi (some ⟨w1.heap.size, 0, none⟩) _ 0 0 _ rfl rfl (Nat.le_refl _) (fun h => by cases h) ?_)
              have K5 : Keeps [] w (w1.alloc (.cells #[] 45)) := KW1.out.alloc _
              have b5 := blk_alloc HB1.out (.cells #[] 45)
              have x5 := blk_alloc HX1.out (.cells #[] 45)
              have k15 : Keeps [] w1 (w1.alloc (.cells #[] 45)) := (Keeps.refl _ _).alloc _
              clear c0 f0 y0 y1 hml hxl
              obtain ⟨r, hr⟩ : ∃ r, r = w1.heap.size := ⟨_, rfl⟩
              rw [← hr]
              clear hr
              generalize w1.alloc (.cells #[] 45) = w5 at K5 b5 x5 k15 ⊢
              have m0 := cell_blk b5 0
              have g0 := free_blk b5 0
              have y0 := cell_blk x5 0
              have y1 := cell_blk x5 1
              have hml := blk_lt b5
              have hxl := blk_lt x5
              have n1 := World.new_ne w5 _ m0
              have n4 := World.new_ne w5 _ y0
              have n5 := World.new_ne w5 _ y1
              have n3 := fun (c : Array Value) (t : TypeId) => frozen?_alloc_cells w5 c t ⟨m, 0, none⟩
              have hl63 : L.length + 1 ≤ maxLen := by unfold maxLen; omega
              have hlby : (L.length + 1) * 16 ≤ 140737488355328 := by omega
              have hlo : (flat ei2 (L.take L.length)).length = L.length * 2 := by rw [length_flat ei2_len, List.length_take]; omega
              have holds : ∀ b, (some ⟨g, o, none⟩ : Option Addr) = some b → ∀ j u, (flat ei2 (L.take L.length))[j]? = some u → (w5.alloc (.cells #[.int .i64 x.1, .int .i64 x.2] 45)).cell? (b.add j) = some u := fun b hb => by
                injection hb with hb
                subst hb
                refine row_cells (L.take L.length) o (fun j y hj => ?_)
                have hj2 : L[j]? = some y := by
                  rw [List.getElem?_take] at hj
                  split at hj
                  · exact hj
                  · cases hj
                have q := HROW.out j y hj2
                have e := fun k => World.cell?_of_block (a := ⟨g, k, none⟩) ((k15.alloc (.cells #[.int .i64 x.1, .int .i64 x.2] 45)).block g (World.block_lt_of_cell? _ _ q.1) (by simp))
                exact ⟨(e _).trans q.1, (e _).trans q.2⟩
              have B5 := Lib.hid b5
              have X5 := Lib.hid x5
              have OLDS := Lib.hid holds
              clear b5 x5 holds
              go_region_law
                ((first
                  | (refine step_append_grows (by rfl) (.tmp 44) (.tmp 46) 56 (by rfl) 45 i0 _ 2 16 Try.underlying56 hi hz0 hz1 hz2 (by rfl) (by decide) (some ⟨g, o, none⟩) L.length L.length (flat ei2 (L.take L.length)) (by rfl) (fun h => by cases h <;> simp) hlo (by exact OLDS.out) ⟨w5.heap.size, 0, none⟩ 1 1 (ei2 x) (by rfl) (by rfl) (by exact World.news_of_block (blk_new w5 _)) (by simp [ei2, Value.oneCell']) (by omega) hl63 hlby ?_; intro v3 w3 hown3 hgrow3; obtain ⟨g3, cap3, rfl, hg3, hg3l⟩ := hown3.form (by omega); have hb3 := Lib.hid (blk_grown hgrow3 (blk_alloc B5.out _) (by simp)); have hc3 := cell_blk hb3.out 0; have hf3 := free_blk hb3.out 0; have hg3c := (owns_row hown3).choose_spec.2.2.1; simp at hg3)
                  | (refine step_append_zero _ (by rfl) (.tmp 47) (.tmp 48) 56 (by rfl) 45 i0 Try.underlying56 hi (some ⟨g3, 0, none⟩) _ (L.length + 1) cap3 _ (by rfl) (by rfl) hg3c (fun h => by cases h) ?_)))
              all_goals
                go_wp2
                go_returns
                have hgm : g3 ≠ m := by omega
                have hsz5 := K5.size
                have hlen : (insR x L).length = L.length + 1 := by unfold insR; rw [HAT0.out]; simp
                have hfl : flat ei2 (insR x L) = flat ei2 (L.take L.length) ++ ei2 x := by unfold insR; rw [HAT0.out]; simp [flat]
                refine ⟨rfl, [g3], MH.mk (base := 0) (g := g3) (c := cap3) (by rw [hlen]; have := blk_set_same hb3.out 0 (.slice (some ⟨g3, 0, none⟩) (L.length + 1) cap3); simpa using this) (by rw [hlen, hfl]; exact ownsRow_same (ownsRow_base0 hown3) (fun q hq => Below.heap_setCell _ _ _ _ (by have e : q = g3 := (by simpa [Value.ownBlock] using hq.symm); subst e; simpa using hgm))) hgm, ?_, by simp; omega⟩
                exact (((((K5.mono (G := [m]) (by simp)).alloc _).drew).grown hgrow3 (fun k e => by cases e))).setCell m 0 _ (.inl (by simp))
          · have hi3 : i < L.length := by omega
            have hi4 : i < c := by omega
            have hic : i ≤ c := by omega
            have hnews := row_cells (w := w1.alloc (.cells #[] 45)) (g := g) (L.drop i) (o + i * 2) (fun j y hj => by
              have q := HROW.out (i + j) y (by simpa using hj)
              have e := fun k => World.cell?_of_block (a := ⟨g, k, none⟩) (((Keeps.refl [] w1).alloc (.cells #[] 45)).block g (World.block_lt_of_cell? _ _ q.1) (by simp))
              rw [show o + i * 2 + j * 2 = o + (i + j) * 2 by omega]
              exact ⟨(e _).trans q.1, (e _).trans q.2⟩)
            have hnl : (flat ei2 (L.drop i)).length = (L.length - i) * 2 := by rw [length_flat ei2_len]; simp
            have h1c : ∀ u ∈ flat ei2 (L.drop i), u.oneCell' = true := by
              intro u hu
              simp [flat, ei2] at hu
              obtain ⟨_, _, _, h⟩ := hu
              rcases h with rfl | rfl <;> rfl
            have HNEWS := Lib.hid hnews
            clear hnews
            go_wp2_with (at_builtin; refine wpList_append_grows _ rfl (.tmp 29) (.tmp 35) 56 rfl 45 i0 _ 2 16 Try.underlying56 hi hz0 hz1 hz2 rfl (by decide) (some ⟨w1.heap.size, 0, none⟩) 0 0 [] rfl (fun h => by cases h) rfl (fun _ _ _ _ h => by simp at h) ⟨g, o + i * 2, none⟩ (L.length - i) (c - i) (flat ei2 (L.drop i)) rfl hnl HNEWS.out h1c (by omega) (by unfold maxLen; omega) (by omega) ?_; intro v2 w2 hown2 hgrow2; obtain ⟨g2, cap2, rfl, hg2, hg2l⟩ := hown2.form (by omega); rw [Nat.zero_add, List.nil_append] at hown2)
            have k15 : Keeps [] w1 w2 := ((Keeps.refl [] w1).alloc (.cells #[] 45)).grown hgrow2 (fun k e => by cases e)
            have K5 : Keeps [] w w2 := KW1.out.trans k15
            have b5 := k15.blk HB1.out (by simp)
            have x5 := k15.blk HX1.out (by simp)
            have hg2w : w.heap.size ≤ g2 := by simp at hg2; omega
            have HOWN2 := Lib.hid (ownsRow_base0 hown2)
            clear c0 f0 y0 y1 hml hxl hown2 hgrow2 HNEWS hg2
            generalize w2 = w5 at K5 b5 x5 k15 HOWN2 hg2l ⊢
            have m0 := cell_blk b5 0
            have g0 := free_blk b5 0
            have y0 := cell_blk x5 0
            have y1 := cell_blk x5 1
            have hml := blk_lt b5
            have hxl := blk_lt x5
            have n1 := World.new_ne w5 _ m0
            have n4 := World.new_ne w5 _ y0
            have n5 := World.new_ne w5 _ y1
            have n3 := fun (c : Array Value) (t : TypeId) => frozen?_alloc_cells w5 c t ⟨m, 0, none⟩
            have hl63 : i + 1 ≤ maxLen := by unfold maxLen; omega
            have hlby : (i + 1) * 16 ≤ 140737488355328 := by omega
            have hlo : (flat ei2 (L.take i)).length = i * 2 := by rw [length_flat ei2_len, List.length_take]; omega
            have holds : ∀ b, (some ⟨g, o, none⟩ : Option Addr) = some b → ∀ j u, (flat ei2 (L.take i))[j]? = some u → (w5.alloc (.cells #[.int .i64 x.1, .int .i64 x.2] 45)).cell? (b.add j) = some u := fun b hb => by
              injection hb with hb
              subst hb
              refine row_cells (L.take i) o (fun j y hj => ?_)
              have hj2 : L[j]? = some y := by
                rw [List.getElem?_take] at hj
                split at hj
                · exact hj
                · cases hj
              have q := HROW.out j y hj2
              have e := fun k => World.cell?_of_block (a := ⟨g, k, none⟩) ((k15.alloc (.cells #[.int .i64 x.1, .int .i64 x.2] 45)).block g (World.block_lt_of_cell? _ _ q.1) (by simp))
              exact ⟨(e _).trans q.1, (e _).trans q.2⟩
            have B5 := Lib.hid b5
            have X5 := Lib.hid x5
            have OLDS := Lib.hid holds
            clear b5 x5 holds
            go_region_law
              ((first
                | (refine step_append_grows (by rfl) (.tmp 44) (.tmp 46) 56 (by rfl) 45 i0 _ 2 16 Try.underlying56 hi hz0 hz1 hz2 (by rfl) (by decide) (some ⟨g, o, none⟩) i i (flat ei2 (L.take i)) (by rfl) (fun h => by cases h <;> simp) hlo (by exact OLDS.out) ⟨w5.heap.size, 0, none⟩ 1 1 (ei2 x) (by rfl) (by rfl) (by exact World.news_of_block (blk_new w5 _)) (by simp [ei2, Value.oneCell']) (by omega) hl63 hlby ?_; intro v3 w3 hown3 hgrow3; obtain ⟨g3, cap3, rfl, hg3, hg3l⟩ := hown3.form (by omega); have hb3 := Lib.hid (blk_grown hgrow3 (blk_alloc B5.out _) (by simp)); have hc3 := cell_blk hb3.out 0; have hf3 := free_blk hb3.out 0; have hg3c := (owns_row hown3).choose_spec.2.2.1; simp at hg3; have hown2b := ownsRow_same HOWN2.out (w' := w3) (fun q hq => own_far hgrow3 hg2l hq))
                | (refine step_append_lies _ (by rfl) (.tmp 47) (.tmp 48) 56 (by rfl) 0 45 i0 _ 2 16 Try.underlying56 hi hz0 hz1 hz2 (by rfl) (by decide) (.slice (some ⟨g3, 0, none⟩) (i + 1) cap3) (i + 1) (flat ei2 (L.take i) ++ ei2 x) (by rfl) (by exact ownsRow_base0 hown3) ⟨g2, 0, none⟩ (L.length - i) cap2 (flat ei2 (L.drop i)) (by rfl) hnl (by exact own_cells hown2b) h1c (by omega) (by unfold maxLen; omega) (by omega) (Nat.zero_le _) _ rfl ?_; intro g4 cap4 w4 hown4 hgrow4 hat4 hlt4; have hb4 := Lib.hid (blk_grown hgrow4 hb3.out (by simp [Value.ownBlock]; omega)); have hc4 := cell_blk hb4.out 0; have hf4 := free_blk hb4.out 0)))
            all_goals
              go_wp2
              go_returns
              have hsz5 := K5.size
              have hsz3 := hgrow3.size
              simp at hsz3
              have hg4 : g4 = g3 ∨ g4 = w3.heap.size := by simpa [Value.ownBlock, eq_comm] using hat4
              have hgm : g4 ≠ m := by omega
              have hat := insAt_le x L L.length
              rw [HAT0.out] at hat
              have hlen : (insR x L).length = i + 1 + (L.length - i) := by unfold insR; rw [HAT0.out]; simp; omega
              have hfl : flat ei2 (insR x L) = flat ei2 (L.take i) ++ ei2 x ++ flat ei2 (L.drop i) := by unfold insR; rw [HAT0.out]; simp [flat]
              refine ⟨rfl, [g4], MH.mk (base := 0) (g := g4) (c := cap4) (by rw [hlen]; have := blk_set_same hb4.out 0 (.slice (some ⟨g4, 0, none⟩) (i + 1 + (L.length - i)) cap4); simpa using this) (by rw [hlen, hfl]; exact ownsRow_same hown4 (fun q hq => Below.heap_setCell _ _ _ _ (by have e : q = g4 := (by simpa [Value.ownBlock] using hq.symm); subst e; simpa using hgm))) hgm, ?_, by simp; omega⟩
              exact ((((((K5.mono (G := [m]) (by simp)).alloc _).drew).grown hgrow3 (fun k e => by cases e))).grown hgrow4 (fun k e => .inr (by simp [Value.ownBlock] at e; omega))).setCell m 0 _ (.inl (by simp))
end Go.Proofs.Ytlcbcagbiiachaa
