/- The document's own queue: Push and Pop. -/
import Derived.Test.YtoecfimmgiajpaaStops
import Derived.Deep.AppendLies
namespace Go.Proofs.Ytoecfimmgiajpaa
open Go.RowKit

/-- The document's queue at block m (its memory: G) holds ys; the greatest length that there was. -/
def MQ (W : World) (m : Nat) (G : List Nat) (ys : List Int) (most : Nat) : Prop :=
  ∃ (a : Option Addr) (cap : Nat), W.heap[m]? = some (.cells #[.slice a ys.length cap, .int .i64 (most : Int)] 50 (0, 0)) ∧ m ∈ G ∧ ys.length ≤ cap ∧ ys.length ≤ most ∧ (a = none → cap = 0) ∧
    (ys ≠ [] → ∃ g o cs, a = some ⟨g, o, none⟩ ∧ g ∈ G ∧ g ≠ m ∧ W.heap[g]? = some (.cells cs 3 (0, 0)) ∧ ∀ i x, ys[i]? = some x → cs[o + i]? = some (.int .i64 x))

theorem MQ.kept {W W' : World} {m : Nat} {G : List Nat} {ys : List Int} {most : Nat} (h : MQ W m G ys most) {F : List Nat} (k : Keeps F W W') (hF : ∀ g ∈ F, g ∉ G) : MQ W' m G ys most := by
  obtain ⟨a, cap, h1, h2, h3, h4, h6, h5⟩ := h
  refine ⟨a, cap, k.blk h1 (fun hb => hF _ hb h2), h2, h3, h4, h6, fun hne => ?_⟩
  obtain ⟨g, o, cs, ha, hg, hgm, hb, hc⟩ := h5 hne
  exact ⟨g, o, cs, ha, hg, hgm, k.blk hb (fun hf => hF _ hf hg), hc⟩

/-- append([]E{}, l...): all of a row of numbers, laid anew. -/
theorem wpList_append_row {P : Program} {ops : Array Oper} {rest : List Oper} {o : Oper} {a : Act} {Q : Exit → Act → World → Prop} {w : World} (hgd : o.guard = none) (s x : Operand) (t : TypeId)
    (ho : o.op = .call { callee := .builtin .append, args := #[s, x], argTypes := #[t, t] })
    (base : Nat) (e : TypeId) (i : TypeInfo) (z : Value) (bytes : Nat) (ht : P.underlying t = some (.slice e)) (hi : P.info? e = some i) (hz : i.zero = some z)
    (hsize : i.size = 1) (hby : i.bytes = bytes) (hzs : z.cells.size = 1)
    (g : Nat) (hs : a.eval s = .slice (some ⟨g, 0, none⟩) 0 0) (hown : w.ownsRow base e 1 (.slice (some ⟨g, 0, none⟩) 0 0) 0 [])
    (ao : Option Addr) (m c : Nat) (news : List Value) (hx : a.eval x = .slice ao m c) (hl : news.length = m) (hnone : ao = none → m = 0 ∧ c = 0)
    (hnews : ∀ ad, ao = some ad → ∀ j u, news[j]? = some u → w.cell? (ad.add j) = some u) (h1 : ∀ u ∈ news, u.oneCell' = true)
    (h63 : m ≤ maxLen) (hbytes : m * bytes ≤ 140737488355328) (hbase : base ≤ w.heap.size) (H : Nat) (hH : w.heap.size = H)
    (h : ∀ g' cap w', w'.ownsRow base e 1 (.slice (some ⟨g', 0, none⟩) m cap) m news → w.grownBy w' (some g) → (g = g' ∨ g' = H) → g' < w'.heap.size → wpList P ops Q rest (a.put o.dst (.slice (some ⟨g', 0, none⟩) m cap)) w') : wpList P ops Q (o :: rest) a w := by
  by_cases hm : m = 0
  · subst hm
    obtain rfl : news = [] := List.eq_nil_of_length_eq_zero hl
    refine wpList_append_fits_any _ hgd s x t ho base e i 1 ht hi hsize g 0 0 [] hs hown ao 0 c [] hx (by simp) hnone (by simp) (by simp) (by decide) ?_
    intro w' h1 h2
    refine h g 0 w' (by simpa using h1) h2 (.inl rfl) ?_
    rcases hown.2 with ⟨h', _⟩ | ⟨g', cap', cur, h3, h4, h5, _⟩
    · cases h'
    · cases h3; exact Nat.lt_of_lt_of_le (blk_lt h5) h2.size
  · cases ao with
    | none => exact absurd (hnone rfl).1 hm
    | some ad =>
      refine wpList_append_lies w hgd s x t ho base e i z 1 bytes ht hi hz hsize hby hzs (by decide) _ 0 [] hs hown ad m c news hx (by simpa using hl) (hnews ad rfl) h1 (by omega) (by omega) (by simpa using hbytes) hbase H hH ?_
      intro g' cap w' h3 h4 h5 h6
      simp only [Nat.zero_add, List.nil_append] at h3 ⊢
      exact h g' cap w' h3 h4 (by simpa [Value.ownBlock] using h5) h6

theorem mpush (m : Nat) (G : List Nat) (ys : List Int) (most : Nat) (x : Int) (w : World) (h : MQ w m G ys most) (hn : ys.length ≤ 1000) (hmx : most ≤ 1000) :
    Calls Try.prog 21 #[.pointer (some ⟨m, 0, none⟩), .int .i64 x] w fun e w' => e = .returned (.tuple #[]) ∧ ∃ G' : List Nat, MQ w' m G' (ys ++ [x]) (max most (ys.length + 1)) ∧ Keeps [m] w w' ∧ ∀ k ∈ G', k = m ∨ w.heap.size ≤ k := by
  obtain ⟨a, cap, hb, hmG, hcap, hmost, hnone, hrow⟩ := h
  obtain ⟨h0, h1, f0, f1⟩ := facts2 hb
  obtain ⟨i0, hi, hz0, hz1, hz2⟩ := info_parts infoI
  have hbl := blk_lt hb
  have HB := Lib.hid hb
  have HR := Lib.hid hrow
  have HN := Lib.hid hn
  have HM := Lib.hid hmost
  have HC := Lib.hid hcap
  clear hb hrow hn hmost hcap
  have hown0 : (w.alloc (.cells #[] 3)).ownsRow w.heap.size 3 1 (.slice (some ⟨w.heap.size, 0, none⟩) 0 0) 0 [] :=
    ⟨rfl, .inr ⟨w.heap.size, 0, #[], rfl, Nat.le_refl _, blk_new _ _, Nat.le_refl _, Nat.zero_le _, rfl, rfl⟩⟩
  have hnews : ∀ ad, a = some ad → ∀ j u, (ys.map (fun y : Int => (Value.int .i64 y)))[j]? = some u → (w.alloc (.cells #[] 3)).cell? (ad.add j) = some u := by
    intro ad had j u hu
    have hne : ys ≠ [] := by intro e; rw [e] at hu; simp at hu
    obtain ⟨g, o, cs, ha, hg, hgm, hb, hc⟩ := HR.out hne
    rw [had] at ha
    cases ha
    rw [addr_add, cell_blk (blk_alloc hb _)]
    rw [List.getElem?_map] at hu
    cases hy : ys[j]? with
    | none => rw [hy] at hu; simp at hu
    | some y => rw [hy] at hu; simp at hu; subst hu; exact hc j y hy
  go_enter Try.func21, Try.ntmps21
  go_wp2_with (first
    | (at_builtin; refine wpList_append_row rfl _ _ 39 rfl w.heap.size 3 i0 _ 8 Try.underlying39 hi hz0 hz1 hz2 rfl w.heap.size rfl hown0 a ys.length cap (ys.map (fun y : Int => (Value.int .i64 y))) rfl (by simp) (fun h => ⟨by have := hnone h; have := HC.out; omega, hnone h⟩) hnews (by simp [Value.oneCell']) (by unfold maxLen; have := HN.out; omega) (by have := HN.out; omega) (by simp) (w.heap.size + 1) (by simp) ?_
       intro g1 cap1 w1 hown1 hgrow1 hat1 hlt1
       have hb1 := blk_grown hgrow1 (blk_alloc HB.out _) (show some w.heap.size ≠ some m by simp; omega)
       have hs1 := hgrow1.size
       simp only [World.size_alloc] at hs1
       have k1 : Keeps [] w w1 := ((Keeps.refl [] w).alloc _).grown hgrow1 (fun k e => by cases e; exact .inr (Nat.le_refl _))
       have HB1 := Lib.hid hb1
       have HO1 := Lib.hid hown1
       have hg1 : w.heap.size ≤ g1 := by rcases hat1 with h | h <;> omega
       clear hb1 hown1 hgrow1 hat1 hnews hown0 h0 h1 f0 f1)
    | (at_builtin; refine wpList_append_lies _ rfl _ _ 39 rfl w.heap.size 3 i0 _ 1 8 Try.underlying39 hi hz0 hz1 hz2 rfl (by decide) (.slice (some ⟨g1, 0, none⟩) ys.length cap1) ys.length _ rfl (HO1.out.alloc _) ⟨w1.heap.size, 0, none⟩ 1 1 [.int .i64 x] rfl rfl (World.news_of_block (blk_new w1 _)) (by simp [Value.oneCell']) (by decide) (by unfold maxLen; have := HN.out; omega) (by have := HN.out; omega) (by simp; omega) (w1.heap.size + 1) (by simp) ?_
       intro g2 cap2 w2 hown2 hgrow2 hat2 hlt2
       have hb2 := blk_grown hgrow2 (blk_alloc HB1.out _) (show some g1 ≠ some m by simp; omega)
       have HB2 := Lib.hid hb2
       have HO2 := Lib.hid hown2
       have c0 := cell_blk hb2 0
       have f0 := free_blk hb2 0
       have HG2 := Lib.hid hgrow2
       have HA2 := Lib.hid hat2
       clear hb2 hown2 hgrow2 hat2))
  have hbs := blk_set_same HB2.out 0 (.slice (some ⟨g2, 0, none⟩) (ys.length + 1) cap2)
  have hg2 : w.heap.size ≤ g2 := by
    rcases HA2.out with h | h
    · simp [Value.ownBlock] at h; omega
    · omega
  have k2 : Keeps [m] w (w2.setCell ⟨m, 0, none⟩ (.slice (some ⟨g2, 0, none⟩) (ys.length + 1) cap2)) :=
    (((k1.alloc _).grown HG2.out (fun k e => by simp [Value.ownBlock] at e; subst e; exact .inr hg1)).mono (by simp)).setCell m 0 _ (.inl (by simp))
  have hr2 : ∃ cur, w2.heap[g2]? = some (.cells cur 3 (0, 0)) ∧ ys.length + 1 ≤ cap2 ∧ ∀ i y, (ys ++ [x])[i]? = some y → cur[0 + i]? = some (.int .i64 y) := by
    obtain ⟨cur, q1, q2, q3, q4, -⟩ := owns_block HO2.out
    refine ⟨cur.toArray, q1, q3, ?_⟩
    intro i y hy
    have e : (ys ++ [x]).map (fun y : Int => Value.int .i64 y) = cur.take (ys.length + 1) := by rw [q4]; simp
    have hlt : i < ys.length + 1 := by
      rcases Nat.lt_or_ge i (ys.length + 1) with h | h
      · exact h
      · rw [List.getElem?_eq_none (by simpa using h)] at hy; cases hy
    have h3 : ((ys ++ [x]).map (fun y : Int => Value.int .i64 y))[i]? = some (.int .i64 y) := by rw [List.getElem?_map, hy]; rfl
    rw [e, List.getElem?_take, if_pos hlt] at h3
    simpa using h3
  have HR2 := Lib.hid hr2
  clear hr2
  generalize hw3 : (w2.setCell ⟨m, 0, none⟩ (.slice (some ⟨g2, 0, none⟩) (ys.length + 1) cap2)) = w3 at hbs k2 ⊢
  simp only [List.setIfInBounds_toArray, List.set_cons_zero] at hbs
  obtain ⟨d0, d1, e0, e1⟩ := facts2 hbs
  have HBS := Lib.hid hbs
  have HR3 : Hid (∃ cur, w3.heap[g2]? = some (.cells cur 3 (0, 0)) ∧ ys.length + 1 ≤ cap2 ∧ ∀ i y, (ys ++ [x])[i]? = some y → cur[0 + i]? = some (.int .i64 y)) := Lib.hid (by
    obtain ⟨cur, q1, q2, q3⟩ := HR2.out
    exact ⟨cur, (hw3 ▸ blk_set_other q1 _ _ (show m ≠ g2 by omega)), q2, q3⟩)
  clear hbs hw3
  go_still_tail 13, (by kernel_rfl)
  refine name_drew_list (w := w3) ?_
  rintro w4 K4 -
  have hb4 := K4.blk HBS.out (by simp)
  have e4 := free_blk hb4 1
  have c4 := cell_blk hb4 1
  have HB4 := Lib.hid hb4
  clear hb4 d0 d1 e0 e1 c0 f0
  have fin : ∀ (M : Int), M = (max most (ys.length + 1) : Nat) → MQ (w4.setCell ⟨m, 1, none⟩ (.int .i64 M)) m [m, g2] (ys ++ [x]) (max most (ys.length + 1)) := by
    rintro M rfl
    obtain ⟨cur, q1, q2, q3⟩ := HR3.out
    refine ⟨some ⟨g2, 0, none⟩, cap2, ?_, by simp, by simpa using q2, by simp; omega, by simp, fun _ => ⟨g2, 0, cur, rfl, by simp, by omega, blk_set_other (K4.blk q1 (by simp)) _ _ (by simp; omega), q3⟩⟩
    have := blk_set_same HB4.out 1 (.int .i64 ((max most (ys.length + 1) : Nat) : Int))
    simpa using this
  have kfin : ∀ M : Value, Keeps [m] w (w4.setCell ⟨m, 1, none⟩ M) := fun M => (k2.trans (K4.mono (by simp))).setCell m 1 _ (.inl (by simp))
  have gfin : ∀ k ∈ [m, g2], k = m ∨ w.heap.size ≤ k := by
    intro k hk
    simp at hk
    rcases hk with rfl | rfl
    · exact .inl rfl
    · exact .inr hg2
  have FIN := Lib.hid fin
  have KFIN := Lib.hid kfin
  have GFIN := Lib.hid gfin
  clear fin kfin gfin
  by_cases hlt : (most : Int) < (ys.length : Int) + 1
  · go_wp2
    go_returns
    exact ⟨rfl, [m, g2], FIN.out _ (by omega), KFIN.out _, GFIN.out⟩
  · go_wp2
    go_returns
    exact ⟨rfl, [m, g2], FIN.out _ (by omega), KFIN.out _, GFIN.out⟩

theorem mpop_some (m : Nat) (G : List Nat) (y : Int) (ys : List Int) (most : Nat) (w : World) (h : MQ w m G (y :: ys) most) (hn : ys.length ≤ 1000) :
    Calls Try.prog 22 #[.pointer (some ⟨m, 0, none⟩)] w fun e w' => e = .returned (.int .i64 y) ∧ MQ w' m G ys most ∧ Keeps [m] w w' := by
  obtain ⟨a, cap, hb, hmG, hcap, hmost, hnone, hrow⟩ := h
  obtain ⟨g, o, cs, rfl, hgG, hgm, hg, hc⟩ := hrow (by simp)
  obtain ⟨h0, h1, f0, f1⟩ := facts2 hb
  have hy : w.cell? ⟨g, o, none⟩ = some (.int .i64 y) := (cell_blk hg _).trans (by simpa using hc 0 y rfl)
  have HB := Lib.hid hb
  have HG := Lib.hid hg
  have HC := Lib.hid hc
  have HN := Lib.hid hn
  have HCAP := Lib.hid hcap
  have hne : (((y :: ys).length : Int) == 0) = false := by simp; omega
  have l1 : (1 : Int) ≤ ((y :: ys).length : Int) := by simp; omega
  have fin : ∀ o', (ys ≠ [] → o' = o + 1) → MQ (w.setCell ⟨m, 0, none⟩ (.slice (some ⟨g, o', none⟩) ys.length (cap - 1))) m G ys most := by
    intro o' ho
    refine ⟨some ⟨g, o', none⟩, cap - 1, ?_, hmG, by simp at hcap; omega, by simp at hmost; omega, by simp, fun hne => ⟨g, o', cs, rfl, hgG, hgm, blk_set_other hg _ _ (Ne.symm hgm), ?_⟩⟩
    · have := blk_set_same hb 0 (.slice (some ⟨g, o', none⟩) ys.length (cap - 1))
      simpa using this
    · intro i x hx
      rw [ho hne]
      have := hc (i + 1) x (by simpa using hx)
      rw [← this]
      congr 1
      omega
  have FIN := Lib.hid fin
  clear hb hg hc hn hcap fin hnone hrow
  have kf : ∀ v : Value, Keeps [m] w (w.setCell ⟨m, 0, none⟩ v) := fun v => (Keeps.refl _ _).setCell m 0 v (.inl (by simp))
  go_enter Try.func22, Try.ntmps22
  by_cases hc1 : cap = 1
  · go_wp2
    go_ret
    have h9 := HCAP.out
    refine ⟨rfl, ?_, kf _⟩
    have := FIN.out o (by intro e; have := List.length_pos_iff.2 e; simp at h9; omega)
    simpa [hc1] using this
  · go_wp2
    go_ret
    exact ⟨rfl, FIN.out _ (fun _ => rfl), kf _⟩

theorem mpop_none (m : Nat) (G : List Nat) (most : Nat) (w : World) (h : MQ w m G [] most) :
    Calls Try.prog 22 #[.pointer (some ⟨m, 0, none⟩)] w fun e w' => e = .returned (.int .i64 0) ∧ w = w' := by
  obtain ⟨a, cap, hb, -⟩ := h
  obtain ⟨h0, h1, f0, f1⟩ := facts2 hb
  clear hb
  go_enter Try.func22, Try.ntmps22
  go_wp2
  go_ret
  exact ⟨rfl, rfl⟩
end Go.Proofs.Ytoecfimmgiajpaa
