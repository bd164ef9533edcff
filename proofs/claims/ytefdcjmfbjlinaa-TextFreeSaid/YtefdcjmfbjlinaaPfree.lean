/- TextFree, plain: whatever the order of the fields, and what is left out between tokens, the task is the same. -/
import Derived.Test.YtefdcjmfbjlinaaPlx2
import Derived.Test.YtefdcjmfbjlinaaPparses
import Derived.Test.YtefdcjmfbjlinaaAx11
set_option linter.unusedVariables false
set_option linter.unusedSimpArgs false
namespace Go.Proofs.Ytefdcjmfbjlinaa.A
open Go.RowKit Go.Proofs.YtefdcjmfbjlinaaW.PrintWords Go.Proofs.YtefdcjmfbjlinaaW.PrintLast Go.Proofs.YtefdcjmfbjlinaaW.PrintMore Go.Proofs.Ytefdcjmfbjlinaa.Sc

/-- Which fields are left out. -/
def skf (s2 s3 s4 : Bool) (k : Nat) : Bool := if k = 2 then s2 else if k = 3 then s3 else if k = 4 then s4 else false
def vf (x : Tsk) (k : Nat) : Nat := if k = 0 then x.c.toNat else if k = 1 then x.t.toNat else if k = 2 then x.d.toNat else if k = 3 then x.j.toNat else if k = 4 then x.q.toNat else x.p.toNat
/-- The last n turns: their fields, their bytes. -/
def flI (r : Nat) (sk : Nat → Bool) (v : Nat → Nat) : Nat → List (Nat × Nat)
  | 0 => []
  | n + 1 => (if sk ((5 - n + r) % 6) then [] else [((5 - n + r) % 6, v ((5 - n + r) % 6))]) ++ flI r sk v n
def tlI (r : Nat) (sk : Nat → Bool) (v : Nat → Nat) (g : List UInt8) : Nat → List UInt8
  | 0 => []
  | n + 1 => (if sk ((5 - n + r) % 6) then [] else 32 :: (fldB ((5 - n + r) % 6, v ((5 - n + r) % 6)) ++ g)) ++ tlI r sk v g n
theorem free_fin {x : Tsk} (h : GoodT x) (r : Nat) (hr : r < 6) (s2 s3 s4 : Bool) (h2 : s2 = true → x.d = x.t) (h3 : s3 = true → x.j = 0) (h4 : s4 = true → x.q = 1) :
    finF (setFs (begT x.nm.data.toList) (fun _ => true) (flI r (skf s2 s3 s4) (vf x) 6)).1 (setFs (begT x.nm.data.toList) (fun _ => true) (flI r (skf s2 s3 s4) (vf x) 6)).2 = some x := by
  obtain ⟨_, _, h1, ht, hd, hj, hq, hp⟩ := h
  obtain ⟨nm, c, t, d, j, q, p⟩ := x
  simp only at h1 ht hd hj hq hp h2 h3 h4
  obtain ⟨c, rfl⟩ := Int.eq_ofNat_of_zero_le h1.1
  obtain ⟨t, rfl⟩ := Int.eq_ofNat_of_zero_le ht.1
  obtain ⟨d, rfl⟩ := Int.eq_ofNat_of_zero_le hd.1
  obtain ⟨j, rfl⟩ := Int.eq_ofNat_of_zero_le hj.1
  obtain ⟨q, rfl⟩ := Int.eq_ofNat_of_zero_le hq.1
  obtain ⟨p, rfl⟩ := Int.eq_ofNat_of_zero_le hp.1
  have hd : ¬ (d : Int) < 0 := by omega
  have h2 : s2 = true → d = t := fun h => by have := h2 h; omega
  have h3 : s3 = true → j = 0 := fun h => by have := h3 h; omega
  have h4 : s4 = true → q = 1 := fun h => by have := h4 h; omega
  clear h1 ht hj hq hp
  have hcase : r = 0 ∨ r = 1 ∨ r = 2 ∨ r = 3 ∨ r = 4 ∨ r = 5 := by omega
  rcases hcase with rfl | rfl | rfl | rfl | rfl | rfl <;> cases s2 <;> cases s3 <;> cases s4 <;> (try (have h2 := h2 rfl; subst h2)) <;> (try (have h3 := h3 rfl; subst h3)) <;> (try (have h4 := h4 rfl; subst h4)) <;> simp [flI, skf, vf, setFs, setF, offF, finF, begT, hd]
theorem fl_pairs (r : Nat) (hr : r < 6) (s2 s3 s4 : Bool) (v : Nat → Nat) : (flI r (skf s2 s3 s4) v 6).Pairwise (fun a b => a.1 ≠ b.1) := by
  have hcase : r = 0 ∨ r = 1 ∨ r = 2 ∨ r = 3 ∨ r = 4 ∨ r = 5 := by omega
  rcases hcase with rfl | rfl | rfl | rfl | rfl | rfl <;> cases s2 <;> cases s3 <;> cases s4 <;> simp [flI, skf]
theorem fl_in (r : Nat) (sk : Nat → Bool) (v : Nat → Nat) (hv : ∀ k, v k ≤ 1099511627776) : ∀ n, ∀ f ∈ flI r sk v n, f.1 < 6 ∧ f.2 ≤ 1099511627776
  | 0 => by simp [flI]
  | n + 1 => by
    intro f hf
    simp only [flI, List.mem_append] at hf
    rcases hf with hf | hf
    · split at hf
      · simp at hf
      · simp only [List.mem_singleton] at hf
        subst hf
        exact ⟨Nat.mod_lt _ (by omega), hv _⟩
    · exact fl_in r sk v hv n f hf
def HB (l : List UInt8) : Prop := ∀ c l', l = c :: l' → isGo c = false
theorem hb_cons {c : UInt8} {l : List UInt8} (h : isGo c = false) : HB (c :: l) := by
  intro d l' e
  injection e with e1 e2
  subst e1
  exact h
theorem hb_dig {l : List UInt8} (h : HB l) : ∀ c l', l = c :: l' → isDig c = false := by
  intro c l' e
  have := h c l' e
  simp only [isGo, Bool.or_eq_false_iff] at this
  exact this.2
theorem hb_tl (r : Nat) (sk : Nat → Bool) (v : Nat → Nat) (g l : List UInt8) (hl : HB l) : ∀ n, HB (tlI r sk v g n ++ l)
  | 0 => by simpa [tlI] using hl
  | n + 1 => by
    unfold tlI
    split
    · exact hb_tl r sk v g l hl n
    · exact hb_cons (by decide)
theorem lx_tl (r : Nat) (sk : Nat → Bool) (v : Nat → Nat) (hv : ∀ k, v k ≤ 1099511627776) (g l : List UInt8) (ks : List (Nat × List UInt8 × Nat)) (hg : g = [] ∨ g = [9, 32]) (hl : HB l) (h : Lx l ks) : ∀ n, Lx (tlI r sk v g n ++ l) ((flI r sk v n).flatMap fsh ++ ks)
  | 0 => by simpa [tlI, flI] using h
  | n + 1 => by
    have ih := lx_tl r sk v hv g l ks hg hl h n
    have hb := hb_tl r sk v g l hl n
    unfold tlI flI
    split
    · exact ih
    · have h1 : Lx (g ++ (tlI r sk v g n ++ l)) ((flI r sk v n).flatMap fsh ++ ks) := by
        rcases hg with rfl | rfl
        · exact ih
        · exact lx_blank (.inr (by decide)) (lx_blank (.inl (by decide)) ih)
      have h0 : HB (g ++ (tlI r sk v g n ++ l)) := by
        rcases hg with rfl | rfl
        · exact hb
        · exact hb_cons (by decide)
      have h2 := lx_field (f := ((5 - n + r) % 6, v ((5 - n + r) % 6))) (Nat.mod_lt _ (by omega)) (hv _) (hb_dig h0) h1
      have h3 := lx_blank (c := 32) (.inl (by decide)) h2
      simpa only [List.cons_append, List.append_assoc, List.flatMap_append, List.flatMap_cons, List.flatMap_nil, List.append_nil, List.nil_append] using h3
/-- What stands behind: nothing, or a note. -/
theorem lx_end (b : Bool) : Lx (if b then [35, 32, 99, 61, 57] else []) [] ∧ HB (if b then [35, 32, 99, 61, 57] else []) := by
  cases b
  · exact ⟨lx_nil, by intro c l' e; cases e⟩
  · exact ⟨lx_note (n := [32, 99, 61, 57]) (l := []) (by decide) (.inl rfl) lx_nil, hb_cons (by decide)⟩
def begL (b : Bool) : List UInt8 := if b then [10, 32, 35, 32, 116, 97, 115, 107, 10] else []
theorem free_read {x : Tsk} (h : GoodT x) (r : Nat) (hr : r < 6) (s2 s3 s4 b1 b2 b4 : Bool) (h2 : s2 = true → x.d = x.t) (h3 : s3 = true → x.j = 0) (h4 : s4 = true → x.q = 1) (L : List UInt8)
    (hL : L = begL b4 ++ (taskW ++ (32 :: (x.nm.data.toList ++ (tlI r (skf s2 s3 s4) (vf x) (if b2 then [9, 32] else []) 6 ++ (if b1 then [35, 32, 99, 61, 57] else [])))))) : readT L = ([x], L.length, 0) := by
  have hv : ∀ k, vf x k ≤ 1099511627776 := by
    intro k
    obtain ⟨_, _, h1, ht, hd, hj, hq, hp⟩ := h
    unfold vf
    repeat' split
    all_goals omega
  have e1 := lx_tl r (skf s2 s3 s4) (vf x) hv (if b2 then [9, 32] else []) _ _ (by cases b2 <;> simp) (lx_end b1).2 (lx_end b1).1 6
  have e2 := lx_head h.word (hb_tl r (skf s2 s3 s4) (vf x) (if b2 then [9, 32] else []) _ (lx_end b1).2 6) e1
  rw [List.append_nil] at e2
  have hrd : ∀ e, ∀ ts : List Tk, ts.map shp = (1, taskW, 0) :: (1, x.nm.data.toList, 0) :: (flI r (skf s2 s3 s4) (vf x) 6).flatMap fsh → rd e ts = ([x], e, 0) := by
    intro e ts hts
    refine rd_task e (n := x.nm.data.toList) (fs := flI r (skf s2 s3 s4) (vf x) 6) (ks := []) (fun f hf => (fl_in r _ _ hv 6 f hf).1) (fl_pairs r hr s2 s3 s4 (vf x)) (by rw [hts, List.append_nil]; rfl) (by intro k ks' e; cases e) (free_fin h r hr s2 s3 s4 h2 h3 h4) ?_
    intro r hr
    obtain rfl : r = [] := by simpa using hr
    exact rd_nil e
  subst hL
  cases b4
  · exact read_lx e2 (hrd _)
  · have e3 := lx_feed (lx_blank (c := 32) (.inl (by decide)) (lx_note (n := [32, 116, 97, 115, 107]) (by decide) (.inr ⟨_, rfl⟩) (lx_feed e2)))
    exact read_lx e3 (fun ts hts => rd_feed _ hts (fun r hr => rd_feed _ hr (hrd _)))

theorem fld_size {f : Nat × Nat} (h : f.2 < 1000000000000000) : (fldB f).length ≤ 17 := by
  have := dig_len 14 f.2 (by omega)
  have hk : (keyL f.1).length = 1 := by
    unfold keyL keyB
    repeat' split
    all_goals rfl
  unfold fldB
  simp [hk]
  omega
theorem int_case {k : Nat} (hk : k < 6) : k = 0 ∨ k = 1 ∨ k = 2 ∨ k = 3 ∨ k = 4 ∨ k = 5 := by omega
set_option maxHeartbeats 4000000 in
theorem free_go (y : S33) (a1 a2 : Int) (r : Nat) (hr : a1 % 6 = (r : Int)) (hr6 : r < 6) (s2 s3 s4 b1 b2 : Bool) (F : List ByteArray) (hF : ∀ k : Nat, k < 6 → ∃ b, rdOf ByteArray.empty F (k : Int) = b ∧ b.data.toList = fldB (k, vf (toT y) k)) (hFl : F.length = 6) (hv : ∀ k, vf (toT y) k < 1000000000000000)
    (e2 : s2 = (decide (Go.bits .and .i64 a2 8 = 8) && decide (y.f3 = y.f2))) (e3 : s3 = (decide (Go.bits .and .i64 a2 8 = 8) && decide (y.f4 = 0))) (e4 : s4 = (decide (Go.bits .and .i64 a2 8 = 8) && decide (y.f5 = 1)))
    (hb1 : b1 = decide (Go.bits .and .i64 a2 1 = 1)) (hb2 : b2 = decide (Go.bits .and .i64 a2 2 = 2)) : ∀ (n i : Nat) (s : ByteArray), n + i = 6 → s.size ≤ 1000 + i * 100 →
    (∀ L, L = s.data.toList ++ (tlI r (skf s2 s3 s4) (vf (toT y)) (if b2 then [9, 32] else []) n ++ (if b1 then [35, 32, 99, 61, 57] else [])) → readT L = ([toT y], L.length, 0)) →
    Ev (fun k => cadencylaw05_TextFree.l0 k a1 a2 true F s (i : Int) y.f0 y.f1 y.f2 y.f3 y.f4 y.f5 y.f6) true := by
  intro n
  induction n with
  | zero =>
    intro i s hi hs hrd
    obtain rfl : i = 6 := by omega
    have hdone : ∀ s' : ByteArray, s'.size ≤ 10000 → s'.data.toList = s.data.toList ++ (if b1 then [35, 32, 99, 61, 57] else []) → text_Read.f s' = some ([y], (s'.size : Int), 0) := by
      intro s' hs' hl
      have := hrd s'.data.toList (by rw [hl]; simp [tlI])
      have hz : s'.data.toList.length = s'.size := by simp
      unfold text_Read.f
      rw [if_pos (by omega), this, hz]
      rfl
    refine ⟨1, fun k hk => ?_⟩
    obtain ⟨k, rfl⟩ : ∃ m, k = m + 1 := ⟨k - 1, by omega⟩
    simp only [cadencylaw05_TextFree.l0]
    rw [if_neg (by decide)]
    have hrdT : rd_T33 [y] 0 = y := rd46 [y] 0 y rfl
    by_cases hc : Go.bits .and .i64 a2 1 = 1
    · have hsz : (s ++ (⟨#[35, 32, 99, 61, 57]⟩ : ByteArray)).size = s.size + 5 := by rw [ByteArray.size_append]; rfl
      rw [if_pos hc, if_pos (by omega), hdone _ (by omega) (by rw [data_app, hb1]; simp [hc])]
      simp [hrdT]
    · rw [if_neg hc, hdone s (by omega) (by rw [hb1]; simp [hc])]
      simp [hrdT]
  | succ n ih =>
    intro i s hi hs hrd
    have hi5 : 5 - n = i := by omega
    obtain ⟨q, hq⟩ : ∃ q, (i + r) % 6 = q := ⟨_, rfl⟩
    have hq6 : q < 6 := by omega
    have hmod : Int.tmod (wrap64 ((i : Int) + (r : Int))) 6 = (q : Int) := by
      rw [show wrap64 ((i : Int) + (r : Int)) = (i : Int) + (r : Int) by unfold wrap64; omega, Int.tmod_eq_emod_of_nonneg (by omega)]
      omega
    simp only [tlI, hi5, hq] at hrd
    have hb5 : (y.f5 == 1) = decide (y.f5 = 1) := by rw [Bool.eq_iff_iff]; simp
    have hmod := Lib.hid hmod
    have hr := Lib.hid hr
    have hst : ∀ k, cadencylaw05_TextFree.l0 (k + 1) a1 a2 true F s (i : Int) y.f0 y.f1 y.f2 y.f3 y.f4 y.f5 y.f6 = cadencylaw05_TextFree.j2 k a1 a2 true F s (i : Int) (q : Int) (skf s2 s3 s4 q) y.f0 y.f1 y.f2 y.f3 y.f4 y.f5 y.f6 := by
      intro k
      simp only [cadencylaw05_TextFree.l0]
      rw [if_pos (by omega), rest5 a1 6 (by omega) (by omega), Option.bind_some, hr.out, hmod.out]
      by_cases h8 : Go.bits .and .i64 a2 8 = 8
      · rw [if_pos h8]
        rcases int_case hq6 with rfl | rfl | rfl | rfl | rfl | rfl
        · simp [skf]
        · simp [skf]
        · by_cases hx : y.f3 = y.f2 <;> simp [skf, e2, h8, hx]
        · by_cases hx : y.f4 = 0 <;> simp [skf, e3, h8, hx]
        · simp [skf, e4, h8, hb5]
        · simp [skf]
      · rw [if_neg h8]
        have h2' : s2 = false := by rw [e2]; simp [h8]
        have h3' : s3 = false := by rw [e3]; simp [h8]
        have h4' : s4 = false := by rw [e4]; simp [h8]
        have : skf s2 s3 s4 q = false := by
          unfold skf
          rw [h2', h3', h4']
          repeat' split
          all_goals rfl
        rw [this]
    have hw := Lib.hid (show wrap64 ((i : Int) + 1) = ((i + 1 : Nat) : Int) by unfold wrap64; omega)
    clear hmod hr
    by_cases hsk : skf s2 s3 s4 q = true
    · simp only [hsk, if_true, List.nil_append] at hrd
      obtain ⟨K, hK⟩ := ih (i + 1) s (by omega) (by omega) hrd
      refine ⟨K + 2, fun k hk => ?_⟩
      obtain ⟨k, rfl⟩ : ∃ m, k = m + 2 := ⟨k - 2, by omega⟩
      show cadencylaw05_TextFree.l0 (k + 1 + 1) a1 a2 true F s (i : Int) y.f0 y.f1 y.f2 y.f3 y.f4 y.f5 y.f6 = _
      rw [hst, hsk]
      simp only [cadencylaw05_TextFree.j2]
      rw [if_pos trivial, hw.out]
      exact hK k (by omega)
    · obtain ⟨b, hb, hbl⟩ := hF q hq6
      have hbs : b.size ≤ 17 := by
        have h1 := fld_size (f := (q, vf (toT y) q)) (hv q)
        have h2 : b.data.toList.length = b.size := by simp
        rw [hbl] at h2
        omega
      have z1 : (⟨#[32]⟩ : ByteArray).size = 1 := rfl
      have z2 : (⟨#[9, 32]⟩ : ByteArray).size = 2 := rfl
      obtain ⟨s', hs', hsl⟩ : ∃ s' : ByteArray, s' = (if b2 then ((s ++ (⟨#[32]⟩ : ByteArray)) ++ b) ++ (⟨#[9, 32]⟩ : ByteArray) else (s ++ (⟨#[32]⟩ : ByteArray)) ++ b) ∧ s'.data.toList = s.data.toList ++ (32 :: (fldB (q, vf (toT y) q) ++ (if b2 then [9, 32] else []))) := by
        refine ⟨_, rfl, ?_⟩
        cases b2
        · simp [hbl]
        · simp [hbl]
      have hsz : s'.size ≤ 1000 + (i + 1) * 100 := by
        rw [hs']
        cases b2 <;> simp only [ByteArray.size_append, if_true, Bool.false_eq_true, if_false] <;> omega
      obtain ⟨K, hK⟩ := ih (i + 1) s' (by omega) hsz (by
        intro L hL
        refine hrd L ?_
        rw [hL, hsl]
        simp [hsk])
      refine ⟨K + 2, fun k hk => ?_⟩
      obtain ⟨k, rfl⟩ : ∃ m, k = m + 2 := ⟨k - 2, by omega⟩
      show cadencylaw05_TextFree.l0 (k + 1 + 1) a1 a2 true F s (i : Int) y.f0 y.f1 y.f2 y.f3 y.f4 y.f5 y.f6 = _
      have hK := hK k (by omega)
      dsimp only at hK
      have g1 : s.size + 1 ≤ 9223372036854775807 := by omega
      have g2 : (0 : Int) ≤ (q : Int) := Int.natCast_nonneg q
      have g3 : (q : Int) < (F.length : Int) := Int.ofNat_lt.2 (by rw [hFl]; exact hq6)
      have g4 : (s ++ (⟨#[32]⟩ : ByteArray)).size + b.size ≤ 9223372036854775807 := by rw [ByteArray.size_append]; omega
      have g5 : ((s ++ (⟨#[32]⟩ : ByteArray)) ++ b).size + 2 ≤ 9223372036854775807 := by rw [ByteArray.size_append, ByteArray.size_append]; omega
      clear hs hsz hi hbs z1 z2 hi5 hq hq6 hr6
      rw [hst]
      simp only [cadencylaw05_TextFree.j2]
      rw [if_neg hsk, if_pos g1, if_pos g2, if_pos g3, hb, if_pos g4, hw.out]
      by_cases h2 : Go.bits .and .i64 a2 2 = 2
      · rw [if_pos h2, if_pos g5]
        rw [hb2] at hs'
        simp only [h2, decide_true, if_true] at hs'
        rw [← hs']
        exact hK
      · rw [if_neg h2]
        rw [hb2] at hs'
        simp only [h2, decide_false, Bool.false_eq_true, if_false] at hs'
        rw [← hs']
        exact hK
set_option maxHeartbeats 4000000 in
theorem textFree_some (l : List S43) (a1 a2 : Int) : ∃ k, cadencylaw05_TextFree.f k l a1 a2 = some true := by
  obtain ⟨K1, k1⟩ := set_some_m 1 (by omega) (by omega) l 0
  obtain ⟨p, hp⟩ : ∃ p, setOf (l.take 1) 0 = p := ⟨_, rfl⟩
  have hfew := few_set (l.take 1) 0
  have hlen := (setOf_length (l.take 1) 0).1
  have hgood := all_good (may_set (l.take 1) 0)
  rw [hp] at k1 hfew hlen hgood
  obtain ⟨y, hy⟩ : ∃ y, p[0]? = some y := ⟨_, List.getElem?_eq_getElem (by omega)⟩
  have hrd : rd_T33 p 0 = y := rd46 p 0 y hy
  have hfy := hfew y (List.mem_of_getElem? hy)
  have hg := hgood (toT y) (List.mem_map.2 ⟨y, List.mem_of_getElem? hy, rfl⟩)
  obtain ⟨h0, h1, h2, h3, h4, h5, h6⟩ := hfy
  have d1 := digB_size 14 y.f1.toNat (by omega)
  have d2 := digB_size 14 y.f2.toNat (by omega)
  have d3 := digB_size 14 y.f3.toNat (by omega)
  have d4 := digB_size 14 y.f4.toNat (by omega)
  have d5 := digB_size 14 y.f5.toNat (by omega)
  have d6 := digB_size 14 y.f6.toNat (by omega)
  obtain ⟨J1, j1⟩ := digits_int y.f1 h1.1 h1.2
  obtain ⟨J2, j2⟩ := digits_int y.f2 h2.1 h2.2
  obtain ⟨J3, j3⟩ := digits_int y.f3 h3.1 h3.2
  obtain ⟨J4, j4⟩ := digits_int y.f4 h4.1 h4.2
  obtain ⟨J5, j5⟩ := digits_int y.f5 h5.1 h5.2
  obtain ⟨J6, j6⟩ := digits_int y.f6 h6.1 h6.2
  have hr := mod_in a1 6 (by omega)
  obtain ⟨r, hr2⟩ : ∃ r : Nat, a1 % 6 = (r : Int) := ⟨(a1 % 6).toNat, by omega⟩
  have hv : ∀ k, vf (toT y) k < 1000000000000000 := by
    intro k
    unfold vf toT
    repeat' split
    all_goals (simp only; omega)
  obtain ⟨F, hF⟩ : ∃ F : List ByteArray, F = [(⟨#[99, 61]⟩ : ByteArray) ++ digB y.f1.toNat, (⟨#[116, 61]⟩ : ByteArray) ++ digB y.f2.toNat, (⟨#[100, 61]⟩ : ByteArray) ++ digB y.f3.toNat, (⟨#[106, 61]⟩ : ByteArray) ++ digB y.f4.toNat, (⟨#[113, 61]⟩ : ByteArray) ++ digB y.f5.toNat, (⟨#[112, 61]⟩ : ByteArray) ++ digB y.f6.toNat] := ⟨_, rfl⟩
  have hFk : ∀ k : Nat, k < 6 → ∃ b, rdOf ByteArray.empty F (k : Int) = b ∧ b.data.toList = fldB (k, vf (toT y) k) := by
    intro k hk
    rw [hF]
    rcases int_case hk with rfl | rfl | rfl | rfl | rfl | rfl
    all_goals exact ⟨_, rfl, by simp only [data_app, digB]; rfl⟩
  have hS : ∀ s : ByteArray, s.size ≤ 1000 → s.data.toList = begL (decide (Go.bits .and .i64 a2 4 = 4)) ++ (taskW ++ (32 :: y.f0.data.toList)) → Ev (fun k => cadencylaw05_TextFree.l0 k a1 a2 true F s ((0 : Nat) : Int) y.f0 y.f1 y.f2 y.f3 y.f4 y.f5 y.f6) true := by
    intro s hs hsl
    refine free_go y a1 a2 r hr2 (by omega) _ _ _ _ _ F hFk (by rw [hF]; rfl) hv rfl rfl rfl rfl rfl 6 0 s (by omega) (by omega) ?_
    intro L hL
    refine free_read hg r (by omega) (decide (Go.bits .and .i64 a2 8 = 8) && decide (y.f3 = y.f2)) (decide (Go.bits .and .i64 a2 8 = 8) && decide (y.f4 = 0)) (decide (Go.bits .and .i64 a2 8 = 8) && decide (y.f5 = 1)) (decide (Go.bits .and .i64 a2 1 = 1)) (decide (Go.bits .and .i64 a2 2 = 2)) (decide (Go.bits .and .i64 a2 4 = 4)) ?_ ?_ ?_ L ?_
    rotate_left 3
    · rw [hL, hsl]
      simp only [List.append_assoc, List.cons_append]
      rfl
    all_goals
      intro h
      simp only [Bool.and_eq_true, decide_eq_true_eq] at h
      exact h.2
  have z1 : (⟨#[116, 97, 115, 107, 32]⟩ : ByteArray).size = 5 := rfl
  have z2 : (⟨#[10, 32, 35, 32, 116, 97, 115, 107, 10]⟩ : ByteArray).size = 9 := rfl
  have e1 : (⟨#[99, 61]⟩ : ByteArray).size = 2 := rfl
  have key : ∃ K, ∀ k, K ≤ k → ∀ (P : ByteArray → Option Bool), (∀ s, P s = cadencylaw05_TextFree.j0 k a1 a2 true F s y.f0 y.f1 y.f2 y.f3 y.f4 y.f5 y.f6) → (if Go.bits .and .i64 a2 4 = 4 then P ((⟨#[10, 32, 35, 32, 116, 97, 115, 107, 10]⟩ : ByteArray) ++ ((⟨#[116, 97, 115, 107, 32]⟩ : ByteArray) ++ y.f0)) else P ((⟨#[116, 97, 115, 107, 32]⟩ : ByteArray) ++ y.f0)) = some true := by
    by_cases h4 : Go.bits .and .i64 a2 4 = 4
    · obtain ⟨K, hK⟩ := hS ((⟨#[10, 32, 35, 32, 116, 97, 115, 107, 10]⟩ : ByteArray) ++ ((⟨#[116, 97, 115, 107, 32]⟩ : ByteArray) ++ y.f0)) (by simp only [ByteArray.size_append]; omega) (by simp [h4, begL, taskW])
      refine ⟨K + 1, fun k hk P hP => ?_⟩
      obtain ⟨k, rfl⟩ : ∃ m, k = m + 1 := ⟨k - 1, by omega⟩
      rw [if_pos h4, hP]
      exact hK k (by omega)
    · obtain ⟨K, hK⟩ := hS ((⟨#[116, 97, 115, 107, 32]⟩ : ByteArray) ++ y.f0) (by simp only [ByteArray.size_append]; omega) (by simp [h4, begL, taskW])
      refine ⟨K + 1, fun k hk P hP => ?_⟩
      obtain ⟨k, rfl⟩ : ∃ m, k = m + 1 := ⟨k - 1, by omega⟩
      rw [if_neg h4, hP]
      exact hK k (by omega)
  obtain ⟨K2, k2⟩ := key
  refine ⟨K1 + K2 + J1 + J2 + J3 + J4 + J5 + J6, ?_⟩
  obtain ⟨k, hk⟩ : ∃ k, k = K1 + K2 + J1 + J2 + J3 + J4 + J5 + J6 := ⟨_, rfl⟩
  rw [← hk]
  have k1 := k1 k (by omega)
  have j1 := j1 k (by omega)
  have j2 := j2 k (by omega)
  have j3 := j3 k (by omega)
  have j4 := j4 k (by omega)
  have j5 := j5 k (by omega)
  have j6 := j6 k (by omega)
  have k2 := k2 k (by omega) (fun s => cadencylaw05_TextFree.j0 k a1 a2 true F s y.f0 y.f1 y.f2 y.f3 y.f4 y.f5 y.f6) (fun s => rfl)
  dsimp only at k1 j1 j2 j3 j4 j5 j6 k2
  rw [show ((1 : Nat) : Int) = 1 from rfl] at k1
  unfold cadencylaw05_TextFree.f
  rw [awake_some]
  simp only [Option.bind_some, k1, hrd, j1, j2, j3, j4, j5, j6]
  rw [if_pos (by omega), if_pos (by omega), if_pos (by omega), if_pos (by omega), if_pos (by omega), if_pos (by omega), if_pos (by omega), if_pos (by omega), ← hF]
  by_cases h4 : Go.bits .and .i64 a2 4 = 4
  · rw [if_pos h4] at k2 ⊢
    rw [if_pos (by simp only [ByteArray.size_append]; omega)]
    exact k2
  · rw [if_neg h4] at k2 ⊢
    exact k2
end Go.Proofs.Ytefdcjmfbjlinaa.A
