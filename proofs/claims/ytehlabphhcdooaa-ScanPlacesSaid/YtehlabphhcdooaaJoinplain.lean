/- Tokens put down one behind the other: plain lemmas. -/
import Derived.Test.YtehlabphhcdooaaPureplain
set_option linter.unusedVariables false
set_option linter.unusedSimpArgs false
namespace Go.Proofs.Ytehlabphhcdooaa.Sc

/-- A token that its text tells by itself. -/
def Whole (t : Tk) : Prop := ∃ c m, t.text = c :: m ∧ knd c ≠ 0 ∧ t.kind = knd c ∧ tln (c :: m) = (c :: m).length ∧ t.num = if knd c = 2 then nm (c :: m) else 0
theorem spn_full {p : UInt8 → Bool} {l : List UInt8} (h : spn p l = l.length) : ∀ d ∈ l, p d = true := by
  intro d hd
  exact take_all (p := p) (l := l) d (by rw [h, List.take_length]; exact hd)
theorem spn_take (p : UInt8 → Bool) (l : List UInt8) : spn p (l.take (spn p l)) = (l.take (spn p l)).length := spn_all (fun d hd => take_all d hd)
theorem tln_take (c : UInt8) (l : List UInt8) : tln ((c :: l).take (tln (c :: l))) = ((c :: l).take (tln (c :: l))).length := by
  by_cases hl : isLet c = true
  · have hp := spn_cons isGo c l
    rw [if_pos (let_go hl)] at hp
    have hs := spn_take isGo (c :: l)
    rw [tln_let hl]
    have e : (c :: l).take (spn isGo (c :: l)) = c :: l.take (spn isGo l) := by rw [hp]; rfl
    rw [e] at hs ⊢
    rw [tln_let hl]; exact hs
  · have hl' : isLet c = false := by simpa using hl
    by_cases hd : isDig c = true
    · have hp := spn_cons isDig c l
      rw [if_pos hd] at hp
      have hs := spn_take isDig (c :: l)
      rw [tln_dig hl' hd]
      have e : (c :: l).take (spn isDig (c :: l)) = c :: l.take (spn isDig l) := by rw [hp]; rfl
      rw [e] at hs ⊢
      rw [tln_dig hl' hd]; exact hs
    · have hd' : isDig c = false := by simpa using hd
      rw [tln_one hl' hd']
      rw [List.take_succ_cons, List.take_zero, tln_one hl' hd']
      rfl
theorem whole_tkOf (a : Nat) (c : UInt8) (l : List UInt8) (hk : knd c ≠ 0) : Whole (tkOf a (c :: l)) := by
  have hp := tln_pos c l
  obtain ⟨n, hn⟩ : ∃ n, tln (c :: l) = n + 1 := ⟨tln (c :: l) - 1, by omega⟩
  have ht := tln_take c l
  refine ⟨c, l.take n, ?_, hk, rfl, ?_, ?_⟩
  · simp only [tkOf, hn]; rfl
  · rw [hn, List.take_succ_cons] at ht; exact ht
  · simp only [tkOf, hn]; rfl
theorem all_whole : ∀ (n : Nat) (a : Nat) (l : List UInt8), l.length ≤ n → ∀ t ∈ (rst a l).1, Whole t
  | _, a, [], _ => by simp [rst_nil]
  | 0, a, c :: l, h => by simp at h
  | n + 1, a, c :: l, h => by
    by_cases hk : knd c = 0
    · rw [rst_none _ hk]; simp
    · rw [rst_some _ hk]
      have hx := nxt_pos c l
      have := all_whole n (a + nxt (c :: l)) ((c :: l).drop (nxt (c :: l))) (by simp at h ⊢; omega)
      intro t ht
      rcases List.mem_cons.1 ht with rfl | ht
      · exact whole_tkOf a c l hk
      · exact this t ht
theorem each_whole (l : List UInt8) : ∀ t ∈ (eachL l).1, Whole t := by
  rw [eachL_eq]
  exact all_whole _ _ _ (Nat.le_refl _)
def blank (b : UInt8) : Bool := b.toNat == 32 || b.toNat == 9
theorem blank_not {b : UInt8} (h : blank b = true) : isGo b = false ∧ isDig b = false := by
  have : ∀ n : Fin 256, blank (UInt8.ofNat n.val) = true → isGo (UInt8.ofNat n.val) = false ∧ isDig (UInt8.ofNat n.val) = false := by decide +kernel
  have hc := this ⟨b.toNat, b.toNat_lt⟩
  simp only [UInt8.ofNat_toNat] at hc
  exact hc h
theorem knd_skp {c : UInt8} {l : List UInt8} (h : knd c ≠ 0) : skp false (c :: l) = 0 := by
  have : ∀ n : Fin 256, knd (UInt8.ofNat n.val) ≠ 0 → (UInt8.ofNat n.val).toNat ≠ 32 ∧ (UInt8.ofNat n.val).toNat ≠ 9 ∧ (UInt8.ofNat n.val).toNat ≠ 35 := by decide +kernel
  have hc := this ⟨c.toNat, c.toNat_lt⟩
  simp only [UInt8.ofNat_toNat] at hc
  obtain ⟨h1, h2, h3⟩ := hc h
  exact skp_other h1 h2 h3
theorem knd_four {c : UInt8} (h : knd c = 4) : c = 10 := by
  have : ∀ n : Fin 256, knd (UInt8.ofNat n.val) = 4 → (UInt8.ofNat n.val) = 10 := by decide +kernel
  have hc := this ⟨c.toNat, c.toNat_lt⟩
  simp only [UInt8.ofNat_toNat] at hc
  exact hc h
/-- A whole token, and what stands behind it: a blank. -/
theorem rst_whole (a : Nat) {t : Tk} (hw : Whole t) {b : UInt8} {r : List UInt8} (hb : blank b = true) :
    rst a (t.text ++ (b :: r)) = (⟨t.kind, a, t.text, t.num⟩ :: (rst (a + (t.text.length + skp false (b :: r))) ((b :: r).drop (skp false (b :: r)))).1, (rst (a + (t.text.length + skp false (b :: r))) ((b :: r).drop (skp false (b :: r)))).2) := by
  obtain ⟨c, m, ht, hk, hkind, htl, hnum⟩ := hw
  obtain ⟨hb1, hb2⟩ := blank_not hb
  have hlen : tln ((c :: m) ++ (b :: r)) = (c :: m).length := by
    rw [List.cons_append]
    by_cases hl : isLet c = true
    · rw [tln_let hl] at htl
      have hs := spn_app (m := b :: r) (spn_full htl)
      rw [spn_cons, hb1] at hs
      rw [tln_let hl, ← List.cons_append, hs]; rfl
    · have hl' : isLet c = false := by simpa using hl
      by_cases hd : isDig c = true
      · rw [tln_dig hl' hd] at htl
        have hs := spn_app (m := b :: r) (spn_full htl)
        rw [spn_cons, hb2] at hs
        rw [tln_dig hl' hd, ← List.cons_append, hs]; rfl
      · have hd' : isDig c = false := by simpa using hd
        rw [tln_one hl' hd'] at htl ⊢
        exact htl
  rw [ht, List.cons_append, rst_some a hk]
  have hn : nxt (c :: (m ++ (b :: r))) = (c :: m).length + skp false (b :: r) := by
    unfold nxt
    rw [← List.cons_append, hlen, List.drop_left]
  have htk : tkOf a (c :: (m ++ (b :: r))) = ⟨t.kind, a, c :: m, t.num⟩ := by
    simp only [tkOf]
    rw [← List.cons_append, hlen, List.take_left, hkind, hnum]
  rw [hn, htk]
  rw [show (c :: (m ++ (b :: r))).drop ((c :: m).length + skp false (b :: r)) = (b :: r).drop (skp false (b :: r)) from by rw [← List.cons_append, ← List.drop_drop, List.drop_left]]

/-- Tokens, each with what stands behind it. -/
def bld : List (Tk × List UInt8) → List UInt8
  | [] => []
  | (t, s) :: ps => t.text ++ (s ++ bld ps)
def OkP : List (Tk × List UInt8) → Prop
  | [] => True
  | (t, s) :: ps => Whole t ∧ (∃ b s', s = b :: s' ∧ blank b = true) ∧ skp false (s ++ bld ps) = s.length ∧ OkP ps
def strip (t : Tk) : Nat × List UInt8 × Nat := (t.kind, t.text, t.num)
theorem skp_bld {ps : List (Tk × List UInt8)} (h : OkP ps) : skp false (bld ps) = 0 := by
  cases ps with
  | nil => rfl
  | cons p ps =>
    obtain ⟨t, s⟩ := p
    obtain ⟨⟨c, m, ht, hk, _⟩, _⟩ := h
    simp only [bld, ht, List.cons_append]
    exact knd_skp hk
theorem rst_bld : ∀ (ps : List (Tk × List UInt8)), OkP ps → ∀ a, (rst a (bld ps)).1.map strip = ps.map (fun p => strip p.1)
  | [], _, a => rfl
  | (t, s) :: ps, ⟨hw, ⟨b, s', hs, hb⟩, hk, hp⟩, a => by
    simp only [bld]
    have h := rst_whole a hw (r := s' ++ bld ps) hb
    rw [← List.cons_append, ← hs, hk, List.drop_left] at h
    rw [h, List.map_cons, List.map_cons, rst_bld ps hp]
    rfl
def plainP (l : List Tk) : List (Tk × List UInt8) := l.map (fun t => (t, [32]))
def lineNext : List Tk → Bool
  | [] => true
  | t :: _ => t.kind == 4
def noteL : List UInt8 := [32, 32, 9, 35, 32, 97, 32, 61, 32, 49, 32, 35, 44, 32]
def wideP (bit : Nat → Bool) (i : Nat) : List Tk → List (Tk × List UInt8)
  | [] => []
  | t :: l => (t, if lineNext l && bit i then noteL else [32, 32, 9]) :: wideP bit (i + 1) l
theorem ok_plain : ∀ (l : List Tk), (∀ t ∈ l, Whole t) → OkP (plainP l)
  | [], _ => trivial
  | t :: l, h => by
    have ih := ok_plain l (fun u hu => h u (by simp [hu]))
    refine ⟨h t (by simp), ⟨32, [], rfl, rfl⟩, ?_, ih⟩
    show skp false (32 :: bld (plainP l)) = 1
    rw [skp_blank (by decide), skp_bld ih]
theorem ok_wide (bit : Nat → Bool) : ∀ (l : List Tk) (i : Nat), (∀ t ∈ l, Whole t) → OkP (wideP bit i l)
  | [], _, _ => trivial
  | t :: l, i, h => by
    have ih := ok_wide bit l (i + 1) (fun u hu => h u (by simp [hu]))
    have hb3 : ∀ r : List UInt8, skp false (32 :: 32 :: 9 :: r) = skp false r + 1 + 1 + 1 := by
      intro r
      rw [skp_blank (by decide), skp_blank (by decide), skp_blank (by decide)]
    refine ⟨h t (by simp), ?_, ?_, ih⟩
    · split
      · exact ⟨32, _, rfl, rfl⟩
      · exact ⟨32, _, rfl, rfl⟩
    · split
      · rename_i hc
        simp only [Bool.and_eq_true] at hc
        have hx : skp true (bld (wideP bit (i + 1) l)) = 0 := by
          cases l with
          | nil => rfl
          | cons u l =>
            obtain ⟨c, m, hu, hk, hkind, _⟩ := h u (by simp)
            have h4 : u.kind = 4 := by simpa [lineNext] using hc.1
            obtain rfl := knd_four (hkind.symm.trans h4)
            simp only [wideP, bld, hu, List.cons_append, skp]
            rfl
        show skp false (32 :: 32 :: 9 :: 35 :: 32 :: 97 :: 32 :: 61 :: 32 :: 49 :: 32 :: 35 :: 44 :: 32 :: bld (wideP bit (i + 1) l)) = 14
        rw [hb3]
        have hn : ∀ (c : UInt8) (r : List UInt8), c.toNat ≠ 10 → skp true (c :: r) = skp true r + 1 := by
          intro c r hc
          simp only [skp, if_neg hc]
        have hh : ∀ (r : List UInt8), skp false (35 :: r) = skp true r + 1 := by
          intro r
          simp only [skp]
          rw [if_neg (by decide), if_pos (by decide)]
        rw [hh, hn _ _ (by decide), hn _ _ (by decide), hn _ _ (by decide), hn _ _ (by decide), hn _ _ (by decide), hn _ _ (by decide), hn _ _ (by decide), hn _ _ (by decide), hn _ _ (by decide), hn _ _ (by decide), hx]
      · show skp false (32 :: 32 :: 9 :: bld (wideP bit (i + 1) l)) = 3
        rw [hb3, skp_bld ih]
theorem plain_strip (l : List Tk) : (plainP l).map (fun p => strip p.1) = l.map strip := by
  unfold plainP; rw [List.map_map]; rfl
theorem wide_strip (bit : Nat → Bool) : ∀ (l : List Tk) (i : Nat), (wideP bit i l).map (fun p => strip p.1) = l.map strip
  | [], _ => rfl
  | t :: l, i => by simp only [wideP, List.map_cons]; rw [wide_strip bit l (i + 1)]
theorem each_plain (l : List Tk) (h : ∀ t ∈ l, Whole t) : (eachL (bld (plainP l))).1.map strip = l.map strip := by
  have hk := ok_plain l h
  rw [eachL_eq, skp_bld hk, List.drop_zero, rst_bld _ hk, plain_strip]
theorem each_wide (bit : Nat → Bool) (l : List Tk) (h : ∀ t ∈ l, Whole t) : (eachL (9 :: bld (wideP bit 0 l))).1.map strip = l.map strip := by
  have hk := ok_wide bit l 0 h
  rw [eachL_eq, skp_blank (by decide), skp_bld hk, List.drop_succ_cons, List.drop_zero, rst_bld _ hk, wide_strip]
end Go.Proofs.Ytehlabphhcdooaa.Sc
