/- Lines that are built are lexed and read back: plain lists. -/
import Derived.Test.YtefdcjmfbjlinaaDoorPtext
set_option linter.unusedVariables false
set_option linter.unusedSimpArgs false
namespace Go.Proofs.YtefdcjmfbjlinaaDoor.A
open Go.RowKit Go.Proofs.YtefdcjmfbjlinaaDoor.Sc

/-- A token without its place. -/
def shp (t : Tk) : Nat × List UInt8 × Nat := (t.kind, t.text, t.num)
/-- A text that is lexed whole: what its tokens are. -/
def Lx (l : List UInt8) (ks : List (Nat × List UInt8 × Nat)) : Prop :=
  ∀ a, (rst (a + skp false l) (l.drop (skp false l))).1.map shp = ks ∧ (rst (a + skp false l) (l.drop (skp false l))).2 = a + l.length
theorem lx_nil : Lx [] [] := by
  intro a
  simp [skp, rst_nil]
theorem lx_blank {c : UInt8} {l : List UInt8} {ks : List (Nat × List UInt8 × Nat)} (hc : c.toNat = 32 ∨ c.toNat = 9) (h : Lx l ks) : Lx (c :: l) ks := by
  intro a
  rw [skp_blank hc, List.drop_succ_cons]
  have := h (a + 1)
  rw [show a + (skp false l + 1) = a + 1 + skp false l by omega]
  refine ⟨this.1, ?_⟩
  rw [this.2, List.length_cons]
  omega
theorem lx_tok {c : UInt8} {p l : List UInt8} {ks : List (Nat × List UInt8 × Nat)} (hk : knd c ≠ 0) (ht : tln (c :: (p ++ l)) = p.length + 1) (h : Lx l ks) : Lx (c :: (p ++ l)) ((knd c, c :: p, if knd c = 2 then nm (c :: p) else 0) :: ks) := by
  intro a
  have hs : skp false (c :: (p ++ l)) = 0 := by
    have hu : ∀ n, n < 256 → c.toNat = n → c = UInt8.ofNat n := by
      intro n hn h'
      apply UInt8.toNat_inj.1
      rw [h', UInt8.toNat_ofNat', Nat.mod_eq_of_lt hn]
    refine skp_other ?_ ?_ ?_
    · intro h'
      apply hk
      rw [hu 32 (by decide) h']
      decide
    · intro h'
      apply hk
      rw [hu 9 (by decide) h']
      decide
    · intro h'
      apply hk
      rw [hu 35 (by decide) h']
      decide
  rw [hs, Nat.add_zero, List.drop_zero, rst_some a hk]
  have htk : (c :: (p ++ l)).take (tln (c :: (p ++ l))) = c :: p := by
    rw [ht, List.take_succ_cons, List.take_left]
  have hdr : (c :: (p ++ l)).drop (tln (c :: (p ++ l))) = l := by
    rw [ht, List.drop_succ_cons, List.drop_left]
  have hn : nxt (c :: (p ++ l)) = p.length + 1 + skp false l := by
    unfold nxt
    rw [hdr, ht]
  have hd2 : (c :: (p ++ l)).drop (nxt (c :: (p ++ l))) = l.drop (skp false l) := by
    rw [hn, ← List.drop_drop, ← ht, hdr]
  have := h (a + (p.length + 1))
  rw [hd2, hn, show a + (p.length + 1 + skp false l) = a + (p.length + 1) + skp false l by omega]
  constructor
  · rw [List.map_cons, this.1]
    simp only [shp, tkOf, htk]
  · rw [this.2]
    simp
    omega
theorem spn_app {P : UInt8 → Bool} : ∀ (p l : List UInt8), (∀ c ∈ p, P c = true) → (∀ c l', l = c :: l' → P c = false) → spn P (p ++ l) = p.length
  | [], l, _, hl => by
    cases l with
    | nil => rfl
    | cons c l => rw [List.nil_append, spn_cons, hl c l rfl]; rfl
  | c :: p, l, hp, hl => by
    rw [List.cons_append, spn_cons, if_pos (hp c (by simp)), spn_app p l (fun d hd => hp d (by simp [hd])) hl, List.length_cons]
theorem spn_all {P : UInt8 → Bool} : ∀ (p : List UInt8), spn P p = p.length → ∀ c ∈ p, P c = true
  | [], _ => by simp
  | c :: p, h => by
    rw [spn_cons] at h
    by_cases hc : P c = true
    · rw [if_pos hc, List.length_cons] at h
      intro d hd
      simp only [List.mem_cons] at hd
      rcases hd with rfl | hd
      · exact hc
      · exact spn_all p (by omega) d hd
    · rw [if_neg hc] at h
      simp at h
/-- A word, and what ends it. -/
theorem lx_word {w l : List UInt8} {ks : List (Nat × List UInt8 × Nat)} (hw : wordL w = true) (hl : ∀ c l', l = c :: l' → isGo c = false) (h : Lx l ks) : Lx (w ++ l) ((1, w, 0) :: ks) := by
  cases w with
  | nil => cases hw
  | cons c p =>
    simp only [wordL, Bool.and_eq_true, beq_iff_eq] at hw
    have hk : knd c = 1 := by simp [knd, hw.1]
    have ha := spn_all _ hw.2
    have := lx_tok (c := c) (p := p) (l := l) (ks := ks) (by rw [hk]; decide) (by
      simp only [tln, hw.1, if_true]
      have := spn_app (P := isGo) (c :: p) l ha hl
      simpa using this) h
    rw [hk] at this
    exact this
/-- A number's digits, and what ends them. -/
theorem lx_num {c : UInt8} {p l : List UInt8} {ks : List (Nat × List UInt8 × Nat)} (hd : ∀ d ∈ c :: p, isDig d = true) (hc : isLet c = false) (hl : ∀ c l', l = c :: l' → isDig c = false) (h : Lx l ks) : Lx (c :: p ++ l) ((2, c :: p, nm (c :: p)) :: ks) := by
  have hk : knd c = 2 := by simp [knd, hc, hd c (by simp)]
  have := lx_tok (c := c) (p := p) (l := l) (ks := ks) (by rw [hk]; decide) (by
    simp only [tln, hc, hd c (by simp), if_true]
    have := spn_app (P := isDig) (c :: p) l hd hl
    simpa using this) h
  rw [hk] at this
  exact this
theorem lx_eq {l : List UInt8} {ks : List (Nat × List UInt8 × Nat)} (h : Lx l ks) : Lx (61 :: l) ((3, [61], 0) :: ks) :=
  lx_tok (c := 61) (p := []) (l := l) (ks := ks) (by decide) (by simp only [tln]; rw [if_neg (by decide), if_neg (by decide)]; rfl) h
theorem lx_feed {l : List UInt8} {ks : List (Nat × List UInt8 × Nat)} (h : Lx l ks) : Lx (10 :: l) ((4, [10], 0) :: ks) :=
  lx_tok (c := 10) (p := []) (l := l) (ks := ks) (by decide) (by simp only [tln]; rw [if_neg (by decide), if_neg (by decide)]; rfl) h
theorem dig_byte : ∀ d, d < 10 → isDig (UInt8.ofNat (48 + d)) = true ∧ isLet (UInt8.ofNat (48 + d)) = false ∧ (UInt8.ofNat (48 + d)).toNat = 48 + d := by decide
theorem dig_all (n : Nat) : ∀ c ∈ dig n, isDig c = true ∧ isLet c = false := by
  induction n using Nat.strongRecOn with
  | ind n ih =>
  intro c hc
  by_cases h : n < 10
  · rw [dig_small h] at hc
    rw [List.mem_singleton] at hc
    rw [hc]
    exact ⟨(dig_byte n h).1, (dig_byte n h).2.1⟩
  · rw [dig_big h, List.mem_append] at hc
    rcases hc with hc | hc
    · exact ih (n / 10) (by omega) c hc
    · rw [List.mem_singleton] at hc
      rw [hc]
      exact ⟨(dig_byte (n % 10) (by omega)).1, (dig_byte (n % 10) (by omega)).2.1⟩
theorem nm_dig (n : Nat) (hn : n ≤ 1099511627776) : nm (dig n) = n := by
  induction n using Nat.strongRecOn with
  | ind n ih =>
  by_cases h : n < 10
  · rw [dig_small h]
    have := (dig_byte n h).2.2
    simp only [nm, List.foldl, nmStep, this]
    omega
  · rw [dig_big h]
    have h1 := ih (n / 10) (by omega) (by omega)
    have := (dig_byte (n % 10) (by omega)).2.2
    unfold nm at h1 ⊢
    rw [List.foldl_append, h1]
    simp only [List.foldl, nmStep, this]
    omega
theorem lx_dig {n : Nat} {l : List UInt8} {ks : List (Nat × List UInt8 × Nat)} (hn : n ≤ 1099511627776) (hl : ∀ c l', l = c :: l' → isDig c = false) (h : Lx l ks) : Lx (dig n ++ l) ((2, dig n, n) :: ks) := by
  obtain ⟨c, p, hd⟩ : ∃ c p, dig n = c :: p := by
    cases hd : dig n with
    | nil => exact absurd hd (dig_ne n)
    | cons c p => exact ⟨c, p, rfl⟩
  have ha := dig_all n
  have hm := nm_dig n hn
  rw [hd] at ha hm ⊢
  have := lx_num (c := c) (p := p) (fun d hd => (ha d hd).1) (ha c (by simp)).2 hl h
  rw [hm] at this
  exact this
def keyL (k : Nat) : List UInt8 := (keyB k).data.toList
theorem keyL_one {k : Nat} (hk : k < 6) : wordL (keyL k) = true ∧ fldI (keyL k) = some k := ⟨by
  have : ∀ k, k < 6 → wordL (keyL k) = true := by decide
  exact this k hk, fldI_key hk⟩
/-- A field's tokens. -/
def fsh (f : Nat × Nat) : List (Nat × List UInt8 × Nat) := [(1, keyL f.1, 0), (3, [61], 0), (2, dig f.2, f.2)]
def fldB (f : Nat × Nat) : List UInt8 := keyL f.1 ++ (61 :: dig f.2)
theorem lx_field {f : Nat × Nat} {l : List UInt8} {ks : List (Nat × List UInt8 × Nat)} (hk : f.1 < 6) (hn : f.2 ≤ 1099511627776) (hl : ∀ c l', l = c :: l' → isDig c = false) (h : Lx l ks) : Lx (fldB f ++ l) (fsh f ++ ks) := by
  have h1 := lx_dig hn hl h
  have h2 := lx_eq h1
  have h3 := lx_word (w := keyL f.1) (keyL_one hk).1 (by intro c l' e; injection e with e1 e2; subst e1; decide) h2
  show Lx (keyL f.1 ++ (61 :: dig f.2) ++ l) _
  rw [List.append_assoc]
  exact h3
/-- What is made of fields, in turn. -/
def setFs : Tsk → (Nat → Bool) → List (Nat × Nat) → Tsk × (Nat → Bool)
  | x, rem, [] => (x, rem)
  | x, rem, f :: fs => setFs (setF f.1 (f.2 : Nat) x) (offF rem f.1) fs
/-- Nothing, or a line's end. -/
def EndK (ks : List (Nat × List UInt8 × Nat)) : Prop := ∀ k ks', ks = k :: ks' → k.1 = 4
theorem fields_run : ∀ (fs : List (Nat × Nat)) (ts : List Tk) (x : Tsk) (rem : Nat → Bool) (ks : List (Nat × List UInt8 × Nat)), (∀ f ∈ fs, f.1 < 6 ∧ rem f.1 = true) → fs.Pairwise (fun a b => a.1 ≠ b.1) → ts.map shp = fs.flatMap fsh ++ ks → EndK ks →
    ∃ r, r.map shp = ks ∧ fieldsL ts x rem = (finF (setFs x rem fs).1 (setFs x rem fs).2, r)
  | [], ts, x, rem, ks, _, _, hts, he => by
    refine ⟨ts, by simpa using hts, ?_⟩
    cases ts with
    | nil => rfl
    | cons t l =>
      have h4 : t.kind = 4 := by
        have := he (shp t) (l.map shp) (by simpa using hts.symm)
        exact this
      unfold fieldsL
      rw [if_pos h4]
      rfl
  | f :: fs, ts, x, rem, ks, hf, hp, hts, he => by
    simp only [List.flatMap_cons, fsh, List.cons_append, List.nil_append, List.append_assoc] at hts
    match ts, hts with
    | t :: t1 :: t2 :: l, hts =>
      simp only [List.map_cons, List.cons.injEq, shp, Prod.mk.injEq] at hts
      obtain ⟨⟨a1, a2, a3⟩, ⟨b1, b2, b3⟩, ⟨c1, c2, c3⟩, hl⟩ := hts
      have hf0 := hf f (by simp)
      have hfi := (keyL_one hf0.1).2
      obtain ⟨r, hr, he2⟩ := fields_run fs l (setF f.1 (f.2 : Nat) x) (offF rem f.1) ks (by
        intro g hg
        have hne := (List.pairwise_cons.1 hp).1 g hg
        refine ⟨(hf g (by simp [hg])).1, ?_⟩
        unfold offF
        rw [if_neg (fun h => hne h.symm)]
        exact (hf g (by simp [hg])).2) (List.pairwise_cons.1 hp).2 hl he
      refine ⟨r, hr, ?_⟩
      unfold fieldsL
      rw [if_neg (by omega), a2, hfi]
      simp only [hf0.2, if_pos b1, if_pos c1, c3]
      exact he2
    | [], hts => simp at hts
    | [t], hts => simp at hts
    | [t, t1], hts => simp at hts
/-- A line's tokens. -/
def linesh (n : List UInt8) (fs : List (Nat × Nat)) : List (Nat × List UInt8 × Nat) := (1, taskW, 0) :: (1, n, 0) :: fs.flatMap fsh
def begT (n : List UInt8) : Tsk := ⟨⟨n.toArray⟩, 0, 0, -1, 0, 1, 0⟩
theorem task_run (n : List UInt8) (fs : List (Nat × Nat)) (ts : List Tk) (ks : List (Nat × List UInt8 × Nat)) (hf : ∀ f ∈ fs, f.1 < 6) (hp : fs.Pairwise (fun a b => a.1 ≠ b.1)) (hts : ts.map shp = linesh n fs ++ ks) (he : EndK ks) :
    ∃ t l r, ts = t :: l ∧ t.kind ≠ 4 ∧ r.map shp = ks ∧ taskL ts = (finF (setFs (begT n) (fun _ => true) fs).1 (setFs (begT n) (fun _ => true) fs).2, r) := by
  simp only [linesh, List.cons_append] at hts
  match ts, hts with
  | t :: t1 :: l, hts =>
    simp only [List.map_cons, List.cons.injEq, shp, Prod.mk.injEq] at hts
    obtain ⟨⟨a1, a2, a3⟩, ⟨b1, b2, b3⟩, hl⟩ := hts
    obtain ⟨r, hr, h⟩ := fields_run fs l (begT n) (fun _ => true) ks (fun f hf' => ⟨hf f hf', rfl⟩) hp hl he
    refine ⟨t, t1 :: l, r, rfl, by omega, hr, ?_⟩
    simp only [taskL]
    rw [if_pos a2, if_pos b1, b2]
    exact h
  | [], hts => simp at hts
  | [t], hts => simp at hts
theorem rd_task (e : Nat) {n : List UInt8} {fs : List (Nat × Nat)} {ts : List Tk} {ks : List (Nat × List UInt8 × Nat)} {x : Tsk} {xs : List Tsk} (hf : ∀ f ∈ fs, f.1 < 6) (hp : fs.Pairwise (fun a b => a.1 ≠ b.1)) (hts : ts.map shp = linesh n fs ++ ks) (he : EndK ks)
    (hx : finF (setFs (begT n) (fun _ => true) fs).1 (setFs (begT n) (fun _ => true) fs).2 = some x) (hr : ∀ r : List Tk, r.map shp = ks → rd e r = (xs, e, 0)) : rd e ts = (x :: xs, e, 0) := by
  obtain ⟨t, l, r, rfl, h4, hrs, ht⟩ := task_run n fs ts ks hf hp hts he
  rw [hx] at ht
  rw [rd_some e h4 ht, hr r hrs, if_pos rfl]
theorem rd_feed (e : Nat) {ts : List Tk} {ks : List (Nat × List UInt8 × Nat)} {b : List UInt8} {z : Nat} {xs : List Tsk} (hts : ts.map shp = (4, b, z) :: ks) (hr : ∀ r : List Tk, r.map shp = ks → rd e r = (xs, e, 0)) : rd e ts = (xs, e, 0) := by
  match ts, hts with
  | t :: l, hts =>
    simp only [List.map_cons, List.cons.injEq, shp, Prod.mk.injEq] at hts
    rw [rd_line e hts.1.1]
    exact hr l hts.2
  | [], hts => simp at hts
/-- A text that is lexed whole is read by its tokens. -/
theorem read_lx {l : List UInt8} {ks : List (Nat × List UInt8 × Nat)} {xs : List Tsk} (h : Lx l ks) (hr : ∀ r : List Tk, r.map shp = ks → rd l.length r = (xs, l.length, 0)) : readT l = (xs, l.length, 0) := by
  have h0 := h 0
  rw [Nat.zero_add, ← eachL_eq, Nat.zero_add] at h0
  have hx : lexL l = ((eachL l).1, l.length, 0) := by
    unfold lexL
    rw [if_neg (by omega), h0.2]
  unfold readT
  rw [hx]
  simp only [if_true]
  exact hr _ h0.1
end Go.Proofs.YtefdcjmfbjlinaaDoor.A
/- What is printed of tasks that may be is read to them: plain lists. -/
set_option linter.unusedVariables false
set_option linter.unusedSimpArgs false
namespace Go.Proofs.YtefdcjmfbjlinaaDoor.A
open Go.RowKit Go.Proofs.YtefdcjmfbjlinaaDoor.Sc

/-- A task that may stand in a line. -/
structure GoodT (x : Tsk) : Prop where
  word : wordL x.nm.data.toList = true
  sz : x.nm.size ≤ 32
  c : 0 ≤ x.c ∧ x.c ≤ 2147483647
  t : 0 ≤ x.t ∧ x.t ≤ 2147483647
  d : 0 ≤ x.d ∧ x.d ≤ 2147483647
  j : 0 ≤ x.j ∧ x.j ≤ 2147483647
  q : 0 ≤ x.q ∧ x.q ≤ 2147483647
  p : 0 ≤ x.p ∧ x.p ≤ 2147483647
theorem good_check {x : Tsk} (h : checkE x = 0) : GoodT x := by
  unfold checkE at h
  by_cases hr : rangesB x = true
  · unfold rangesB inB at hr
    simp only [Bool.and_eq_true, decide_eq_true_eq] at hr
    obtain ⟨⟨⟨⟨⟨⟨⟨⟨⟨h1, h2⟩, h3⟩, h4⟩, h5⟩, h6⟩, h7⟩, h8⟩, h9⟩, h10⟩ := hr
    exact ⟨h1, h2, h4, h5, h6, h8, h7, by omega⟩
  · rw [if_neg hr] at h
    cases h
theorem from_good : ∀ (xs pre : List Tsk), (allFrom pre xs).2 = 0 → ∀ x ∈ xs, checkE x = 0
  | [], _, _ => by simp
  | x :: xs, pre, h => by
    unfold allFrom at h
    by_cases h1 : checkE x ≠ 0
    · rw [if_pos h1] at h
      exact absurd h h1
    · rw [if_neg h1] at h
      by_cases h2 : (pre.any (fun y => decide (y.nm = x.nm)) || pre.any (fun y => decide (y.p = x.p))) = true
      · rw [if_pos h2] at h
        cases h
      · rw [if_neg h2] at h
        intro y hy
        simp only [List.mem_cons] at hy
        rcases hy with rfl | hy
        · exact Decidable.not_not.1 h1
        · exact from_good xs _ h y hy
theorem all_good {l : List Tsk} (h : (checkAllL l).2 = 0) : ∀ x ∈ l, GoodT x := by
  unfold checkAllL at h
  by_cases h1 : l.length = 0 ∨ 1024 < l.length
  · rw [if_pos h1] at h
    cases h
  · rw [if_neg h1] at h
    exact fun x hx => good_check (from_good l [] h x hx)
def fldsN (x : Tsk) : List (Nat × Nat) := [(0, x.c.toNat), (1, x.t.toNat), (2, x.d.toNat), (3, x.j.toNat), (4, x.q.toNat), (5, x.p.toNat)]
theorem flds_fin {x : Tsk} (h : GoodT x) : finF (setFs (begT x.nm.data.toList) (fun _ => true) (fldsN x)).1 (setFs (begT x.nm.data.toList) (fun _ => true) (fldsN x)).2 = some x := by
  obtain ⟨_, _, h1, h2, h3, h4, h5, h6⟩ := h
  obtain ⟨nm, c, t, d, j, q, p⟩ := x
  simp only at h1 h2 h3 h4 h5 h6
  obtain ⟨c, rfl⟩ := Int.eq_ofNat_of_zero_le h1.1
  obtain ⟨t, rfl⟩ := Int.eq_ofNat_of_zero_le h2.1
  obtain ⟨d, rfl⟩ := Int.eq_ofNat_of_zero_le h3.1
  obtain ⟨j, rfl⟩ := Int.eq_ofNat_of_zero_le h4.1
  obtain ⟨q, rfl⟩ := Int.eq_ofNat_of_zero_le h5.1
  obtain ⟨p, rfl⟩ := Int.eq_ofNat_of_zero_le h6.1
  have hd : ¬ (d : Int) < 0 := by omega
  simp [setFs, fldsN, setF, offF, finF, begT, hd]
theorem data_app (a b : ByteArray) : (a ++ b).data.toList = a.data.toList ++ b.data.toList := by simp
/-- A line's bytes. -/
def lineL (x : Tsk) : List UInt8 := taskW ++ (32 :: (x.nm.data.toList ++ (fldsN x).flatMap (fun f => 32 :: fldB f) ++ [10]))
theorem lineB_list (x : S29) : (lineB x).data.toList = lineL (toT x) := by
  unfold lineB lineL
  simp only [data_app, digB, fldsN, fldB, toT, List.flatMap_cons, List.flatMap_nil, List.append_assoc, List.cons_append, List.nil_append, List.append_nil]
  rfl
theorem lx_flds : ∀ (fs : List (Nat × Nat)) (l : List UInt8) (ks : List (Nat × List UInt8 × Nat)), (∀ f ∈ fs, f.1 < 6 ∧ f.2 ≤ 1099511627776) → (∀ c l', l = c :: l' → isDig c = false) → Lx l ks → Lx (fs.flatMap (fun f => 32 :: fldB f) ++ l) (fs.flatMap fsh ++ ks)
  | [], l, ks, _, _, h => by simpa using h
  | f :: fs, l, ks, hf, hl, h => by
    have h1 := lx_flds fs l ks (fun g hg => hf g (by simp [hg])) hl h
    have h2 := lx_field (f := f) (hf f (by simp)).1 (hf f (by simp)).2 (by
      intro c l' e
      cases fs with
      | nil => exact hl c l' (by simpa using e)
      | cons g gs =>
        simp only [List.flatMap_cons, List.cons_append] at e
        injection e with e1 e2
        subst e1
        decide) h1
    have h3 := lx_blank (c := 32) (.inl (by decide)) h2
    simpa only [List.flatMap_cons, List.cons_append, List.append_assoc] using h3
theorem head_flds (fs : List (Nat × Nat)) (l : List UInt8) (P : UInt8 → Bool) (h32 : P 32 = false) (hl : ∀ c l', l = c :: l' → P c = false) : ∀ c l', fs.flatMap (fun f => 32 :: fldB f) ++ l = c :: l' → P c = false := by
  intro c l' e
  cases fs with
  | nil => exact hl c l' (by simpa using e)
  | cons g gs =>
    simp only [List.flatMap_cons, List.cons_append] at e
    injection e with e1 e2
    subst e1
    exact h32
theorem lx_head {n l : List UInt8} {ks : List (Nat × List UInt8 × Nat)} (hw : wordL n = true) (hl : ∀ c l', l = c :: l' → isGo c = false) (h : Lx l ks) : Lx (taskW ++ (32 :: (n ++ l))) ((1, taskW, 0) :: (1, n, 0) :: ks) :=
  lx_word (w := taskW) (by decide) (by intro c l' e; injection e with e1 e2; subst e1; decide) (lx_blank (c := 32) (.inl (by decide)) (lx_word hw hl h))
theorem flds_bound {x : Tsk} (h : GoodT x) : ∀ f ∈ fldsN x, f.1 < 6 ∧ f.2 ≤ 1099511627776 := by
  obtain ⟨_, _, h1, h2, h3, h4, h5, h6⟩ := h
  intro f hf
  simp only [fldsN, List.mem_cons, List.not_mem_nil, or_false] at hf
  rcases hf with rfl | rfl | rfl | rfl | rfl | rfl <;> (constructor <;> simp only <;> omega)
def lineK (x : Tsk) : List (Nat × List UInt8 × Nat) := linesh x.nm.data.toList (fldsN x) ++ [(4, [10], 0)]
theorem lx_line {x : Tsk} (hx : GoodT x) {l : List UInt8} {ks : List (Nat × List UInt8 × Nat)} (h : Lx l ks) : Lx (lineL x ++ l) (lineK x ++ ks) := by
  have h1 := lx_feed h
  have h2 := lx_flds (fldsN x) (10 :: l) _ (flds_bound hx) (by intro c l' e; injection e with e1 e2; subst e1; decide) h1
  have h3 := lx_head hx.word (head_flds (fldsN x) (10 :: l) isGo (by decide) (by intro c l' e; injection e with e1 e2; subst e1; decide)) h2
  simpa only [lineL, lineK, linesh, List.append_assoc, List.cons_append, List.nil_append] using h3
theorem pairs_flds (x : Tsk) : (fldsN x).Pairwise (fun a b => a.1 ≠ b.1) := by
  simp [fldsN]
theorem rd_lines (e : Nat) : ∀ (xs : List Tsk), (∀ x ∈ xs, GoodT x) → ∀ ts : List Tk, ts.map shp = xs.flatMap lineK → rd e ts = (xs, e, 0)
  | [], _, ts, h => by
    obtain rfl : ts = [] := by simpa using h
    exact rd_nil e
  | x :: xs, hg, ts, h => by
    have hx := hg x (by simp)
    refine rd_task e (n := x.nm.data.toList) (fs := fldsN x) (ks := (4, [10], 0) :: xs.flatMap lineK) (fun f hf => (flds_bound hx f hf).1) (pairs_flds x) (by rw [h]; simp [lineK]) (by intro k ks' hk; injection hk with e1 e2; subst e1; rfl) (flds_fin hx) ?_
    intro r hr
    exact rd_feed e hr (fun r' hr' => rd_lines e xs (fun y hy => hg y (by simp [hy])) r' hr')
theorem lx_print : ∀ (xs : List S29), (∀ x ∈ xs, GoodT (toT x)) → Lx (printB xs).data.toList ((xs.map toT).flatMap lineK)
  | [], _ => lx_nil
  | x :: xs, h => by
    have h1 := lx_print xs (fun y hy => h y (by simp [hy]))
    have h2 := lx_line (h x (by simp)) h1
    simp only [printB, data_app, lineB_list, List.map_cons, List.flatMap_cons]
    exact h2
/-- What is printed is read to the same. -/
theorem read_print (xs : List S29) (h : ∀ x ∈ xs, GoodT (toT x)) : readT (printB xs).data.toList = (xs.map toT, (printB xs).size, 0) := by
  have hs : (printB xs).data.toList.length = (printB xs).size := by simp
  rw [← hs]
  exact read_lx (lx_print xs h) (fun r hr => rd_lines _ (xs.map toT) (by
    intro y hy
    obtain ⟨x, hx, rfl⟩ := List.mem_map.1 hy
    exact h x hx) r hr)
end Go.Proofs.YtefdcjmfbjlinaaDoor.A
