/- TextPlaces, the plain part. -/
import Derived.Test.YtefdcjmfbjlinaaPparses
import Derived.Test.YtefdcjmfbjlinaaPpre2
import Derived.Test.YtefdcjmfbjlinaaAx13
set_option linter.unusedVariables false
set_option linter.unusedSimpArgs false
namespace Go.Proofs.Ytefdcjmfbjlinaa.A
open Go.RowKit Go.Proofs.YtefdcjmfbjlinaaW.PrintWords Go.Proofs.YtefdcjmfbjlinaaW.PrintLast Go.Proofs.YtefdcjmfbjlinaaW.PrintMore Go.Proofs.Ytefdcjmfbjlinaa.Sc

theorem cut_list (s : ByteArray) (z : Nat) : (s.extract 0 z).data.toList = s.data.toList.take z := by
  simp
theorem rd56 (ts : List Tk) (i : Nat) (t : Tk) (h : ts[i]? = some t) : rd_T56 (ts.map tkS) (i : Int) = tkS t := by
  unfold rd_T56
  rw [List.getD_eq_getElem?_getD]
  simp [h]
/-- What is told of a text that is refused. -/
def toldB (s : ByteArray) (p en : Nat) (st : Bool) (z : Nat) : Bool := if en < s.size then st && decide (p = en) else st && decide ((readT (s.data.toList.take z)).2.2 = 0)
theorem places_go (s : ByteArray) (hs : s.size ≤ 100000) (p en : Nat) (ts : List Tk) (hb : ∀ t ∈ ts, t.at_ ≤ 1000000) (hl : ts.length ≤ 1000000) : ∀ (d i : Nat) (st : Bool) (z : Nat), ts.length - i = d → i ≤ ts.length → lineOf p (ts.drop i) z ≤ s.size →
    Ev (fun k => cadencylaw05_places.l0 k s (p : Int) st (z : Int) (i : Int) (ts.map tkS) (en : Int)) (toldB s p en (st || (ts.drop i).any fun t => decide (t.at_ = p)) (lineOf p (ts.drop i) z)) := by
  intro d
  induction d with
  | zero =>
    intro i st z hd hi hz
    obtain rfl : i = ts.length := by omega
    rw [List.drop_length] at hz ⊢
    have hz0 : lineOf p [] z = z := rfl
    rw [hz0] at hz ⊢
    simp only [List.any_nil, Bool.or_false]
    refine Ev.step (f := fun _ => some (toldB s p en st z)) (fun k => ?_) (Ev.now _)
    simp only [cadencylaw05_places.l0]
    rw [if_neg (by rw [List.length_map]; omega)]
    unfold toldB
    by_cases he : en < s.size
    · rw [if_pos (by omega), if_pos he]
      cases st
      · rw [if_neg (by decide)]; rfl
      · rw [if_pos rfl]
        congr 1
        rw [Bool.eq_iff_iff]
        simp
        try omega
    · rw [if_neg (by omega), if_neg he, if_pos (by omega), if_pos (by omega)]
      unfold text_Read.f
      rw [Int.toNat_natCast, if_pos (by simp; omega), cut_list]
      simp only [Option.bind_some]
      cases st
      · rw [if_neg (by decide)]; rfl
      · rw [if_pos rfl]
        congr 1
        rw [Bool.eq_iff_iff]
        simp
        try omega
  | succ d ih =>
    intro i st z hd hi hz
    have hlt : i < ts.length := by omega
    obtain ⟨t, ht⟩ : ∃ t, ts[i]? = some t := ⟨_, List.getElem?_eq_getElem hlt⟩
    have hdr : ts.drop i = t :: ts.drop (i + 1) := drop_cons ht
    have hbt := hb t (List.mem_of_getElem? ht)
    have hlen : ((ts.map tkS).length : Int) = (ts.length : Int) := by rw [List.length_map]
    have hw : wrap64 ((i : Int) + 1) = ((i + 1 : Nat) : Int) := by unfold wrap64; omega
    have hw2 : wrap64 ((t.at_ : Int) + 1) = ((t.at_ + 1 : Nat) : Int) := by unfold wrap64; omega
    rw [hdr] at hz ⊢
    have hstep : lineOf p (t :: ts.drop (i + 1)) z = lineOf p (ts.drop (i + 1)) (if t.at_ < p ∧ t.kind = 4 then t.at_ + 1 else z) := rfl
    rw [hstep] at hz ⊢
    have hn := ih (i + 1) (st || decide (t.at_ = p)) _ (by omega) (by omega) hz
    rw [List.any_cons, ← Bool.or_assoc]
    refine Ev.step (f := fun k => cadencylaw05_places.j3 k s (p : Int) (st || decide (t.at_ = p)) (z : Int) (i : Int) (ts.map tkS) (en : Int)) (fun k => ?_) (Ev.step (f := fun k => cadencylaw05_places.l0 k s (p : Int) (st || decide (t.at_ = p)) ((if t.at_ < p ∧ t.kind = 4 then t.at_ + 1 else z : Nat) : Int) ((i + 1 : Nat) : Int) (ts.map tkS) (en : Int)) (fun k => ?_) hn)
    · simp only [cadencylaw05_places.l0]
      rw [if_pos (by rw [hlen]; omega), if_pos (by omega), rd56 ts i t ht]
      by_cases hp : t.at_ = p
      · rw [if_pos (show (tkS t).f1 = (p : Int) by show (t.at_ : Int) = p; omega), decide_eq_true hp, Bool.or_true]
      · rw [if_neg (show ¬ (tkS t).f1 = (p : Int) by show ¬ (t.at_ : Int) = p; omega), decide_eq_false hp, Bool.or_false]
    · simp only [cadencylaw05_places.j3]
      rw [if_pos (by omega), if_pos (by rw [hlen]; omega), rd56 ts i t ht, hw]
      have e1 : (tkS t).f1 = (t.at_ : Int) := rfl
      have e0 : (tkS t).f0 = (t.kind : Int) := rfl
      rw [e1, e0, hw2]
      by_cases h1 : t.at_ < p
      · rw [if_pos (by omega)]
        by_cases h4 : t.kind = 4
        · rw [if_pos (by omega), if_pos ⟨h1, h4⟩]
        · rw [if_neg (by omega), if_neg (fun hh => h4 hh.2)]
      · rw [if_neg (by omega), if_neg (fun hh => h1 hh.1)]
theorem places_some (s : ByteArray) (hs : s.size ≤ 100000) : Ev (fun k => cadencylaw05_places.f k s) true := by
  have hL : s.data.toList.length = s.size := by simp
  by_cases h0 : (readT s.data.toList).2.2 = 0
  · have hg := read_good _ h0
    refine Ev.congr (f := fun _ => some true) (fun k => ?_) (Ev.now _)
    unfold cadencylaw05_places.f text_Read.f
    rw [if_pos hs, Option.bind_some, if_pos (by simp only; omega)]
    simp only
    rw [hg, hL]
    simp
  · obtain ⟨hl, he, hp, hrest⟩ := read_bad _ h0
    obtain ⟨K0, k0⟩ : ∃ K, ∀ k, K ≤ k → cadencyref03_Each.f k s = some ((eachL s.data.toList).1.map tkS, (((eachL s.data.toList).2 : Nat) : Int)) := ⟨_, fun k hk => refEach_some s (by omega) k hk⟩
    obtain ⟨ts, hts⟩ : ∃ ts, (eachL s.data.toList).1 = ts := ⟨_, rfl⟩
    obtain ⟨en, hen⟩ : ∃ en, (eachL s.data.toList).2 = en := ⟨_, rfl⟩
    obtain ⟨p, hpp⟩ : ∃ p, (readT s.data.toList).2.1 = p := ⟨_, rfl⟩
    have hso := (rst_sorted _ (skp false s.data.toList) (s.data.toList.drop (skp false s.data.toList)) (Nat.le_refl _)).2
    rw [← eachL_eq, List.length_drop] at hso
    have hsk := skp_le false s.data.toList
    have hln := eachL_len s.data.toList
    rw [hts] at hso hln k0 hrest
    rw [hen] at k0 hrest
    rw [hpp] at hp hrest
    have hb : ∀ t ∈ ts, t.at_ ≤ 1000000 := fun t ht => by have := (hso t ht).2; omega
    have hst : (decide (p = s.size) || decide (p = en)) = true ∨ (ts.any fun t => decide (t.at_ = p)) = true := by
      rcases hrest with ⟨_, h2⟩ | ⟨_, h2, _⟩
      · exact .inl (by simp [h2])
      · rcases h2 with h2 | ⟨t, ht, hta⟩
        · exact .inl (by rw [h2, hL]; simp)
        · exact .inr (List.any_eq_true.2 ⟨t, ht, by simpa using hta⟩)
    have hz : lineOf p ts 0 ≤ s.size := by
      rcases hrest with ⟨_, h2⟩ | ⟨_, _, h2, _⟩
      · have key : ∀ (l : List Tk) (z : Nat), z ≤ s.size → (∀ t ∈ l, t.at_ < s.size) → lineOf p l z ≤ s.size := by
          intro l
          induction l with
          | nil => exact fun z h _ => h
          | cons t l ih =>
            intro z h ht
            have := ht t (by simp)
            show lineOf p l (if t.at_ < p ∧ t.kind = 4 then t.at_ + 1 else z) ≤ s.size
            refine ih _ ?_ (fun u hu => ht u (by simp [hu]))
            split <;> omega
        exact key ts 0 (by omega) (fun t ht => by have := (hso t ht).2; omega)
      · omega
    have hgo := places_go s hs p en ts hb (by omega) ts.length 0 (decide (p = s.size) || decide (p = en)) 0 (by omega) (by omega) (by rw [List.drop_zero]; exact hz)
    rw [List.drop_zero] at hgo
    have hall : ((decide (p = s.size) || decide (p = en)) || ts.any fun t => decide (t.at_ = p)) = true := by
      rcases hst with h | h
      · rw [h]; rfl
      · rw [h, Bool.or_true]
    rw [hall] at hgo
    have htold : toldB s p en true (lineOf p ts 0) = true := by
      unfold toldB
      rcases hrest with ⟨h1, h2⟩ | ⟨h1, _, _, h2⟩
      · rw [if_pos (by omega)]; simp [h2]
      · rw [if_neg (by omega)]; simp [h2]
    rw [htold] at hgo
    obtain ⟨K1, k1⟩ := hgo
    refine ⟨K0 + K1 + 3, fun k hk => ?_⟩
    obtain ⟨k, rfl⟩ : ∃ m, k = m + 1 + 1 := ⟨k - 2, by omega⟩
    have k1 := k1 k (by omega)
    dsimp only at k1 ⊢
    unfold cadencylaw05_places.f text_Read.f
    rw [if_pos hs, Option.bind_some]
    simp only
    rw [if_neg (by omega), if_pos (by rw [hl]; rfl), if_pos (by omega), hpp, if_neg (by omega), decide_eq_false (by omega)]
    simp only [cadencylaw05_places.j0]
    rw [if_neg (by decide), k0 (k + 1) (by omega)]
    simp only [Option.bind_some]
    have hz0 : ((0 : Nat) : Int) = 0 := rfl
    rw [hz0] at k1
    by_cases hps : p = s.size
    · rw [if_pos (by omega)]
      simp only [cadencylaw05_places.j1]
      rw [← k1, decide_eq_true hps, Bool.true_or]
    · rw [if_neg (by omega)]
      simp only [cadencylaw05_places.j1]
      rw [← k1, decide_eq_false hps, Bool.false_or]
      congr 1
      rw [Bool.eq_iff_iff]
      simp
      omega
theorem textPlaces_some (s : ByteArray) (l : List S43) (q0 q1 q2 : Int) : ∃ k, cadencylaw05_TextPlaces.f k s l q0 q1 q2 = some true := by
  obtain ⟨K1, k1⟩ := set_some_m 6 (by omega) (by omega) l q1
  obtain ⟨p, hp⟩ : ∃ p, setOf (l.take 6) q1 = p := ⟨_, rfl⟩
  have hfew := few_set (l.take 6) q1
  have hsz := set_print (l.take 6) q1
  have hlen := (setOf_length (l.take 6) q1).2
  rw [hp] at k1 hfew hsz hlen
  obtain ⟨K2, k2⟩ := print_some (n := 2) (by omega) p hfew (by omega)
  have hsh := sh_size s
  obtain ⟨r1, e1, z1⟩ := spoilt_some (printB p) (by omega) q0 q1 q2
  obtain ⟨K3, k3⟩ := places_some (sh s) (by omega)
  obtain ⟨K5, k5⟩ := places_some r1 (by omega)
  refine ⟨K1 + K2 + K3 + K5, ?_⟩
  obtain ⟨k, hk⟩ : ∃ k, k = K1 + K2 + K3 + K5 := ⟨_, rfl⟩
  rw [← hk]
  have k1 := k1 k (by omega)
  have k2 := k2 k (by omega)
  have k3 := k3 k (by omega)
  have k5 := k5 k (by omega)
  dsimp only at k1 k2 k3 k5
  rw [show ((6 : Nat) : Int) = 6 from rfl] at k1
  unfold cadencylaw05_TextPlaces.f
  rw [awake_some]
  simp only [Option.bind_some, k1, k2, k3, k5, if_true, short_some, e1]
end Go.Proofs.Ytefdcjmfbjlinaa.A
