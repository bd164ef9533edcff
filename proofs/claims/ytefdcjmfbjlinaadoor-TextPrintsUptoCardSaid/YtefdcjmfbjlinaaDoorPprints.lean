/- TextPrints, plain: the document's lines are the program's, whatever the numbers are. -/
import Derived.Test.YtefdcjmfbjlinaaDoorPdoor
import Derived.Test.YtefdcjmfbjlinaaDoorAx6
set_option linter.unusedVariables false
set_option linter.unusedSimpArgs false
namespace Go.Proofs.YtefdcjmfbjlinaaDoor.A
open Go.RowKit Go.Proofs.YtefdcjmfbjlinaaDoorW.PrintWords Go.Proofs.YtefdcjmfbjlinaaDoorW.PrintLast Go.Proofs.YtefdcjmfbjlinaaDoorW.PrintMore Go.Proofs.YtefdcjmfbjlinaaDoor.Sc

def sgn (x : Int) : ByteArray := if x < 0 then ⟨#[45]⟩ else ⟨#[]⟩
def sg (x : Int) (m : Nat) : Int := if x < 0 then -(m : Int) else (m : Int)
theorem dg_last (x0 : Int) (acc : ByteArray) (hne : acc.size ≠ 0) (hs : acc.size ≤ 5000) : Ev (fun k => cadencyref05_Digits.l0 k x0 acc 0) (sgn x0 ++ acc) := by
  refine Ev.step (f := fun k => cadencyref05_Digits.j1 k x0 acc 0 false) (fun k => ?_) (Ev.step (f := fun _ => some (sgn x0 ++ acc)) (fun k => ?_) (Ev.now _))
  · simp only [cadencyref05_Digits.l0]
    rw [if_pos trivial, toList_nil, decide_eq_false hne]
  · simp only [cadencyref05_Digits.j1]
    rw [if_neg (by decide)]
    unfold sgn
    by_cases h : x0 < 0
    · rw [if_pos h, if_pos (by omega), if_pos h]
    · rw [if_neg h, if_neg h, nil_app]
theorem e_neg (r : Nat) (h : r < 10) : (wrap64 (48 + wrap64 (- -(r : Int)))) % 256 = ((48 + r : Nat) : Int) := by
  rw [Int.neg_neg, show wrap64 (r : Int) = (r : Int) by unfold wrap64; omega]
  unfold wrap64; omega
theorem e_nil : (wrap64 (48 + -((0 : Nat) : Int))) % 256 = ((48 + 0 : Nat) : Int) := by unfold wrap64; omega
theorem e_pos (r : Nat) (h : r < 10) : (wrap64 (48 + (r : Int))) % 256 = ((48 + r : Nat) : Int) := by unfold wrap64; omega
theorem w_neg (r : Nat) (h : r ≤ 922337203685477580) : wrap64 (-(r : Int)) = -(r : Int) := by unfold wrap64; omega
theorem w_pos (r : Nat) (h : r ≤ 922337203685477580) : wrap64 (r : Int) = (r : Int) := by unfold wrap64; omega
theorem dg_one (x0 : Int) (m : Nat) (acc : ByteArray) (hm : m ≤ 9223372036854775808) (hx : ¬ x0 < 0 → m ≤ 9223372036854775807) (hs : acc.size ≤ 5000) (h : ¬ (m = 0 ∧ acc.size ≠ 0)) (R : ByteArray)
    (hR : Ev (fun k => cadencyref05_Digits.l0 k x0 ((⟨#[UInt8.ofNat (48 + m % 10)]⟩ : ByteArray) ++ acc) (sg x0 (m / 10))) R) : Ev (fun k => cadencyref05_Digits.l0 k x0 acc (sg x0 m)) R := by
  have hz : (⟨#[UInt8.ofNat (48 + m % 10)]⟩ : ByteArray).size = 1 := rfl
  refine Ev.step (f := fun k => cadencyref05_Digits.j1 k x0 acc (sg x0 m) true) (fun k => ?_) (Ev.step (f := fun k => cadencyref05_Digits.l0 k x0 ((⟨#[UInt8.ofNat (48 + m % 10)]⟩ : ByteArray) ++ acc) (sg x0 (m / 10))) (fun k => ?_) hR)
  · simp only [cadencyref05_Digits.l0]
    by_cases h0 : m = 0
    · rw [if_pos (by unfold sg; split <;> omega), toList_nil, decide_eq_true (by omega)]
    · rw [if_neg (by unfold sg; split <;> omega)]
  · simp only [cadencyref05_Digits.j1]
    rw [if_pos trivial]
    by_cases hn : x0 < 0
    · have hk : sg x0 m = -(m : Int) := by unfold sg; rw [if_pos hn]
      have hk2 : sg x0 (m / 10) = -((m / 10 : Nat) : Int) := by unfold sg; rw [if_pos hn]
      have hmod : Int.tmod (-(m : Int)) 10 = -((m % 10 : Nat) : Int) := by
        rw [Int.neg_tmod, Int.tmod_eq_emod_of_nonneg (by omega)]; omega
      have hdiv : Int.tdiv (-(m : Int)) 10 = -((m / 10 : Nat) : Int) := by
        rw [Int.neg_tdiv, Int.tdiv_eq_ediv_of_nonneg (by omega)]; omega
      have hw : wrap64 (-((m / 10 : Nat) : Int)) = -((m / 10 : Nat) : Int) := w_neg _ (by omega)
      rw [hk, hk2, hmod, hdiv, hw]
      clear hk hk2 hmod hdiv hw
      by_cases h0 : m % 10 = 0
      · rw [if_neg (by omega)]
        simp only [Option.bind_some]
        have e : (wrap64 (48 + -((m % 10 : Nat) : Int))) % 256 = ((48 + m % 10 : Nat) : Int) := by rw [h0]; exact e_nil
        rw [e, nums_one _ (by omega), if_pos (by omega)]
      · rw [if_pos (by omega)]
        simp only [Option.bind_some]
        have e : (wrap64 (48 + wrap64 (- -((m % 10 : Nat) : Int)))) % 256 = ((48 + m % 10 : Nat) : Int) := e_neg _ (Nat.mod_lt _ (by decide))
        rw [e, nums_one _ (by omega), if_pos (by omega)]
    · have hk : sg x0 m = (m : Int) := by unfold sg; rw [if_neg hn]
      have hk2 : sg x0 (m / 10) = ((m / 10 : Nat) : Int) := by unfold sg; rw [if_neg hn]
      have hmod : Int.tmod (m : Int) 10 = ((m % 10 : Nat) : Int) := by
        rw [Int.tmod_eq_emod_of_nonneg (by omega)]; omega
      have hdiv : Int.tdiv (m : Int) 10 = ((m / 10 : Nat) : Int) := by
        rw [Int.tdiv_eq_ediv_of_nonneg (by omega)]; omega
      have hw : wrap64 ((m / 10 : Nat) : Int) = ((m / 10 : Nat) : Int) := w_pos _ (by omega)
      rw [hk, hk2, hmod, hdiv, hw, if_neg (Int.not_lt.2 (Int.natCast_nonneg _))]
      clear hk hk2 hmod hdiv hw
      simp only [Option.bind_some]
      have e : (wrap64 (48 + ((m % 10 : Nat) : Int))) % 256 = ((48 + m % 10 : Nat) : Int) := e_pos _ (Nat.mod_lt _ (by decide))
      rw [e, nums_one _ (by omega), if_pos (by omega)]
theorem dg (x0 : Int) : ∀ (m : Nat) (acc : ByteArray), m ≤ 9223372036854775808 → (¬ x0 < 0 → m ≤ 9223372036854775807) → acc.size + (dig m).length ≤ 4000 → ¬ (m = 0 ∧ acc.size ≠ 0) → Ev (fun k => cadencyref05_Digits.l0 k x0 acc (sg x0 m)) (sgn x0 ++ (digB m ++ acc)) := by
  intro m
  induction m using Nat.strongRecOn with
  | ind m ih =>
  intro acc hm hx hs h
  have hz : ((⟨#[UInt8.ofNat (48 + m % 10)]⟩ : ByteArray) ++ acc).size = 1 + acc.size := by rw [ByteArray.size_append]; rfl
  refine dg_one x0 m acc hm hx (by omega) h _ ?_
  by_cases hlt : m < 10
  · have h0 : m / 10 = 0 := by omega
    have e : digB m ++ acc = (⟨#[UInt8.ofNat (48 + m % 10)]⟩ : ByteArray) ++ acc := by
      unfold digB
      rw [dig_small hlt, Nat.mod_eq_of_lt hlt]
    rw [h0, e, show sg x0 0 = 0 by unfold sg; split <;> rfl]
    exact dg_last x0 _ (by omega) (by omega)
  · have e : digB m ++ acc = digB (m / 10) ++ ((⟨#[UInt8.ofNat (48 + m % 10)]⟩ : ByteArray) ++ acc) := by
      unfold digB
      rw [dig_big hlt, ← ByteArray.append_assoc]
      congr 1
    have hd : (dig m).length = (dig (m / 10)).length + 1 := by rw [dig_big hlt]; simp
    rw [e]
    exact ih (m / 10) (by omega) _ (by omega) (fun _ => by omega) (by omega) (by omega)
def itoaB (n : Int) : ByteArray := ⟨(Lib.itoa n).toArray⟩
theorem sgn_dig (n : Int) : sgn n ++ (digB n.natAbs ++ (⟨#[]⟩ : ByteArray)) = itoaB n := by
  rw [app_nil]
  apply ba_ext
  unfold sgn itoaB Lib.itoa digB
  by_cases h : n < 0
  · rw [if_pos h, if_pos h, dec_dig]
    simp
  · rw [if_neg h, if_neg h, dec_dig, show n.natAbs = n.toNat by omega]
    simp
theorem digits_all (n : Int) (h : -9223372036854775808 ≤ n ∧ n ≤ 9223372036854775807) : Ev (fun k => cadencyref05_Digits.f k n) (itoaB n) := by
  have hl := dig_len 18 n.natAbs (by omega)
  have := dg n n.natAbs ⟨#[]⟩ (by omega) (by intro _; omega) (by have : (⟨#[]⟩ : ByteArray).size = 0 := rfl
                                                                 omega) (fun h => h.2 rfl)
  rw [sgn_dig, show sg n n.natAbs = n by unfold sg; split <;> omega] at this
  exact this
theorem itoaB_size (n : Int) (h : -9223372036854775808 ≤ n ∧ n ≤ 9223372036854775807) : (itoaB n).size ≤ 21 := by
  have := itoa_len h
  unfold itoaB
  simpa [ByteArray.size] using this
theorem lineS_parts (x : S29) : lineS (toT x) = (⟨#[116, 97, 115, 107, 32]⟩ : ByteArray) ++ x.f0 ++ (⟨#[32, 99, 61]⟩ : ByteArray) ++ itoaB x.f1 ++ (⟨#[32, 116, 61]⟩ : ByteArray) ++ itoaB x.f2 ++ (⟨#[32, 100, 61]⟩ : ByteArray) ++ itoaB x.f3 ++ (⟨#[32, 106, 61]⟩ : ByteArray) ++ itoaB x.f4 ++ (⟨#[32, 113, 61]⟩ : ByteArray) ++ itoaB x.f5 ++ (⟨#[32, 112, 61]⟩ : ByteArray) ++ itoaB x.f6 ++ (⟨#[10]⟩ : ByteArray) := by
  apply ba_ext
  unfold lineS
  rw [data_app]
  simp only
  rw [join_eq]
  simp only [data_app, itoaB, toT, wC, wT, wD, wJ, wQ, wP, List.append_assoc, List.cons_append, List.nil_append]
set_option maxHeartbeats 4000000 in
theorem line_all (x : S29) (hw : Wide 4000000 (toT x)) : Ev (fun k => cadencyref05_Line.f k x.f0 x.f1 x.f2 x.f3 x.f4 x.f5 x.f6) (lineS (toT x)) := by
  obtain ⟨h0, h1, h2, h3, h4, h5, h6⟩ := hw
  simp only [toT] at h0 h1 h2 h3 h4 h5 h6
  have d1 := itoaB_size x.f1 h1
  have d2 := itoaB_size x.f2 h2
  have d3 := itoaB_size x.f3 h3
  have d4 := itoaB_size x.f4 h4
  have d5 := itoaB_size x.f5 h5
  have d6 := itoaB_size x.f6 h6
  obtain ⟨K1, k1⟩ := digits_all x.f1 h1
  obtain ⟨K2, k2⟩ := digits_all x.f2 h2
  obtain ⟨K3, k3⟩ := digits_all x.f3 h3
  obtain ⟨K4, k4⟩ := digits_all x.f4 h4
  obtain ⟨K5, k5⟩ := digits_all x.f5 h5
  obtain ⟨K6, k6⟩ := digits_all x.f6 h6
  have e1 : (⟨#[116, 97, 115, 107, 32]⟩ : ByteArray).size = 5 := rfl
  have e2 : (⟨#[32, 99, 61]⟩ : ByteArray).size = 3 := rfl
  have e3 : (⟨#[32, 116, 61]⟩ : ByteArray).size = 3 := rfl
  have e4 : (⟨#[32, 100, 61]⟩ : ByteArray).size = 3 := rfl
  have e5 : (⟨#[32, 106, 61]⟩ : ByteArray).size = 3 := rfl
  have e6 : (⟨#[32, 113, 61]⟩ : ByteArray).size = 3 := rfl
  have e7 : (⟨#[32, 112, 61]⟩ : ByteArray).size = 3 := rfl
  have e8 : (⟨#[10]⟩ : ByteArray).size = 1 := rfl
  refine ⟨K1 + K2 + K3 + K4 + K5 + K6, fun k hk => ?_⟩
  show cadencyref05_Line.f k x.f0 x.f1 x.f2 x.f3 x.f4 x.f5 x.f6 = _
  rw [lineS_parts]
  have k1 := k1 k (by omega)
  have k2 := k2 k (by omega)
  have k3 := k3 k (by omega)
  have k4 := k4 k (by omega)
  have k5 := k5 k (by omega)
  have k6 := k6 k (by omega)
  dsimp only at k1 k2 k3 k4 k5 k6
  clear h1 h2 h3 h4 h5 h6
  unfold cadencyref05_Line.f
  rw [if_pos (by omega), if_pos (by simp only [ByteArray.size_append]; omega), k1, Option.bind_some]
  repeat first
    | rw [if_pos (by simp only [ByteArray.size_append]; omega)]
    | rw [k2, Option.bind_some]
    | rw [k3, Option.bind_some]
    | rw [k4, Option.bind_some]
    | rw [k5, Option.bind_some]
    | rw [k6, Option.bind_some]
  have e10 : strOfNums [(10 : Int)] = ⟨#[10]⟩ := nums_one 10 (by omega)
  rw [Option.bind_some, e10, if_pos (by simp only [ByteArray.size_append]; omega)]
theorem prints_go (xs : List S29) (hf : ∀ x ∈ xs, Wide 4000000 (toT x)) (hl : xs.length ≤ 10000) : ∀ (d i : Nat) (acc : ByteArray), xs.length - i = d → i ≤ xs.length → acc.size ≤ i * 4000300 → Ev (fun k => cadencyref05_Print.l0 k xs acc (i : Int)) (acc ++ printS ((xs.drop i).map toT)) := by
  intro d
  induction d with
  | zero =>
    intro i acc hd hi ha
    rw [List.drop_eq_nil_of_le (by omega)]
    simp only [List.map_nil, printS, app_nil]
    refine Ev.step (f := fun _ => some acc) (fun k => ?_) (Ev.now _)
    simp only [cadencyref05_Print.l0]
    rw [if_neg (by omega)]
  | succ d ih =>
    intro i acc hd hi ha
    have hlt : i < xs.length := by omega
    obtain ⟨x, hx⟩ : ∃ x, xs[i]? = some x := ⟨_, List.getElem?_eq_getElem hlt⟩
    have hdr : xs.drop i = x :: xs.drop (i + 1) := by
      rw [List.drop_eq_getElem_cons hlt]
      rw [List.getElem?_eq_getElem hlt] at hx
      injection hx with hx
      rw [hx]
    have hfx := hf x (List.mem_of_getElem? hx)
    have hs := lineS_size (toT x) hfx
    have ha2 : (acc ++ lineS (toT x)).size ≤ (i + 1) * 4000300 := by
      rw [ByteArray.size_append, Nat.add_mul, Nat.one_mul]; omega
    have hb : i * 4000300 ≤ 10000 * 4000300 := Nat.mul_le_mul (by omega) (by omega)
    obtain ⟨K1, k1⟩ := line_all x hfx
    obtain ⟨K2, k2⟩ := ih (i + 1) (acc ++ lineS (toT x)) (by omega) (by omega) ha2
    rw [hdr]
    simp only [List.map_cons, printS]
    rw [← ByteArray.append_assoc]
    refine ⟨K1 + K2 + 1, fun k hk => ?_⟩
    obtain ⟨k, rfl⟩ : ∃ m, k = m + 1 := ⟨k - 1, by omega⟩
    have k1 := k1 k (by omega)
    have k2 := k2 k (by omega)
    dsimp only at k1 k2 ⊢
    simp only [cadencyref05_Print.l0]
    rw [if_pos (by omega), if_pos (by omega), rd46 xs i x hx, k1, Option.bind_some, if_pos (by omega), show wrap64 ((i : Int) + 1) = ((i + 1 : Nat) : Int) by unfold wrap64; omega]
    exact k2
theorem prints_some (xs : List S29) (hf : ∀ x ∈ xs, Wide 4000000 (toT x)) (hl : xs.length ≤ 10000) : Ev (fun k => cadencyref05_Print.f k xs) (printS (xs.map toT)) := by
  have h0 : (⟨#[]⟩ : ByteArray).size = 0 := rfl
  have := prints_go xs hf hl xs.length 0 ⟨#[]⟩ (by omega) (by omega) (by omega)
  rw [List.drop_zero, nil_app] at this
  exact this
theorem wideB_of {x : S29} (h : Wide 4000000 (toT x)) : wideB x = true := by
  obtain ⟨h0, h1, h2, h3, h4, h5, h6⟩ := h
  simp only [toT] at h0 h1 h2 h3 h4 h5 h6
  unfold wideB i64B
  simp only [Bool.and_eq_true, decide_eq_true_eq]
  omega
theorem printS_some (xs : List S29) (hl : xs.length ≤ 10000) (h : ∀ x ∈ xs, Wide 4000000 (toT x)) : text_Print.f xs = some (printS (xs.map toT)) := by
  unfold text_Print.f
  rw [if_pos (by
    rw [Bool.and_eq_true, decide_eq_true_eq, List.all_eq_true]
    exact ⟨hl, fun x hx => wideB_of (h x hx)⟩)]
theorem textPrints_go (raw : List S29) (hl : raw.length ≤ 6) (hn : ∀ x ∈ raw, Wide 4000000 (toT x)) (l : List S43) (a2 : Int) : Ev (fun k => cadencylaw05_TextPrints.j0 k raw l a2 true) true := by
  obtain ⟨K1, k1⟩ := set_some_m 6 (by omega) (by omega) l a2
  obtain ⟨p, hp⟩ : ∃ p, setOf (l.take 6) a2 = p := ⟨_, rfl⟩
  have hlen := setOf_length (l.take 6) a2
  have hg := set_good (l.take 6) a2
  rw [hp] at k1 hlen hg
  have hw : ∀ x ∈ p, Wide 4000000 (toT x) := fun x hx => wide_of (good_wide (hg x hx))
  obtain ⟨y, hy⟩ : ∃ y, p[0]? = some y := ⟨_, List.getElem?_eq_getElem (by omega)⟩
  have hrd : rd_T29 p 0 = y := rd46 p 0 y hy
  have hwy := hw y (List.mem_of_getElem? hy)
  obtain ⟨K2, k2⟩ := prints_some raw hn (by omega)
  obtain ⟨K3, k3⟩ := prints_some p hw (by omega)
  obtain ⟨K4, k4⟩ := line_all y hwy
  have hL : text_Line.f y.f0 y.f1 y.f2 y.f3 y.f4 y.f5 y.f6 = some (lineS (toT y)) := by
    unfold text_Line.f
    rw [if_pos (wideB_of hwy)]
    rfl
  refine ⟨K1 + K2 + K3 + K4 + 1, fun k hk => ?_⟩
  obtain ⟨k, rfl⟩ : ∃ m, k = m + 1 := ⟨k - 1, by omega⟩
  have k1 := k1 k (by omega)
  have k2 := k2 k (by omega)
  have k3 := k3 k (by omega)
  have k4 := k4 k (by omega)
  dsimp only at k1 k2 k3 k4 ⊢
  rw [show ((6 : Nat) : Int) = 6 from rfl] at k1
  simp only [cadencylaw05_TextPrints.j0]
  simp only [k1, k2, k3, printS_some raw (by omega) hn, printS_some p (by omega) hw, Option.bind_some, if_true, hrd, hL, k4]
  rw [if_pos (by omega)]
  simp
theorem textPrints_some (raw : List S29) (hn : ∀ x ∈ raw, Wide 4000000 (toT x)) (l : List S43) (a2 : Int) : ∃ k, cadencylaw05_TextPrints.f k raw l a2 = some true := by
  by_cases h : (raw.length : Int) > 6
  · obtain ⟨K, hK⟩ := textPrints_go (raw.take 6) (by simp; omega) (fun x hx => hn x (List.mem_of_mem_take hx)) l a2
    refine ⟨K, ?_⟩
    unfold cadencylaw05_TextPrints.f
    rw [awake_some, Option.bind_some, if_pos h, if_pos (by omega)]
    exact hK K (Nat.le_refl _)
  · obtain ⟨K, hK⟩ := textPrints_go raw (by omega) hn l a2
    refine ⟨K, ?_⟩
    unfold cadencylaw05_TextPrints.f
    rw [awake_some, Option.bind_some, if_neg h]
    exact hK K (Nat.le_refl _)
end Go.Proofs.YtefdcjmfbjlinaaDoor.A
