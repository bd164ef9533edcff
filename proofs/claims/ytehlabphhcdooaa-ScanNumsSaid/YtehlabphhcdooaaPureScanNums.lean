/- ScanNums, the plain part: a number's token tells it. -/
import Derived.Test.YtehlabphhcdooaaS4x1
import Derived.Test.YtehlabphhcdooaaNumsplain
set_option linter.unusedVariables false
set_option linter.unusedSimpArgs false
namespace Go.Proofs.Ytehlabphhcdooaa.PureN
open Go.RowKit Go.Proofs.Ytehlabphhcdooaa.S4 Go.Proofs.YtehlabphhcdooaaW.PrintWords Go.Proofs.YtehlabphhcdooaaW.PrintLast Go.Proofs.Ytehlabphhcdooaa.Sc

theorem awake_some : cadencylaw03_awake.f = some true := by decide +kernel
theorem rest_some (a : Int) : ∃ r : Nat, r ≤ 9 ∧ cadencylaw03_rest.f a 10 = some (r : Int) := by
  unfold cadencylaw03_rest.f
  rw [if_neg (by decide)]
  have h1 := Int.tmod_lt_of_pos a (show (0 : Int) < 10 by decide)
  have h2 : -10 < Int.tmod a 10 := by
    have := Int.lt_tmod_of_pos a (show (0 : Int) < 10 by decide)
    omega
  refine ⟨(Int.tmod (Int.tmod a 10 + 10) 10).toNat, ?_, ?_⟩
  · have h3 := Int.tmod_lt_of_pos (Int.tmod a 10 + 10) (show (0 : Int) < 10 by decide)
    omega
  · have h4 := Int.tmod_nonneg 10 (show 0 ≤ Int.tmod a 10 + 10 by omega)
    have hw : wrap64 (Int.tmod a 10 + 10) = Int.tmod a 10 + 10 := by unfold wrap64; omega
    rw [hw]
    congr 1
    omega

theorem hmk (l : List UInt8) : (⟨l.toArray⟩ : ByteArray).toList = l := by rw [Lib.toList_data]
theorem hsz (s : ByteArray) : s.data.toList.length = s.size := by simp

theorem last (k : Nat) (x1 m : Int) (M r : Nat) (hr : cadencylaw03_rest.f x1 10 = some (r : Int)) (s t : ByteArray) (hm : m = M)
    (hs0 : s.data.toList ≠ []) (hsd : ∀ d ∈ s.data.toList, isDig d = true) (hsl : s.size ≤ 20) (hsv : valL 0 s.data.toList = M)
    (ht0 : t.data.toList ≠ []) (htd : ∀ d ∈ t.data.toList, isDig d = true) (htl : t.size ≤ 40) (htv : valL 0 t.data.toList = M) :
    cadencylaw03_ScanNums.l1 (k + 1) x1 true m s t (r : Int) = some true := by
  have h61 : (⟨#[61]⟩ : ByteArray).size = 1 := rfl
  have e1 : ((⟨#[61]⟩ : ByteArray) ++ t).size = 1 + t.size := by rw [ByteArray.size_append, h61]
  have e2 : (((⟨#[61]⟩ : ByteArray) ++ t) ++ (⟨#[61]⟩ : ByteArray)).size = 1 + t.size + 1 := by rw [ByteArray.size_append, e1, h61]
  have e3 : (((⟨#[61]⟩ : ByteArray) ++ t) ++ (⟨#[61]⟩ : ByteArray)).data.toList = 61 :: (t.data.toList ++ [61]) := by simp
  simp only [cadencylaw03_ScanNums.l1]
  rw [hr]
  simp only [Option.bind_some]
  rw [if_neg (by omega)]
  unfold scan_Lex.f
  rw [if_pos (by omega)]
  simp only [Option.bind_some]
  rw [if_pos (by omega), if_pos (by omega), if_pos (by omega)]
  simp only [Option.bind_some]
  rw [e3, lex_eq_num ht0 htd, lex_num hs0 hsd, nm_val, nm_val, hsv, htv, hm]
  have hmn : mn (M : Int) 1099511627776 = ((min M 1099511627776 : Nat) : Int) := by
    unfold mn
    split <;> omega
  rw [hmn]
  simp [rd_T28, tkS, hmk]

theorem loop1 (x1 m : Int) (M r : Nat) (hr : cadencylaw03_rest.f x1 10 = some (r : Int)) (hr9 : r ≤ 9) (s : ByteArray) (hm : m = M)
    (hs0 : s.data.toList ≠ []) (hsd : ∀ d ∈ s.data.toList, isDig d = true) (hsl : s.size ≤ 20) (hsv : valL 0 s.data.toList = M) :
    ∀ (n i : Nat) (t : ByteArray), n + i = r → t.data.toList ≠ [] → (∀ d ∈ t.data.toList, isDig d = true) → t.size ≤ 20 + i → valL 0 t.data.toList = M →
    cadencylaw03_ScanNums.l1 (n + 1) x1 true m s t (i : Int) = some true := by
  intro n
  induction n with
  | zero =>
    intro i t hi ht0 htd htl htv
    obtain rfl : i = r := by omega
    exact last 0 x1 m M i hr s t hm hs0 hsd hsl hsv ht0 htd (by omega) htv
  | succ n ih =>
    intro i t hi ht0 htd htl htv
    conv => lhs; unfold cadencylaw03_ScanNums.l1
    rw [hr]
    simp only [Option.bind_some]
    have e1 : ((⟨#[48]⟩ : ByteArray) ++ t).size = 1 + t.size := by rw [ByteArray.size_append]; rfl
    have e3 : ((⟨#[48]⟩ : ByteArray) ++ t).data.toList = 48 :: t.data.toList := by simp
    rw [if_pos (by omega), if_pos (by omega), show wrap64 ((i : Int) + 1) = ((i + 1 : Nat) : Int) from by unfold wrap64; omega]
    exact ih (i + 1) ((⟨#[48]⟩ : ByteArray) ++ t) (by omega) (by rw [e3]; simp) (by
      rw [e3]
      intro d hd
      rcases List.mem_cons.1 hd with rfl | hd
      · decide
      · exact htd d hd) (by omega) (by rw [e3, valL_zero]; exact htv)

theorem dig_new (K : Nat) : ∃ c : UInt8, isDig c = true ∧ c.toNat = 48 + K % 10 ∧ strOfNums ([(wrap64 (48 + (Int.tmod (K : Int) 10))) % 256] : List Int) = ⟨#[c]⟩ := by
  have h1 : (Int.tmod (K : Int) 10) = ((K % 10 : Nat) : Int) := rfl
  have h2 : (wrap64 (48 + (Int.tmod (K : Int) 10))) % 256 = ((48 + K % 10 : Nat) : Int) := by
    rw [h1]; unfold wrap64; omega
  rw [h2]
  have hlt : 48 + K % 10 < 256 := by omega
  refine ⟨UInt8.ofNat (48 + K % 10), ?_, ?_, ?_⟩
  · unfold isDig
    rw [UInt8.toNat_ofNat', Nat.mod_eq_of_lt hlt]
    simp; omega
  · rw [UInt8.toNat_ofNat', Nat.mod_eq_of_lt hlt]
  · generalize 48 + K % 10 = n
    simp [strOfNums]

theorem loop0 (x1 m : Int) (M r : Nat) (hr : cadencylaw03_rest.f x1 10 = some (r : Int)) (hr9 : r ≤ 9) (hm : m = M) :
    ∀ (n K : Nat) (s : ByteArray), K < 10 ^ n → n + s.size ≤ 19 → (∀ d ∈ s.data.toList, isDig d = true) → valL K s.data.toList = M →
    ∃ k, cadencylaw03_ScanNums.l0 k x1 true m s (K : Int) = some true := by
  have fin : ∀ (s : ByteArray), s.data.toList ≠ [] → (∀ d ∈ s.data.toList, isDig d = true) → s.size ≤ 20 → valL 0 s.data.toList = M →
      cadencylaw03_ScanNums.l0 (r + 1 + 1) x1 true m s 0 = some true := by
    intro s hs0 hsd hsl hsv
    have h := loop1 x1 m M r hr hr9 s hm hs0 hsd hsl hsv r 0 s (by omega) hs0 hsd (by omega) hsv
    rw [show ((0 : Nat) : Int) = 0 from rfl] at h
    conv => lhs; unfold cadencylaw03_ScanNums.l0
    rw [if_neg (by decide), if_neg (by rw [Lib.toList_data]; exact hs0)]
    exact h
  intro n
  induction n with
  | zero =>
    intro K s hK hl hd hv
    obtain rfl : K = 0 := by simpa using hK
    rw [show ((0 : Nat) : Int) = 0 from rfl]
    by_cases hs : s.data.toList = []
    · refine ⟨r + 1 + 1 + 1, ?_⟩
      conv => lhs; unfold cadencylaw03_ScanNums.l0
      rw [if_neg (by decide), if_pos (by rw [Lib.toList_data]; exact hs)]
      obtain ⟨c, hc1, hc2, hc3⟩ := dig_new 0
      rw [show ((0 : Nat) : Int) = 0 from rfl] at hc3
      simp only [Option.bind_some]
      rw [hc3]
      have e1 : ((⟨#[c]⟩ : ByteArray) ++ s).size = 1 + s.size := by rw [ByteArray.size_append]; rfl
      have e3 : ((⟨#[c]⟩ : ByteArray) ++ s).data.toList = c :: s.data.toList := by simp
      rw [if_pos (by rw [show (⟨#[c]⟩ : ByteArray).size = 1 from rfl]; omega), show wrap64 (Int.tdiv 0 10) = 0 from by decide +kernel]
      refine fin _ (by rw [e3]; simp) ?_ (by omega) ?_
      · rw [e3, hs]; simpa using hc1
      · rw [e3, valL_cons, hc2]; exact hv
    · exact ⟨_, fin s hs hd (by omega) hv⟩
  | succ n ih =>
    intro K s hK hl hd hv
    by_cases h0 : K = 0
    · subst h0
      exact ih 0 s (Nat.pos_of_ne_zero (by simp)) (by omega) hd hv
    · obtain ⟨c, hc1, hc2, hc3⟩ := dig_new K
      have e1 : ((⟨#[c]⟩ : ByteArray) ++ s).size = 1 + s.size := by rw [ByteArray.size_append]; rfl
      have e3 : ((⟨#[c]⟩ : ByteArray) ++ s).data.toList = c :: s.data.toList := by simp
      obtain ⟨k, hk⟩ := ih (K / 10) ((⟨#[c]⟩ : ByteArray) ++ s) (by rw [Nat.pow_succ] at hK; omega) (by omega) (by
        rw [e3]
        intro d hd'
        rcases List.mem_cons.1 hd' with rfl | hd'
        · exact hc1
        · exact hd d hd') (by rw [e3, valL_cons, hc2, show K / 10 * 10 + (48 + K % 10 - 48) = K by omega]; exact hv)
      refine ⟨k + 1, ?_⟩
      conv => lhs; unfold cadencylaw03_ScanNums.l0
      have hdiv : Int.tdiv (K : Int) 10 = ((K / 10 : Nat) : Int) := rfl
      have hb : K / 10 < 10 ^ 18 := Nat.lt_of_lt_of_le (show K / 10 < 10 ^ n by rw [Nat.pow_succ] at hK; omega) (Nat.pow_le_pow_right (by decide) (by omega))
      rw [if_pos (by omega)]
      simp only [Option.bind_some]
      rw [hc3, if_pos (by rw [show (⟨#[c]⟩ : ByteArray).size = 1 from rfl]; omega), hdiv, show wrap64 ((K / 10 : Nat) : Int) = ((K / 10 : Nat) : Int) from by unfold wrap64; omega]
      exact hk
end Go.Proofs.Ytehlabphhcdooaa.PureN
namespace Go.Proofs.Ytehlabphhcdooaa.Pure
open Go.RowKit Go.Proofs.Ytehlabphhcdooaa.S4 Go.Proofs.YtehlabphhcdooaaW.PrintWords Go.Proofs.YtehlabphhcdooaaW.PrintLast Go.Proofs.Ytehlabphhcdooaa.Sc
theorem ScanNums : cadencylaw03_ScanNums.Pure := by
  intro a0 a1 h0 h1
  obtain ⟨M, hM, hb⟩ := mask50 a0
  obtain ⟨r, hr9, hr⟩ := PureN.rest_some a1
  unfold cadencylaw03_ScanNums.f
  rw [PureN.awake_some, hb]
  simp only [Option.bind_some]
  exact PureN.loop0 a1 M M r hr hr9 rfl 16 M ⟨#[]⟩ (by omega) (by decide) (by intro d hd; cases hd) rfl
end Go.Proofs.Ytehlabphhcdooaa.Pure
