/- ScanPlaces, the plain part: where the tokens stand. -/
import Derived.Test.YtehlabphhcdooaaS5x2
import Derived.Test.YtehlabphhcdooaaJoinplain
set_option linter.unusedVariables false
set_option linter.unusedSimpArgs false
namespace Go.Proofs.Ytehlabphhcdooaa.PureP
open Go.RowKit Go.Proofs.Ytehlabphhcdooaa.S5 Go.Proofs.YtehlabphhcdooaaW.PrintWords Go.Proofs.YtehlabphhcdooaaW.PrintLast Go.Proofs.Ytehlabphhcdooaa.Sc

theorem awake_some : cadencylaw03_awake.f = some true := by decide +kernel

def sh (s : ByteArray) : ByteArray := if s.size > 100 then s.extract 0 100 else s
theorem sh_size (s : ByteArray) : (sh s).size ≤ 100 := by
  unfold sh
  split
  · simp; omega
  · omega
theorem short_some (s : ByteArray) : cadencylaw03_short.f s = some (sh s) := by
  unfold cadencylaw03_short.f sh
  by_cases h : s.size > 100
  · rw [if_pos (by omega), if_pos (by decide), if_pos (by omega), if_pos h]
  · rw [if_neg (by omega), if_neg h]

theorem bt_at {s : ByteArray} {n : Nat} {c : UInt8} (h : s.data.toList[n]? = some c) : bt s (n : Int) = (c.toNat : Int) := by
  have hlt : n < s.size := by
    rcases Nat.lt_or_ge n s.data.toList.length with h' | h'
    · simpa using h'
    · rw [List.getElem?_eq_none h'] at h; cases h
  unfold bt
  rw [dif_pos (by simpa using hlt)]
  have : s.data.toList[n]? = some s[n] := by simp [hlt]; rfl
  rw [h] at this
  cases this
  simp

theorem skip_some (s : ByteArray) (hs : s.size ≤ 1000000) : ∀ (d a : Nat), s.size - a ≤ d → a ≤ s.size →
    (∀ k, d + 3 ≤ k → cadencyref03_Skip.l0 k s (a : Int) = some ((a + skp false (s.data.toList.drop a) : Nat) : Int)) ∧
    (∀ k, d + 2 ≤ k → cadencyref03_Skip.l1 k s (a : Int) = some ((a + skp true (s.data.toList.drop a) : Nat) : Int)) := by
  intro d
  induction d with
  | zero =>
    intro a hd ha
    have hL : s.data.toList.length = s.size := by simp
    have hdr : s.data.toList.drop a = [] := List.drop_eq_nil_of_le (by omega)
    rw [hdr]
    constructor
    · intro k hk
      obtain ⟨k, rfl⟩ : ∃ m, k = m + 1 := ⟨k - 1, by omega⟩
      simp only [cadencyref03_Skip.l0]
      rw [if_neg (by omega)]; rfl
    · intro k hk
      obtain ⟨k, rfl⟩ : ∃ m, k = m + 1 + 1 := ⟨k - 2, by omega⟩
      simp only [cadencyref03_Skip.l1]
      rw [if_neg (by omega)]
      simp only [cadencyref03_Skip.l0]
      rw [if_neg (by omega)]; rfl
  | succ d ih =>
    intro a hd ha
    have hL : s.data.toList.length = s.size := by simp
    by_cases hlt : a < s.size
    · obtain ⟨c, hc⟩ : ∃ c, s.data.toList[a]? = some c := ⟨_, List.getElem?_eq_getElem (by omega)⟩
      have hdr : s.data.toList.drop a = c :: s.data.toList.drop (a + 1) := by
        rw [List.getElem?_eq_getElem (by omega)] at hc
        rw [List.drop_eq_getElem_cons (by omega)]
        simp at hc
        simp [hc]
      have hb := bt_at hc
      obtain ⟨i0, i1⟩ := ih (a + 1) (by omega) (by omega)
      have hw : wrap64 ((a : Int) + 1) = ((a + 1 : Nat) : Int) := by unfold wrap64; omega
      have n1 : ∀ k, d + 1 + 2 ≤ k → cadencyref03_Skip.l1 k s (a : Int) = some ((a + skp true (s.data.toList.drop a) : Nat) : Int) := by
        intro k hk
        obtain ⟨k, rfl⟩ : ∃ m, k = m + 1 + 1 := ⟨k - 2, by omega⟩
        rw [cadencyref03_Skip.l1, if_pos (by omega), if_pos (by omega), hb, hdr]
        by_cases h10 : c.toNat = 10
        · rw [if_pos (by omega), cadencyref03_Skip.l0, if_pos (by omega), if_pos (by omega), hb, if_neg (by omega), if_neg (by omega), if_neg (by omega)]
          simp [skp, h10]
        · rw [if_neg (by omega), hw, i1 _ (by omega)]
          simp only [skp, if_neg h10]
          congr 2; omega
      refine ⟨fun k hk => ?_, n1⟩
      obtain ⟨k, rfl⟩ : ∃ m, k = m + 1 := ⟨k - 1, by omega⟩
      rw [cadencyref03_Skip.l0, if_pos (by omega), if_pos (by omega), hb]
      by_cases h35 : c.toNat = 35
      · rw [if_pos (by omega), n1 _ (by omega), hdr]
        simp only [skp]
        rw [if_neg (by omega : ¬ c.toNat = 10), if_neg (by omega), if_pos h35]
      · rw [if_neg (by omega)]
        by_cases h32 : c.toNat = 32
        · rw [if_pos (by omega), hw, i0 _ (by omega), hdr]
          simp only [skp]
          rw [if_pos (.inl h32)]
          congr 2; omega
        · rw [if_neg (by omega)]
          by_cases h9 : c.toNat = 9
          · rw [if_pos (by omega), hw, i0 _ (by omega), hdr]
            simp only [skp]
            rw [if_pos (.inr h9)]
            congr 2; omega
          · rw [if_neg (by omega), hdr, skp_other h32 h9 h35]; rfl
    · have hdr : s.data.toList.drop a = [] := List.drop_eq_nil_of_le (by omega)
      obtain ⟨i0, i1⟩ := ih a (by omega) (by omega)
      exact ⟨fun k hk => i0 k (by omega), fun k hk => i1 k (by omega)⟩


theorem hmk (l : List UInt8) : (⟨l.toArray⟩ : ByteArray).toList = l := by rw [Lib.toList_data]
theorem word_whole {t : Tk} (h : Whole t) : wordL t.text = (t.kind == 1) := by
  obtain ⟨c, m, ht, hk, hkind, htl, hnum⟩ := h
  rw [ht, hkind]
  by_cases hl : isLet c = true
  · rw [tln_let hl] at htl
    rw [knd_let hl]
    simp [wordL, hl]
    simpa using htl
  · have hl' : isLet c = false := by simpa using hl
    have hk1 : knd c ≠ 1 := by
      unfold knd
      rw [if_neg hl]
      repeat' split
      all_goals omega
    have hb : (knd c == 1) = false := by simpa using hk1
    simp [wordL, hl', hb]
theorem kind_le (c : UInt8) : knd c ≤ 4 := by
  unfold knd
  repeat' split
  all_goals omega

set_option maxHeartbeats 1600000 in
theorem loop0 (s : ByteArray) (hs : s.size ≤ 1000000) (l : List Tk) (hl : l.length ≤ 1000000) :
    ∀ (r : List Tk) (i d : Nat), l.drop i = r → i ≤ l.length → d ≤ s.size → r = (rst (d + skp false (s.data.toList.drop d)) (s.data.toList.drop (d + skp false (s.data.toList.drop d)))).1 →
    ∀ k, r.length + s.size + 4 ≤ k → cadencylaw03_ScanPlaces.l0 k s true (l.map tkS) true (d : Int) (i : Int) = some true := by
  intro r
  induction r with
  | nil =>
    intro i d hd hi hds hr k hk
    obtain ⟨k, rfl⟩ : ∃ m, k = m + 1 := ⟨k - 1, by omega⟩
    have : i = l.length := by
      have := congrArg List.length hd
      simp at this
      omega
    conv => lhs; unfold cadencylaw03_ScanPlaces.l0
    rw [if_neg (by simp; omega), if_pos rfl]
  | cons t r ih =>
    intro i d hd hi hds hr k hk
    simp only [List.length_cons] at hk
    obtain ⟨k, rfl⟩ : ∃ m, k = m + 1 := ⟨k - 1, by omega⟩
    have hL : s.data.toList.length = s.size := by simp
    have hlen : l.length = i + (r.length + 1) := by
      have := congrArg List.length hd
      simp at this
      omega
    have hti : l[i]? = some t := by
      have : (l.drop i)[0]? = some t := by rw [hd]; rfl
      simpa using this
    have hrd : rd_T28 (l.map tkS) (i : Int) = tkS t := by
      unfold rd_T28
      rw [List.getD_eq_getElem?_getD, Int.toNat_natCast, List.getElem?_map, hti]
      rfl
    have hd2 : l.drop (i + 1) = r := by rw [← List.drop_drop, hd]; rfl
    have hskip := (skip_some s hs s.size d (by omega) hds).1 k (by omega)
    have hsle := skp_le false (s.data.toList.drop d)
    rw [List.length_drop, hL] at hsle
    generalize ha : d + skp false (s.data.toList.drop d) = a at hr hskip
    cases hl2 : s.data.toList.drop a with
    | nil => rw [hl2, rst_nil] at hr; cases hr
    | cons c m =>
      by_cases hk0 : knd c = 0
      · rw [hl2, rst_none _ hk0] at hr; cases hr
      · rw [hl2, rst_some _ hk0] at hr
        obtain ⟨h1, h2⟩ := List.cons.inj hr
        have hw := whole_tkOf a c m hk0
        have hww := word_whole hw
        have htk := tkOf_len a (c :: m)
        have hat : (tkOf a (c :: m)).at_ = a := by rw [tkOf_at]
        have hkd : (tkOf a (c :: m)).kind = knd c := rfl
        have hnum : (tkOf a (c :: m)).num ≤ 1099511627776 := by
          simp only [tkOf]
          split
          · exact nm_le _
          · omega
        have hnum0 : knd c ≠ 2 → (tkOf a (c :: m)).num = 0 := by
          intro h
          simp only [tkOf]
          rw [if_neg h]
        have htx : (tkOf a (c :: m)).text = (s.data.toList.drop a).take (tln (c :: m)) := by rw [hl2]; rfl
        have htp := tln_pos c m
        have htl := tln_le (c :: m)
        have hcm : (c :: m).length = s.size - a := by rw [← hl2]; simp
        have hx : a + nxt (c :: m) = (a + tln (c :: m)) + skp false (s.data.toList.drop (a + tln (c :: m))) := by
          unfold nxt; rw [← List.drop_drop, hl2]; omega
        have hdr : (c :: m).drop (nxt (c :: m)) = s.data.toList.drop (a + nxt (c :: m)) := by rw [← List.drop_drop, hl2]
        rw [hdr, hx] at h2
        have hpos : 0 < (c :: m).length := by simp
        rw [← h1] at hww htk hat hkd hnum hnum0 htx
        have hih := ih (i + 1) (a + tln (c :: m)) hd2 (by omega) (by omega) h2 k (by omega)
        have g0 : (tkS t).f0 = (t.kind : Int) := rfl
        have g1 : (tkS t).f1 = (a : Int) := by rw [← hat]; rfl
        have g2 : (tkS t).f2.toList = t.text := hmk _
        have g2d : (tkS t).f2.data.toList = t.text := by simp [tkS]
        have g2s : (tkS t).f2.size = tln (c :: m) := by rw [← htk]; simp [tkS, ByteArray.size]
        have g3 : (tkS t).f3 = (t.num : Int) := rfl
        have hkle := kind_le c
        have hex : (s.extract a (a + tln (c :: m))).toList = t.text := by
          rw [Lib.toList_data, htx]
          simp [List.take_drop]
        have hword : scan_Word.f (tkS t).f2 = some (wordL t.text) := by
          have h5 : (tkS t).f2.size ≤ 140737488351232 := by rw [g2s]; omega
          unfold scan_Word.f
          rw [if_pos h5, g2d]
        have hneq : (wordL t.text != ((t.kind : Int) == 1)) = false := by
          rw [hww]
          by_cases h : t.kind = 1
          · simp [h]
          · have h' : ¬ (t.kind : Int) = 1 := by omega
            have e1 : ((t.kind : Int) == 1) = false := beq_eq_false_iff_ne.2 h'
            have e2 : (t.kind == 1) = false := beq_eq_false_iff_ne.2 h
            rw [e1, e2]; rfl
        have hsum : wrap64 ((a : Int) + (tln (c :: m) : Int)) = ((a + tln (c :: m) : Nat) : Int) := by clear g0 g1 g2s g3; unfold wrap64; omega
        have hw1 : wrap64 ((i : Int) + 1) = ((i + 1 : Nat) : Int) := by clear hsum g0 g1 g2s g3; unfold wrap64; omega
        conv => lhs; unfold cadencylaw03_ScanPlaces.l0
        rw [hrd, g0, g1, g2, g2s, g3, hsum, hword, hw1]
        clear hsum hw1 g0 g1 g2 g2d g2s g3 hword
        simp only [Option.bind_some, Int.toNat_natCast]
        rw [hneq, hex]
        clear hneq hex
        rw [if_pos (by simp; omega), if_pos (by omega), if_neg (by omega)]
        rw [if_neg (by intro h; rw [h] at htk; simp at htk; omega)]
        rw [if_neg (by omega), if_pos (by omega), if_pos (by omega), if_pos (by omega), if_pos rfl]
        unfold cadencyref03_Skip.f
        rw [hskip]
        simp only [Option.bind_some]
        rw [if_pos trivial, if_neg (by omega), if_neg (by omega), if_neg (by omega), if_neg (by omega)]
        by_cases h : t.kind = 2
        · rw [if_pos (by omega), if_neg (by simp)]; exact hih
        · rw [if_neg (by omega), if_pos (by rw [hnum0 (by omega)]; rfl), if_neg (by simp)]; exact hih
end Go.Proofs.Ytehlabphhcdooaa.PureP
namespace Go.Proofs.Ytehlabphhcdooaa.Pure
open Go.RowKit Go.Proofs.Ytehlabphhcdooaa.S5 Go.Proofs.YtehlabphhcdooaaW.PrintWords Go.Proofs.YtehlabphhcdooaaW.PrintLast Go.Proofs.Ytehlabphhcdooaa.Sc
theorem ScanPlaces : cadencylaw03_ScanPlaces.Pure := by
  intro a0 h0
  have hs := PureP.sh_size a0
  unfold cadencylaw03_ScanPlaces.f
  rw [PureP.awake_some, PureP.short_some]
  simp only [Option.bind_some]
  generalize PureP.sh a0 = s at hs
  have hL : s.data.toList.length = s.size := by simp
  rw [show cadencylaw03_each.f s = some ((eachL s.data.toList).1.map tkS, true) from by unfold cadencylaw03_each.f; rw [if_pos (by omega)]]
  simp only [Option.bind_some]
  have hc := eachL_len s.data.toList
  refine ⟨_, PureP.loop0 s (by omega) (eachL s.data.toList).1 (by omega) (eachL s.data.toList).1 0 0 rfl (by omega) (by omega) ?_ _ (Nat.le_refl _)⟩
  rw [List.drop_zero, Nat.zero_add, ← eachL_eq]
end Go.Proofs.Ytehlabphhcdooaa.Pure
