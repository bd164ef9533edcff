/- The document's Each, printed: what it comes to. Tokens in the print's form. -/
import Derived.Test.YtefdcjmfbjlinaaAx6
namespace Go.Proofs.Ytefdcjmfbjlinaa.A
open Go.RowKit Go.Proofs.YtefdcjmfbjlinaaW.PrintWords Go.Proofs.YtefdcjmfbjlinaaW.PrintLast Go.Proofs.YtefdcjmfbjlinaaW.PrintMore Go.Proofs.Ytefdcjmfbjlinaa.Sc

/-- A token, as the print tells it. -/
def tkS (t : Sc.Tk) : S56 := ⟨t.kind, t.at_, ⟨t.text.toArray⟩, t.num⟩

theorem bt_at {s : ByteArray} {n : Nat} {c : UInt8} (h : s.data.toList[n]? = some c) : bt s (n : Int) = (c.toNat : Int) := by
  have hlt : n < s.size := by
    rcases Nat.lt_or_ge n s.data.toList.length with h' | h'
    · simpa using h'
    · rw [List.getElem?_eq_none h'] at h; cases h
  unfold bt
  rw [dif_pos (by simpa using hlt)]
  have : s.data.toList[n]? = some s[n] := by simp [hlt]; rfl
  rw [h] at this
  cases this
  simp

theorem skip_some (s : ByteArray) (hs : s.size ≤ 1000000) : ∀ (d a : Nat), s.size - a ≤ d → a ≤ s.size →
    (∀ k, d + 3 ≤ k → cadencyref03_Skip.l0 k s (a : Int) = some ((a + skp false (s.data.toList.drop a) : Nat) : Int)) ∧
    (∀ k, d + 2 ≤ k → cadencyref03_Skip.l1 k s (a : Int) = some ((a + skp true (s.data.toList.drop a) : Nat) : Int)) := by
  intro d
  induction d with
  | zero =>
    intro a hd ha
    have hL : s.data.toList.length = s.size := by simp
    have hdr : s.data.toList.drop a = [] := List.drop_eq_nil_of_le (by omega)
    rw [hdr]
    constructor
    · intro k hk
      obtain ⟨k, rfl⟩ : ∃ m, k = m + 1 := ⟨k - 1, by omega⟩
      simp only [cadencyref03_Skip.l0]
      rw [if_neg (by omega)]; rfl
    · intro k hk
      obtain ⟨k, rfl⟩ : ∃ m, k = m + 1 + 1 := ⟨k - 2, by omega⟩
      simp only [cadencyref03_Skip.l1]
      rw [if_neg (by omega)]
      simp only [cadencyref03_Skip.l0]
      rw [if_neg (by omega)]; rfl
  | succ d ih =>
    intro a hd ha
    have hL : s.data.toList.length = s.size := by simp
    by_cases hlt : a < s.size
    · obtain ⟨c, hc⟩ : ∃ c, s.data.toList[a]? = some c := ⟨_, List.getElem?_eq_getElem (by omega)⟩
      have hdr : s.data.toList.drop a = c :: s.data.toList.drop (a + 1) := by
        rw [List.getElem?_eq_getElem (by omega)] at hc
        rw [List.drop_eq_getElem_cons (by omega)]
        simp at hc
        simp [hc]
      have hb := bt_at hc
      obtain ⟨i0, i1⟩ := ih (a + 1) (by omega) (by omega)
      have hw : wrap64 ((a : Int) + 1) = ((a + 1 : Nat) : Int) := by unfold wrap64; omega
      have n1 : ∀ k, d + 1 + 2 ≤ k → cadencyref03_Skip.l1 k s (a : Int) = some ((a + skp true (s.data.toList.drop a) : Nat) : Int) := by
        intro k hk
        obtain ⟨k, rfl⟩ : ∃ m, k = m + 1 + 1 := ⟨k - 2, by omega⟩
        rw [cadencyref03_Skip.l1, if_pos (by omega), if_pos (by omega), hb, hdr]
        by_cases h10 : c.toNat = 10
        · rw [if_pos (by omega), cadencyref03_Skip.l0, if_pos (by omega), if_pos (by omega), hb, if_neg (by omega), if_neg (by omega), if_neg (by omega)]
          simp [skp, h10]
        · rw [if_neg (by omega), hw, i1 _ (by omega)]
          simp only [skp, if_neg h10]
          congr 2; omega
      refine ⟨fun k hk => ?_, n1⟩
      obtain ⟨k, rfl⟩ : ∃ m, k = m + 1 := ⟨k - 1, by omega⟩
      rw [cadencyref03_Skip.l0, if_pos (by omega), if_pos (by omega), hb]
      by_cases h35 : c.toNat = 35
      · rw [if_pos (by omega), n1 _ (by omega), hdr]
        simp only [skp]
        rw [if_neg (by omega : ¬ c.toNat = 10), if_neg (by omega), if_pos h35]
      · rw [if_neg (by omega)]
        by_cases h32 : c.toNat = 32
        · rw [if_pos (by omega), hw, i0 _ (by omega), hdr]
          simp only [skp]
          rw [if_pos (.inl h32)]
          congr 2; omega
        · rw [if_neg (by omega)]
          by_cases h9 : c.toNat = 9
          · rw [if_pos (by omega), hw, i0 _ (by omega), hdr]
            simp only [skp]
            rw [if_pos (.inr h9)]
            congr 2; omega
          · rw [if_neg (by omega), hdr, skp_other h32 h9 h35]; rfl
    · have hdr : s.data.toList.drop a = [] := List.drop_eq_nil_of_le (by omega)
      obtain ⟨i0, i1⟩ := ih a (by omega) (by omega)
      exact ⟨fun k hk => i0 k (by omega), fun k hk => i1 k (by omega)⟩

theorem one_some (s : ByteArray) (hs : s.size ≤ 1000000) (a : Nat) (ha : a < s.size) : cadencyref03_one.f s (a : Int) = some ((((tk0 a (s.data.toList.drop a)).kind : Nat) : Int), (((tk0 a (s.data.toList.drop a)).at_ : Nat) : Int), (⟨(tk0 a (s.data.toList.drop a)).text.toArray⟩ : ByteArray), (((tk0 a (s.data.toList.drop a)).num : Nat) : Int)) := by
  unfold cadencyref03_one.f
  rw [if_pos ⟨hs, by omega, by omega⟩]
  simp

theorem each_some (s : ByteArray) (hs : s.size ≤ 1000000) : ∀ (d a : Nat) (acc : List S56), s.size - a ≤ d → a ≤ s.size → acc.length ≤ a → ∀ k, s.size + d + 5 ≤ k →
    cadencyref03_Each.l0 k s acc (a : Int) = some (acc ++ (rst a (s.data.toList.drop a)).1.map tkS, (((rst a (s.data.toList.drop a)).2 : Nat) : Int)) := by
  intro d
  induction d with
  | zero =>
    intro a acc hd ha hacc k hk
    have hL : s.data.toList.length = s.size := by simp
    obtain ⟨k, rfl⟩ : ∃ m, k = m + 1 := ⟨k - 1, by omega⟩
    have hdr : s.data.toList.drop a = [] := List.drop_eq_nil_of_le (by omega)
    rw [cadencyref03_Each.l0, if_neg (by omega), hdr, rst_nil]
    simp
  | succ d ih =>
    intro a acc hd ha hacc k hk
    have hL : s.data.toList.length = s.size := by simp
    obtain ⟨k, rfl⟩ : ∃ m, k = m + 1 := ⟨k - 1, by omega⟩
    by_cases hlt : a < s.size
    · rw [cadencyref03_Each.l0, if_pos (by omega), one_some s hs a hlt]
      simp only [Option.bind_some]
      cases hl : s.data.toList.drop a with
      | nil => have := congrArg List.length hl; simp at this; omega
      | cons c l =>
        have hlen : (c :: l).length = s.size - a := by rw [← hl]; simp
        by_cases hk0 : knd c = 0
        · have e : (tk0 a (c :: l)).kind = 0 := by unfold tk0; rw [if_pos (by simpa [tkOf] using hk0)]
          rw [e, if_pos (by simp), rst_none _ hk0]
          simp
        · have e : tk0 a (c :: l) = tkOf a (c :: l) := by unfold tk0; rw [if_neg (by simpa [tkOf] using hk0)]
          have ek : (tkOf a (c :: l)).kind ≠ 0 := by simpa [tkOf] using hk0
          have et := tkOf_len a (c :: l)
          have es : (ByteArray.size ⟨(tkOf a (c :: l)).text.toArray⟩) = tln (c :: l) := by rw [← et]; simp [ByteArray.size]
          have hn := nxt_le (c :: l)
          have hp := nxt_pos c l
          have ht := tln_le (c :: l)
          have hnx : nxt (c :: l) = tln (c :: l) + skp false ((c :: l).drop (tln (c :: l))) := rfl
          rw [e, if_neg (by omega), if_pos (by omega), es]
          rw [show wrap64 ((a : Int) + (tln (c :: l) : Int)) = ((a + tln (c :: l) : Nat) : Int) from by unfold wrap64; omega]
          unfold cadencyref03_Skip.f
          rw [(skip_some s hs s.size (a + tln (c :: l)) (by omega) (by omega)).1 k (by omega)]
          simp only [Option.bind_some]
          rw [show a + tln (c :: l) + skp false (s.data.toList.drop (a + tln (c :: l))) = a + nxt (c :: l) from by rw [hnx, ← List.drop_drop, hl]; omega]
          rw [ih (a + nxt (c :: l)) _ (by omega) (by omega) (by simp; omega) k (by omega)]
          rw [rst_some _ hk0, ← List.drop_drop, hl]
          simp [tkS]
    · have hdr : s.data.toList.drop a = [] := List.drop_eq_nil_of_le (by omega)
      rw [cadencyref03_Each.l0, if_neg (by omega), hdr, rst_nil]
      simp

theorem refEach_some (s : ByteArray) (hs : s.size ≤ 1000000) (k : Nat) (hk : 2 * s.size + 10 ≤ k) : cadencyref03_Each.f k s = some ((eachL s.data.toList).1.map tkS, (((eachL s.data.toList).2 : Nat) : Int)) := by
  have h0 : cadencyref03_Skip.l0 k s 0 = some ((skp false s.data.toList : Nat) : Int) := by
    have := (skip_some s hs s.size 0 (by omega) (by omega)).1 k (by omega)
    simpa using this
  unfold cadencyref03_Each.f cadencyref03_Skip.f
  rw [h0]
  simp only [Option.bind_some]
  have hsk := skp_le false s.data.toList
  have hL : s.data.toList.length = s.size := by simp
  rw [each_some s hs s.size _ [] (by omega) (by omega) (by simp) k (by omega), eachL_eq]
  simp

end Go.Proofs.Ytefdcjmfbjlinaa.A
