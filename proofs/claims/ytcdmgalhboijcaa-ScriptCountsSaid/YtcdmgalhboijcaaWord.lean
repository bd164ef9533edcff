/- scan's Word tells whether a text is a word. -/
import Derived.Test.YtcdmgalhboijcaaProg
import Derived.WalkKit
import Derived.WalkLawsBesides
import Derived.WalkSpells
import Derived.Shelf.Abstract
import Derived.Lib.Hide
import Derived.Laws.BitsLemmas
import Derived.Lib.ConvBytes
import Derived.Lib.IndexBytes
import Derived.StillTactics
import Derived.StillTailTactics
namespace Go.Proofs.Ytcdmgalhboijcaa.Sc
open Go.RowKit Go.Shelf

def intOf : Value → Int | .int _ q => q | _ => 0

def isLet (c : UInt8) : Bool := (97 ≤ (c ||| 32).toNat && (c ||| 32).toNat ≤ 122) || c.toNat == 95
def isDig (c : UInt8) : Bool := 48 ≤ c.toNat && c.toNat ≤ 57
def isGo (c : UInt8) : Bool := c.toNat == 46 || c.toNat == 45 || isLet c || isDig c
/-- How many bytes at the beginning are such ones. -/
def spn (p : UInt8 → Bool) (l : List UInt8) : Nat := (l.takeWhile p).length
def wordL (l : List UInt8) : Bool := match l with | [] => false | c :: l => isLet c && spn isGo (c :: l) == (c :: l).length

theorem spn_le (p : UInt8 → Bool) (l : List UInt8) : spn p l ≤ l.length := by
  unfold spn
  induction l with
  | nil => simp
  | cons c l ih => simp only [List.takeWhile_cons]; split <;> simp <;> omega
theorem spn_cons (p : UInt8 → Bool) (c : UInt8) (l : List UInt8) : spn p (c :: l) = if p c then spn p l + 1 else 0 := by
  unfold spn
  simp only [List.takeWhile_cons]; split <;> simp
theorem spn_nil (p : UInt8 → Bool) : spn p [] = 0 := rfl
/-- One more byte is such a one. -/
theorem spn_yes {p : UInt8 → Bool} {l : List UInt8} {n : Nat} {c : UInt8} (h : n + spn p (l.drop n) = spn p l) (hn : l[n]? = some c) (hp : p c = true) : n + 1 + spn p (l.drop (n + 1)) = spn p l := by
  have hlt : n < l.length := by
    rcases Nat.lt_or_ge n l.length with h' | h'
    · exact h'
    · rw [List.getElem?_eq_none h'] at hn; cases hn
  rw [List.getElem?_eq_getElem hlt] at hn
  cases hn
  rw [List.drop_eq_getElem_cons hlt, spn_cons, if_pos hp] at h
  omega
theorem spn_no {p : UInt8 → Bool} {l : List UInt8} {n : Nat} {c : UInt8} (h : n + spn p (l.drop n) = spn p l) (hn : l[n]? = some c) (hp : p c = false) : spn p l = n := by
  have hlt : n < l.length := by
    rcases Nat.lt_or_ge n l.length with h' | h'
    · exact h'
    · rw [List.getElem?_eq_none h'] at hn; cases hn
  rw [List.getElem?_eq_getElem hlt] at hn
  cases hn
  rw [List.drop_eq_getElem_cons hlt, spn_cons, hp] at h
  simpa using h.symm
theorem spn_end {p : UInt8 → Bool} {l : List UInt8} {n : Nat} (h : n + spn p (l.drop n) = spn p l) (hn : l.length ≤ n) : spn p l = n := by
  rw [List.drop_eq_nil_of_le hn, spn_nil] at h; omega
theorem bits_or32 (c : UInt8) : Go.bits .or .u8 (c.toNat : Int) 32 = (((c ||| 32).toNat : Nat) : Int) := by
  have h : ∀ n : Fin 256, Go.bits .or .u8 ((UInt8.ofNat n.val).toNat : Int) 32 = (((UInt8.ofNat n.val ||| 32).toNat : Nat) : Int) := by decide +kernel
  have := h ⟨c.toNat, c.toNat_lt⟩
  simpa using this
theorem isLet_int (c : UInt8) : isLet c = ((decide (97 ≤ Go.bits .or .u8 (c.toNat : Int) 32) && decide (Go.bits .or .u8 (c.toNat : Int) 32 ≤ 122)) || ((c.toNat : Int) == 95)) := by
  rw [bits_or32]
  unfold isLet
  rw [Bool.eq_iff_iff]
  simp
  omega
theorem isDig_int (c : UInt8) : isDig c = (decide (48 ≤ (c.toNat : Int)) && decide ((c.toNat : Int) ≤ 57)) := by
  unfold isDig
  rw [Bool.eq_iff_iff]
  simp
  omega
theorem letter_any (c : UInt8) (w : World) : Calls Try.prog 50 #[.int .u8 (c.toNat : Int)] w fun e w' => e = .returned (.bool (isLet c)) ∧ w = w' := by
  go_enter Try.func50, Try.ntmps50
  go_wp2
  all_goals
    go_ret
    exact ⟨by rw [isLet_int]; (first | (simp [*]; done) | (simp [*]; omega)), rfl⟩

theorem digit_any (c : UInt8) (w : World) : Calls Try.prog 55 #[.int .u8 (c.toNat : Int)] w fun e w' => e = .returned (.bool (isDig c)) ∧ w = w' := by
  go_enter Try.func55, Try.ntmps55
  go_wp2
  all_goals
    go_ret
    exact ⟨by rw [isDig_int]; (first | (simp [*]; done) | (simp [*]; omega)), rfl⟩

theorem goes_any (c : UInt8) (w : World) : Calls Try.prog 52 #[.int .u8 (c.toNat : Int)] w fun e w' => e = .returned (.bool (isGo c)) ∧ w = w' := by
  by_cases h1 : c.toNat = 46
  · have t1 : ((c.toNat : Int) == 46) = true := by rw [beq_iff_eq]; omega
    have hg : isGo c = true := by unfold isGo; simp [h1]
    have HG := Lib.hid hg
    clear hg h1
    go_enter Try.func52, Try.ntmps52
    go_wp2
    go_ret
    exact ⟨by rw [HG.out]; simp, rfl⟩
  · have t1 : ((c.toNat : Int) == 46) = false := by rw [beq_eq_false_iff_ne]; omega
    by_cases h2 : c.toNat = 45
    · have t2 : ((c.toNat : Int) == 45) = true := by rw [beq_iff_eq]; omega
      have hg : isGo c = true := by unfold isGo; simp [h2]
      have HG := Lib.hid hg
      clear hg h1 h2
      go_enter Try.func52, Try.ntmps52
      go_wp2
      go_ret
      exact ⟨by rw [HG.out]; simp, rfl⟩
    · have t2 : ((c.toNat : Int) == 45) = false := by rw [beq_eq_false_iff_ne]; omega
      have hg : isGo c = (isLet c || isDig c) := by unfold isGo; rw [show (c.toNat == 46) = false from by rw [beq_eq_false_iff_ne]; exact h1, show (c.toNat == 45) = false from by rw [beq_eq_false_iff_ne]; exact h2]; rfl
      have HG := Lib.hid hg
      clear hg h1 h2
      cases hl : isLet c
      · go_enter Try.func52, Try.ntmps52
        go_wp2_with fail
        refine (letter_any c _).mono ?_
        rintro e w' ⟨rfl, rfl⟩
        rw [hl]
        go_wp2_with fail
        refine (digit_any c _).mono ?_
        rintro e w' ⟨rfl, rfl⟩
        go_wp2
        go_ret
        exact ⟨by rw [HG.out, hl]; simp, rfl⟩
      · go_enter Try.func52, Try.ntmps52
        go_wp2_with fail
        refine (letter_any c _).mono ?_
        rintro e w' ⟨rfl, rfl⟩
        rw [hl]
        go_wp2
        go_ret
        exact ⟨by rw [HG.out, hl]; simp, rfl⟩

/-- long, of whatever the bytes are asked. -/
theorem long_any (g : Nat) (p : UInt8 → Bool) (eg : ∀ args w, (callFunc g args).run Try.prog w = .ok (.enter g args) w) (hp : ∀ (c : UInt8) (w : World), Calls Try.prog g #[.int .u8 (c.toNat : Int)] w fun e w' => e = .returned (.bool (p c)) ∧ w = w') (s : ByteArray) (hs : s.size ≤ maxLen) (w : World) :
    Calls Try.prog 51 #[.string s, .func (.func g) #[] #[]] w fun e w' => e = .returned (.int .i64 (spn p s.data.toList)) ∧ w = w' := by
  have HP := Lib.hid hp
  unfold maxLen at hs
  clear hp
  go_enter Try.func51, Try.ntmps51
  go_wp2_with fail
  go_step3
  go_wp2_with fail
  go_step3
  go_wp2_with fail
  go_loop [5] (fun n => ∃ k : Nat, k ≤ s.size ∧ n = .int .i64 k ∧ k + spn p (s.data.toList.drop k) = spn p s.data.toList) (fun n => s.size - (intOf n).toNat)
  case atStart => exact ⟨0, Nat.zero_le _, rfl, by simp⟩
  case round =>
    obtain ⟨k, hk, rfl, hr⟩ := hrel
    have HR := Lib.hid hr
    clear hr
    by_cases hlt : k < s.size
    · have hb : s.data.toList[k]? = some s[k] := by simp [hlt]; rfl
      have HB := Lib.hid hb
      clear hb
      go_wp2_with fail
      refine (HP.out s[k] _).mono ?_
      rintro e w' ⟨rfl, rfl⟩
      cases hp : p s[k]
      · have hv := spn_no HR.out HB.out hp
        have HV := Lib.hid hv
        clear hv hp
        go_wp2
        simp only [Exit.noGoto]
        go_ret
        exact ⟨by rw [HV.out]; simp, rfl⟩
      · have hv := spn_yes HR.out HB.out hp
        have HV := Lib.hid hv
        clear hv hp
        go_wp2
        go_round
        case rel => exact ⟨k + 1, by omega, by go_num, HV.out⟩
        case measure => simp [intOf]; omega
    · have hv := spn_end HR.out (by simp; omega)
      have HV := Lib.hid hv
      clear hv
      go_wp2
      go_ret
      exact ⟨by rw [HV.out]; simp, rfl⟩

theorem word_any (s : ByteArray) (hs : s.size ≤ maxLen) (w : World) :
    Calls Try.prog 46 #[.string s] w fun e w' => e = .returned (.bool (wordL s.data.toList)) ∧ w = w' := by
  have hm : s.size ≤ maxLen := hs
  have HM := Lib.hid hm
  clear hm
  cases hl : s.data.toList with
  | nil =>
    have h0 : s.toList = [] := by rw [Lib.toList_data]; exact hl
    have h1 : (!s.toList.isEmpty) = false := by rw [h0]; rfl
    have h2 : (s.toList != []) = false := by rw [h0]; rfl
    clear h0
    go_enter Try.func46, Try.ntmps46
    go_wp2
    go_ret
    exact ⟨rfl, rfl⟩
  | cons c l =>
    have hpos : 0 < s.size := by
      have : s.data.toList.length = s.size := by simp
      rw [hl] at this
      simp at this
      omega
    have h0 : s[0] = c := by
      have : s.data.toList[0]? = some s[0] := by simp [hpos]; rfl
      rw [hl] at this
      simpa using this.symm
    have hne : s.toList.isEmpty = false := by rw [Lib.toList_data, hl]; rfl
    have hne2 : (s.toList != []) = true := by rw [Lib.toList_data, hl]; rfl
    have H0 := Lib.hid h0
    have HL := Lib.hid hl
    clear h0 hl
    have t0 : ((0 : Nat) : Int) < (s.size : Int) := by omega
    go_enter Try.func46, Try.ntmps46
    go_wp2_with fail
    refine (letter_any s[0] _).mono ?_
    rintro e w' ⟨rfl, rfl⟩
    rw [H0.out]
    cases h1 : isLet c
    · have hv : wordL (c :: l) = false := by simp [wordL, h1]
      have HV := Lib.hid hv
      clear hv h1
      go_wp2
      go_ret
      exact ⟨by rw [HV.out]; simp, rfl⟩
    · have HV : Hid (wordL (c :: l) = decide (spn isGo s.data.toList = s.size)) := Lib.hid (by
        have : s.size = (c :: l).length := by rw [← HL.out]; simp
        rw [HL.out, this, Bool.eq_iff_iff]
        simp [wordL, h1])
      clear h1
      go_wp2_with fail
      refine (long_any 52 isGo (enters_of Try.func52 (by kernel_rfl) rfl) goes_any s HM.out _).mono ?_
      rintro e w' ⟨rfl, rfl⟩
      generalize spn isGo s.data.toList = n at HV ⊢
      by_cases hn : n = s.size
      · have t1 : (n == s.size) = true := by rw [beq_iff_eq]; exact hn
        have t2 : ((n : Int) == (s.size : Int)) = true := by rw [beq_iff_eq]; omega
        have HN := Lib.hid hn
        clear hn
        go_wp2
        go_ret
        exact ⟨by rw [HV.out, decide_eq_true HN.out]; simp [t1, t2], rfl⟩
      · have t1 : (n == s.size) = false := by rw [beq_eq_false_iff_ne]; exact hn
        have t2 : ((n : Int) == (s.size : Int)) = false := by rw [beq_eq_false_iff_ne]; omega
        have HN := Lib.hid hn
        clear hn
        go_wp2
        go_ret
        exact ⟨by rw [HV.out, decide_eq_false HN.out]; simp [t1, t2], rfl⟩
end Go.Proofs.Ytcdmgalhboijcaa.Sc
