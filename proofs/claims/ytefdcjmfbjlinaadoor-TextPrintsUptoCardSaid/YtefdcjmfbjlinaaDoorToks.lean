/- Tokens of a text, as plain lists: no program. -/
import Derived.Lib.Hide
namespace Go.Proofs.YtefdcjmfbjlinaaDoor.Sc

def isLet (c : UInt8) : Bool := (97 ≤ (c ||| 32).toNat && (c ||| 32).toNat ≤ 122) || c.toNat == 95
def isDig (c : UInt8) : Bool := 48 ≤ c.toNat && c.toNat ≤ 57
def isGo (c : UInt8) : Bool := c.toNat == 46 || c.toNat == 45 || isLet c || isDig c
def notFeed (c : UInt8) : Bool := c.toNat != 10
/-- How many bytes at the beginning are such ones. -/
def spn (p : UInt8 → Bool) (l : List UInt8) : Nat := (l.takeWhile p).length
/-- How many bytes are left out; true: within a note. -/
def skp : Bool → List UInt8 → Nat
  | _, [] => 0
  | false, c :: l => if c.toNat = 32 ∨ c.toNat = 9 then skp false l + 1 else if c.toNat = 35 then skp true l + 1 else 0
  | true, c :: l => if c.toNat = 10 then 0 else skp true l + 1
structure Tk where
  kind : Nat
  at_ : Nat
  text : List UInt8
  num : Nat
deriving DecidableEq
def knd (c : UInt8) : Nat := if isLet c then 1 else if isDig c then 2 else if c.toNat = 61 then 3 else if c.toNat = 10 then 4 else 0
/-- How long the token is with which a text begins that isn't empty. -/
def tln : List UInt8 → Nat
  | [] => 0
  | c :: l => if isLet c then spn isGo (c :: l) else if isDig c then spn isDig (c :: l) else 1
def nmStep (n : Nat) (c : UInt8) : Nat := min (n * 10 + (c.toNat - 48)) 1099511627776
def nm (l : List UInt8) : Nat := l.foldl nmStep 0
def tkOf (at_ : Nat) : List UInt8 → Tk
  | [] => ⟨0, at_, [], 0⟩
  | c :: l => ⟨knd c, at_, (c :: l).take (tln (c :: l)), if knd c = 2 then nm ((c :: l).take (tln (c :: l))) else 0⟩
/-- The tokens from a place on (where nothing is left out), and where they end. -/
def toks : Nat → Nat → List UInt8 → List Tk × Nat
  | 0, at_, _ => ([], at_)
  | _ + 1, at_, [] => ([], at_)
  | f + 1, at_, c :: l => if knd c = 0 then ([], at_) else
      (tkOf at_ (c :: l) :: (toks f (at_ + tln (c :: l) + skp false ((c :: l).drop (tln (c :: l)))) (((c :: l).drop (tln (c :: l))).drop (skp false ((c :: l).drop (tln (c :: l)))))).1,
       (toks f (at_ + tln (c :: l) + skp false ((c :: l).drop (tln (c :: l)))) (((c :: l).drop (tln (c :: l))).drop (skp false ((c :: l).drop (tln (c :: l)))))).2)
def eachL (l : List UInt8) : List Tk × Nat := toks l.length (skp false l) (l.drop (skp false l))
def wordL (l : List UInt8) : Bool := match l with | [] => false | c :: l => isLet c && spn isGo (c :: l) == (c :: l).length

theorem spn_le (p : UInt8 → Bool) (l : List UInt8) : spn p l ≤ l.length := by
  unfold spn
  induction l with
  | nil => simp
  | cons c l ih => simp only [List.takeWhile_cons]; split <;> simp <;> omega
theorem spn_cons (p : UInt8 → Bool) (c : UInt8) (l : List UInt8) : spn p (c :: l) = if p c then spn p l + 1 else 0 := by
  unfold spn
  simp only [List.takeWhile_cons]; split <;> simp
theorem spn_nil (p : UInt8 → Bool) : spn p [] = 0 := rfl
/-- One more byte is such a one. -/
theorem spn_yes {p : UInt8 → Bool} {l : List UInt8} {n : Nat} {c : UInt8} (h : n + spn p (l.drop n) = spn p l) (hn : l[n]? = some c) (hp : p c = true) : n + 1 + spn p (l.drop (n + 1)) = spn p l := by
  have hlt : n < l.length := by
    rcases Nat.lt_or_ge n l.length with h' | h'
    · exact h'
    · rw [List.getElem?_eq_none h'] at hn; cases hn
  rw [List.getElem?_eq_getElem hlt] at hn
  cases hn
  rw [List.drop_eq_getElem_cons hlt, spn_cons, if_pos hp] at h
  omega
theorem spn_no {p : UInt8 → Bool} {l : List UInt8} {n : Nat} {c : UInt8} (h : n + spn p (l.drop n) = spn p l) (hn : l[n]? = some c) (hp : p c = false) : spn p l = n := by
  have hlt : n < l.length := by
    rcases Nat.lt_or_ge n l.length with h' | h'
    · exact h'
    · rw [List.getElem?_eq_none h'] at hn; cases hn
  rw [List.getElem?_eq_getElem hlt] at hn
  cases hn
  rw [List.drop_eq_getElem_cons hlt, spn_cons, hp] at h
  simpa using h.symm
theorem spn_end {p : UInt8 → Bool} {l : List UInt8} {n : Nat} (h : n + spn p (l.drop n) = spn p l) (hn : l.length ≤ n) : spn p l = n := by
  rw [List.drop_eq_nil_of_le hn, spn_nil] at h; omega
theorem skp_le : ∀ (b : Bool) (l : List UInt8), skp b l ≤ l.length
  | _, [] => by simp [skp]
  | false, c :: l => by
    have h1 := skp_le false l
    have h2 := skp_le true l
    simp only [skp, List.length_cons]
    split
    · omega
    · split <;> omega
  | true, c :: l => by
    have h2 := skp_le true l
    simp only [skp, List.length_cons]
    split <;> omega
theorem skp_note (l : List UInt8) : skp true l = spn notFeed l + skp false (l.drop (spn notFeed l)) := by
  induction l with
  | nil => rfl
  | cons c l ih =>
    rw [spn_cons]
    unfold notFeed
    by_cases h : c.toNat = 10
    · simp [skp, h]
    · have h2 : (c.toNat != 10) = true := by simpa using h
      simp only [skp, if_neg h]
      rw [if_pos h2, ih]
      show _ = spn notFeed l + 1 + skp false ((c :: l).drop (spn notFeed l + 1))
      rw [List.drop_succ_cons]
      omega
theorem skp_blank {c : UInt8} {l : List UInt8} (h : c.toNat = 32 ∨ c.toNat = 9) : skp false (c :: l) = skp false l + 1 := by
  simp only [skp, if_pos h]
theorem skp_hash {c : UInt8} {l : List UInt8} (h : c.toNat = 35) : skp false (c :: l) = spn notFeed (c :: l) + skp false ((c :: l).drop (spn notFeed (c :: l))) := by
  rw [← skp_note]
  simp only [skp]
  rw [if_neg (by omega), if_pos h, if_neg (by omega)]
theorem skp_other {c : UInt8} {l : List UInt8} (h1 : c.toNat ≠ 32) (h2 : c.toNat ≠ 9) (h3 : c.toNat ≠ 35) : skp false (c :: l) = 0 := by
  simp only [skp]
  rw [if_neg (by omega), if_neg h3]
theorem let_go {c : UInt8} (h : isLet c = true) : isGo c = true := by unfold isGo; simp [h]
theorem tln_pos (c : UInt8) (l : List UInt8) : 1 ≤ tln (c :: l) := by
  simp only [tln]
  split
  · rw [spn_cons, if_pos (let_go ‹_›)]; omega
  · split
    · rw [spn_cons, if_pos ‹_›]; omega
    · omega
theorem tln_le (l : List UInt8) : tln l ≤ l.length := by
  cases l with
  | nil => simp [tln]
  | cons c l =>
    simp only [tln]
    split
    · exact spn_le _ _
    · split
      · exact spn_le _ _
      · simp
theorem nmStep_le (n : Nat) (c : UInt8) : nmStep n c ≤ 1099511627776 := by unfold nmStep; omega
theorem nm_le (l : List UInt8) : nm l ≤ 1099511627776 := by
  unfold nm
  have : ∀ (l : List UInt8) (n : Nat), n ≤ 1099511627776 → l.foldl nmStep n ≤ 1099511627776 := by
    intro l
    induction l with
    | nil => intro n h; exact h
    | cons c l ih => intro n _; exact ih _ (nmStep_le n c)
  exact this l 0 (by omega)
/-- More rounds tell the same. -/
theorem toks_more : ∀ (f g at_ : Nat) (l : List UInt8), l.length ≤ f → l.length ≤ g → toks f at_ l = toks g at_ l
  | 0, g, at_, [], _, _ => by cases g <;> rfl
  | f + 1, 0, at_, [], _, _ => rfl
  | f + 1, g + 1, at_, [], _, _ => rfl
  | 0, g, at_, c :: l, h, _ => by simp at h
  | f + 1, 0, at_, c :: l, _, h => by simp at h
  | f + 1, g + 1, at_, c :: l, h1, h2 => by
    simp only [toks]
    split
    · rfl
    · have hp := tln_pos c l
      simp only [List.length_cons] at h1 h2
      rw [toks_more f g _ _ (by simp; omega) (by simp; omega)]
/-- The tokens from a place on, where nothing is left out. -/
def rst (at_ : Nat) (l : List UInt8) : List Tk × Nat := toks l.length at_ l
theorem rst_nil (at_ : Nat) : rst at_ [] = ([], at_) := rfl
theorem rst_none (at_ : Nat) {c : UInt8} {l : List UInt8} (h : knd c = 0) : rst at_ (c :: l) = ([], at_) := by
  unfold rst; simp only [List.length_cons, toks, if_pos h]
/-- What stands behind a token. -/
def nxt (l : List UInt8) : Nat := tln l + skp false (l.drop (tln l))
theorem nxt_pos (c : UInt8) (l : List UInt8) : 1 ≤ nxt (c :: l) := by unfold nxt; have := tln_pos c l; omega
theorem nxt_le (l : List UInt8) : nxt l ≤ l.length := by
  unfold nxt
  have h1 := tln_le l
  have h2 := skp_le false (l.drop (tln l))
  simp at h2
  omega
theorem rst_some (at_ : Nat) {c : UInt8} {l : List UInt8} (h : knd c ≠ 0) : rst at_ (c :: l) = (tkOf at_ (c :: l) :: (rst (at_ + nxt (c :: l)) ((c :: l).drop (nxt (c :: l)))).1, (rst (at_ + nxt (c :: l)) ((c :: l).drop (nxt (c :: l)))).2) := by
  have hp := tln_pos c l
  have hx := nxt_pos c l
  conv => lhs; unfold rst
  simp only [List.length_cons, toks, if_neg h, List.drop_drop]
  unfold rst
  rw [show at_ + tln (c :: l) + skp false ((c :: l).drop (tln (c :: l))) = at_ + nxt (c :: l) by unfold nxt; omega]
  rw [show tln (c :: l) + skp false ((c :: l).drop (tln (c :: l))) = nxt (c :: l) from rfl]
  rw [toks_more l.length ((c :: l).drop (nxt (c :: l))).length _ _ (by simp; omega) (Nat.le_refl _)]
theorem eachL_eq (l : List UInt8) : eachL l = rst (skp false l) (l.drop (skp false l)) := by
  unfold eachL rst
  exact toks_more _ _ _ _ (by simp) (Nat.le_refl _)
theorem rst_end_ge : ∀ (n : Nat) (at_ : Nat) (l : List UInt8), l.length ≤ n → at_ ≤ (rst at_ l).2 ∧ (rst at_ l).2 ≤ at_ + l.length
  | _, at_, [], _ => by simp [rst_nil]
  | 0, at_, c :: l, h => by simp at h
  | n + 1, at_, c :: l, h => by
    by_cases hk : knd c = 0
    · rw [rst_none _ hk]; simp
    · rw [rst_some _ hk]
      have hx := nxt_pos c l
      have hy := nxt_le (c :: l)
      have := rst_end_ge n (at_ + nxt (c :: l)) ((c :: l).drop (nxt (c :: l))) (by simp at h ⊢; omega)
      simp at this hy ⊢
      omega
theorem rst_len : ∀ (n : Nat) (at_ : Nat) (l : List UInt8), l.length ≤ n → (rst at_ l).1.length ≤ l.length
  | _, at_, [], _ => by simp [rst_nil]
  | 0, at_, c :: l, h => by simp at h
  | n + 1, at_, c :: l, h => by
    by_cases hk : knd c = 0
    · rw [rst_none _ hk]; simp
    · rw [rst_some _ hk]
      have hx := nxt_pos c l
      have := rst_len n (at_ + nxt (c :: l)) ((c :: l).drop (nxt (c :: l))) (by simp at h ⊢; omega)
      simp at this ⊢
      omega
theorem eachL_len (l : List UInt8) : (eachL l).1.length ≤ l.length := by
  rw [eachL_eq]
  have := rst_len _ (skp false l) (l.drop (skp false l)) (Nat.le_refl _)
  simp at this ⊢
  omega
theorem eachL_end (l : List UInt8) : (eachL l).2 ≤ l.length := by
  rw [eachL_eq]
  have h := rst_end_ge _ (skp false l) (l.drop (skp false l)) (Nat.le_refl _)
  have := skp_le false l
  simp at h
  omega
end Go.Proofs.YtefdcjmfbjlinaaDoor.Sc
