/- Tokens of a text, as plain lists. -/
import Derived.Test.YtcdmgalhboijcaaWord
namespace Go.Proofs.Ytcdmgalhboijcaa.Sc
open Go.RowKit Go.Shelf

def notFeed (c : UInt8) : Bool := c.toNat != 10
/-- How many bytes are left out; true: within a note. -/
def skp : Bool → List UInt8 → Nat
  | _, [] => 0
  | false, c :: l => if c.toNat = 32 ∨ c.toNat = 9 then skp false l + 1 else if c.toNat = 35 then skp true l + 1 else 0
  | true, c :: l => if c.toNat = 10 then 0 else skp true l + 1
structure Tk where
  kind : Nat
  at_ : Nat
  text : List UInt8
  num : Nat
deriving DecidableEq
def knd (c : UInt8) : Nat := if isLet c then 1 else if isDig c then 2 else if c.toNat = 61 then 3 else if c.toNat = 10 then 4 else 0
/-- How long the token is with which a text begins that isn't empty. -/
def tln : List UInt8 → Nat
  | [] => 0
  | c :: l => if isLet c then spn isGo (c :: l) else if isDig c then spn isDig (c :: l) else 1
def nmStep (n : Nat) (c : UInt8) : Nat := min (n * 10 + (c.toNat - 48)) 1099511627776
def nm (l : List UInt8) : Nat := l.foldl nmStep 0
def tkOf (at_ : Nat) : List UInt8 → Tk
  | [] => ⟨0, at_, [], 0⟩
  | c :: l => ⟨knd c, at_, (c :: l).take (tln (c :: l)), if knd c = 2 then nm ((c :: l).take (tln (c :: l))) else 0⟩
/-- The tokens from a place on (where nothing is left out), and where they end. -/
def toks : Nat → Nat → List UInt8 → List Tk × Nat
  | 0, at_, _ => ([], at_)
  | _ + 1, at_, [] => ([], at_)
  | f + 1, at_, c :: l => if knd c = 0 then ([], at_) else
      (tkOf at_ (c :: l) :: (toks f (at_ + tln (c :: l) + skp false ((c :: l).drop (tln (c :: l)))) (((c :: l).drop (tln (c :: l))).drop (skp false ((c :: l).drop (tln (c :: l)))))).1,
       (toks f (at_ + tln (c :: l) + skp false ((c :: l).drop (tln (c :: l)))) (((c :: l).drop (tln (c :: l))).drop (skp false ((c :: l).drop (tln (c :: l)))))).2)
def eachL (l : List UInt8) : List Tk × Nat := toks l.length (skp false l) (l.drop (skp false l))
theorem skp_le : ∀ (b : Bool) (l : List UInt8), skp b l ≤ l.length
  | _, [] => by simp [skp]
  | false, c :: l => by
    have h1 := skp_le false l
    have h2 := skp_le true l
    simp only [skp, List.length_cons]
    split
    · omega
    · split <;> omega
  | true, c :: l => by
    have h2 := skp_le true l
    simp only [skp, List.length_cons]
    split <;> omega
theorem skp_note (l : List UInt8) : skp true l = spn notFeed l + skp false (l.drop (spn notFeed l)) := by
  induction l with
  | nil => rfl
  | cons c l ih =>
    rw [spn_cons]
    unfold notFeed
    by_cases h : c.toNat = 10
    · simp [skp, h]
    · have h2 : (c.toNat != 10) = true := by simpa using h
      simp only [skp, if_neg h]
      rw [if_pos h2, ih]
      show _ = spn notFeed l + 1 + skp false ((c :: l).drop (spn notFeed l + 1))
      rw [List.drop_succ_cons]
      omega
theorem skp_blank {c : UInt8} {l : List UInt8} (h : c.toNat = 32 ∨ c.toNat = 9) : skp false (c :: l) = skp false l + 1 := by
  simp only [skp, if_pos h]
theorem skp_hash {c : UInt8} {l : List UInt8} (h : c.toNat = 35) : skp false (c :: l) = spn notFeed (c :: l) + skp false ((c :: l).drop (spn notFeed (c :: l))) := by
  rw [← skp_note]
  simp only [skp]
  rw [if_neg (by omega), if_pos h, if_neg (by omega)]
theorem skp_other {c : UInt8} {l : List UInt8} (h1 : c.toNat ≠ 32) (h2 : c.toNat ≠ 9) (h3 : c.toNat ≠ 35) : skp false (c :: l) = 0 := by
  simp only [skp]
  rw [if_neg (by omega), if_neg h3]
theorem let_go {c : UInt8} (h : isLet c = true) : isGo c = true := by unfold isGo; simp [h]
theorem tln_pos (c : UInt8) (l : List UInt8) : 1 ≤ tln (c :: l) := by
  simp only [tln]
  split
  · rw [spn_cons, if_pos (let_go ‹_›)]; omega
  · split
    · rw [spn_cons, if_pos ‹_›]; omega
    · omega
theorem tln_le (l : List UInt8) : tln l ≤ l.length := by
  cases l with
  | nil => simp [tln]
  | cons c l =>
    simp only [tln]
    split
    · exact spn_le _ _
    · split
      · exact spn_le _ _
      · simp
theorem nmStep_le (n : Nat) (c : UInt8) : nmStep n c ≤ 1099511627776 := by unfold nmStep; omega
theorem nm_le (l : List UInt8) : nm l ≤ 1099511627776 := by
  unfold nm
  have : ∀ (l : List UInt8) (n : Nat), n ≤ 1099511627776 → l.foldl nmStep n ≤ 1099511627776 := by
    intro l
    induction l with
    | nil => intro n h; exact h
    | cons c l ih => intro n _; exact ih _ (nmStep_le n c)
  exact this l 0 (by omega)
/-- More rounds tell the same. -/
theorem toks_more : ∀ (f g at_ : Nat) (l : List UInt8), l.length ≤ f → l.length ≤ g → toks f at_ l = toks g at_ l
  | 0, g, at_, [], _, _ => by cases g <;> rfl
  | f + 1, 0, at_, [], _, _ => rfl
  | f + 1, g + 1, at_, [], _, _ => rfl
  | 0, g, at_, c :: l, h, _ => by simp at h
  | f + 1, 0, at_, c :: l, _, h => by simp at h
  | f + 1, g + 1, at_, c :: l, h1, h2 => by
    simp only [toks]
    split
    · rfl
    · have hp := tln_pos c l
      simp only [List.length_cons] at h1 h2
      rw [toks_more f g _ _ (by simp; omega) (by simp; omega)]
/-- The tokens from a place on, where nothing is left out. -/
def rst (at_ : Nat) (l : List UInt8) : List Tk × Nat := toks l.length at_ l
theorem rst_nil (at_ : Nat) : rst at_ [] = ([], at_) := rfl
theorem rst_none (at_ : Nat) {c : UInt8} {l : List UInt8} (h : knd c = 0) : rst at_ (c :: l) = ([], at_) := by
  unfold rst; simp only [List.length_cons, toks, if_pos h]
/-- What stands behind a token. -/
def nxt (l : List UInt8) : Nat := tln l + skp false (l.drop (tln l))
theorem nxt_pos (c : UInt8) (l : List UInt8) : 1 ≤ nxt (c :: l) := by unfold nxt; have := tln_pos c l; omega
theorem nxt_le (l : List UInt8) : nxt l ≤ l.length := by
  unfold nxt
  have h1 := tln_le l
  have h2 := skp_le false (l.drop (tln l))
  simp at h2
  omega
theorem rst_some (at_ : Nat) {c : UInt8} {l : List UInt8} (h : knd c ≠ 0) : rst at_ (c :: l) = (tkOf at_ (c :: l) :: (rst (at_ + nxt (c :: l)) ((c :: l).drop (nxt (c :: l)))).1, (rst (at_ + nxt (c :: l)) ((c :: l).drop (nxt (c :: l)))).2) := by
  have hp := tln_pos c l
  have hx := nxt_pos c l
  conv => lhs; unfold rst
  simp only [List.length_cons, toks, if_neg h, List.drop_drop]
  unfold rst
  rw [show at_ + tln (c :: l) + skp false ((c :: l).drop (tln (c :: l))) = at_ + nxt (c :: l) by unfold nxt; omega]
  rw [show tln (c :: l) + skp false ((c :: l).drop (tln (c :: l))) = nxt (c :: l) from rfl]
  rw [toks_more l.length ((c :: l).drop (nxt (c :: l))).length _ _ (by simp; omega) (Nat.le_refl _)]
theorem eachL_eq (l : List UInt8) : eachL l = rst (skp false l) (l.drop (skp false l)) := by
  unfold eachL rst
  exact toks_more _ _ _ _ (by simp) (Nat.le_refl _)
theorem rst_end_ge : ∀ (n : Nat) (at_ : Nat) (l : List UInt8), l.length ≤ n → at_ ≤ (rst at_ l).2 ∧ (rst at_ l).2 ≤ at_ + l.length
  | _, at_, [], _ => by simp [rst_nil]
  | 0, at_, c :: l, h => by simp at h
  | n + 1, at_, c :: l, h => by
    by_cases hk : knd c = 0
    · rw [rst_none _ hk]; simp
    · rw [rst_some _ hk]
      have hx := nxt_pos c l
      have hy := nxt_le (c :: l)
      have := rst_end_ge n (at_ + nxt (c :: l)) ((c :: l).drop (nxt (c :: l))) (by simp at h ⊢; omega)
      simp at this hy ⊢
      omega
theorem rst_len : ∀ (n : Nat) (at_ : Nat) (l : List UInt8), l.length ≤ n → (rst at_ l).1.length ≤ l.length
  | _, at_, [], _ => by simp [rst_nil]
  | 0, at_, c :: l, h => by simp at h
  | n + 1, at_, c :: l, h => by
    by_cases hk : knd c = 0
    · rw [rst_none _ hk]; simp
    · rw [rst_some _ hk]
      have hx := nxt_pos c l
      have := rst_len n (at_ + nxt (c :: l)) ((c :: l).drop (nxt (c :: l))) (by simp at h ⊢; omega)
      simp at this ⊢
      omega
theorem eachL_len (l : List UInt8) : (eachL l).1.length ≤ l.length := by
  rw [eachL_eq]
  have := rst_len _ (skp false l) (l.drop (skp false l)) (Nat.le_refl _)
  simp at this ⊢
  omega
theorem eachL_end (l : List UInt8) : (eachL l).2 ≤ l.length := by
  rw [eachL_eq]
  have h := rst_end_ge _ (skp false l) (l.drop (skp false l)) (Nat.le_refl _)
  have := skp_le false l
  simp at h
  omega
theorem notFeed_int (c : UInt8) : notFeed c = ((c.toNat : Int) != 10) := by
  unfold notFeed
  rw [Bool.eq_iff_iff]
  simp
  omega

theorem tail_data (s : ByteArray) (k : Nat) : (s.extract k s.size).data.toList = s.data.toList.drop k := by
  exact Lib.extract_to_end s k
theorem tail_size (s : ByteArray) (k : Nat) : (s.extract k s.size).size = s.size - k := by
  simp

theorem nm_snoc (l : List UInt8) (c : UInt8) : nm (l ++ [c]) = nmStep (nm l) c := by unfold nm; rw [List.foldl_append]; rfl

theorem mk_take (s : ByteArray) (n : Nat) : s.extract 0 n = ⟨(s.data.toList.take n).toArray⟩ := by
  apply ByteArray.ext
  apply Array.toList_inj.1
  rw [Lib.extract_data]
  simp

def tkV (t : Tk) : Value := .agg #[.int .i64 t.kind, .int .i64 t.at_, .string ⟨t.text.toArray⟩, .int .i64 t.num]
/-- What one tells: of no token the zero one. -/
def oneV (l : List UInt8) : Value := if (tkOf 0 l).kind = 0 then .agg #[.int .i64 0, .int .i64 0, .string ⟨#[]⟩, .int .i64 0] else tkV (tkOf 0 l)

theorem take_all {p : UInt8 → Bool} : ∀ {l : List UInt8}, ∀ c ∈ l.take (spn p l), p c = true
  | [], c, h => by simp at h
  | d :: l, c, h => by
    rw [spn_cons] at h
    split at h
    · rw [List.take_succ_cons] at h
      rcases List.mem_cons.1 h with rfl | h
      · assumption
      · exact take_all c h
    · simp at h

theorem knd_let {c : UInt8} (h : isLet c = true) : knd c = 1 := by unfold knd; rw [if_pos h]
theorem knd_dig {c : UInt8} (h : isLet c = false) (h2 : isDig c = true) : knd c = 2 := by unfold knd; rw [if_neg (by simp [h]), if_pos h2]
theorem knd_eq {c : UInt8} (h : isLet c = false) (h2 : isDig c = false) (h3 : c.toNat = 61) : knd c = 3 := by unfold knd; rw [if_neg (by simp [h]), if_neg (by simp [h2]), if_pos h3]
theorem knd_feed {c : UInt8} (h : isLet c = false) (h2 : isDig c = false) (h3 : c.toNat ≠ 61) (h4 : c.toNat = 10) : knd c = 4 := by unfold knd; rw [if_neg (by simp [h]), if_neg (by simp [h2]), if_neg h3, if_pos h4]
theorem knd_none {c : UInt8} (h : isLet c = false) (h2 : isDig c = false) (h3 : c.toNat ≠ 61) (h4 : c.toNat ≠ 10) : knd c = 0 := by unfold knd; rw [if_neg (by simp [h]), if_neg (by simp [h2]), if_neg h3, if_neg h4]
theorem tln_let {c : UInt8} {l : List UInt8} (h : isLet c = true) : tln (c :: l) = spn isGo (c :: l) := by simp only [tln]; rw [if_pos h]
theorem tln_dig {c : UInt8} {l : List UInt8} (h : isLet c = false) (h2 : isDig c = true) : tln (c :: l) = spn isDig (c :: l) := by simp only [tln]; rw [if_neg (by simp [h]), if_pos h2]
theorem tln_one {c : UInt8} {l : List UInt8} (h : isLet c = false) (h2 : isDig c = false) : tln (c :: l) = 1 := by simp only [tln]; rw [if_neg (by simp [h]), if_neg (by simp [h2])]
theorem oneV_kind {c : UInt8} {l : List UInt8} {k n : Nat} (hk : knd c = k) (h0 : k ≠ 0) (hn : tln (c :: l) = n) : oneV (c :: l) = .agg #[.int .i64 (k : Nat), .int .i64 (0 : Nat), .string ⟨((c :: l).take n).toArray⟩, .int .i64 ((if k = 2 then nm ((c :: l).take n) else 0 : Nat) : Nat)] := by
  have e : tkOf 0 (c :: l) = ⟨k, 0, (c :: l).take n, if k = 2 then nm ((c :: l).take n) else 0⟩ := by
    simp only [tkOf, hk, hn]
  unfold oneV tkV
  rw [e]
  simp only
  rw [if_neg h0]
theorem oneV_none {c : UInt8} {l : List UInt8} (hk : knd c = 0) : oneV (c :: l) = .agg #[.int .i64 0, .int .i64 0, .string ⟨#[]⟩, .int .i64 0] := by
  unfold oneV
  rw [if_pos (by simp only [tkOf, hk])]

end Go.Proofs.Ytcdmgalhboijcaa.Sc
